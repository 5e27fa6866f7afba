/- The law SpecBuilds: its contract. -/
import Derived.Test.YtpjiaafkcojddaaSpG
namespace Go.Proofs.Ytpjiaafkcojddaa
open Go Go.E
set_option linter.unusedVariables false
set_option maxRecDepth 10000
section
variable {ro : Ro} {own r : Chs} {K : Value → Ro → Chs → Prop} {g : Chunk → Chs}
theorem FewD.sm {d : NodeD} (h : FewD d) : NodeSm d := by unfold FewD at h; exact ⟨by omega, by omega, by omega, by omega⟩
theorem take_snoc {α : Type} {l : List α} {i : Nat} {d : α} (h : l[i]? = some d) : l.take (i + 1) = l.take i ++ [d] := by rw [List.take_add_one, h]; rfl
theorem defs_in {s : SpecD} (h : checkD s = 0) : ∀ d ∈ s.defs, 0 ≤ d.type ∧ d.type < (s.nodes.length : Int) := fun d hd => by
  obtain ⟨o, o', _, h2, _⟩ := checkD_ok h
  exact ownAll_mem h2 d.type (List.mem_map.2 ⟨d, hd, rfl⟩)
set_option maxHeartbeats 2000000 in
theorem sbuilds_ok {s : SpecD} {a : SpecA} (ho : SpecOk ro s a) (hi : SpecIn s) (hk : ∀ ro' own', K (.bool true) ro' own') : CallOk Try.prog 9 #[.agg (specV s a).toArray] ro own K := by
  refine CallOk.intro (args := [_]) (rs := [_]) T_ok Try.func9 Try.call9 rfl rfl (by kernel_rfl) rfl rfl ?_
  repeat (first
    | (show _ ∧ _; exact ⟨rfl, rfl, rfl⟩)
    | refine wkG ?_
    | (show OpOk _ _ _ _ _ _ _; first | refine opB (fun b => ?_) | refine opA (fun a' c' hc1 hc2 => ?_))
    | (show GJ _ _ _ _ _ _ _; first | (apply GJ.and; exact rfl; intro hg) | (apply GJ.or; exact rfl; intro hg) | refine GJ.t omAuto ?_ | refine GJ.f omAuto ?_ | refine GJ.ft omAuto ?_ | refine GJ.ff omAuto ?_))
  refine builds_ok (fun ro1 hl1 => ?_)
  have ho1 := ho.le hl1
  repeat (first
    | (show _ ∧ _; exact ⟨rfl, rfl, rfl⟩)
    | refine wkT ?_
    | (show OpOk _ _ _ _ _ _ _; first | refine opB (fun b => ?_) | refine opA (fun a' c' hc1 hc2 => ?_))
    | (show GJ _ _ _ _ _ _ _; first | (apply GJ.and; exact rfl; intro hg) | (apply GJ.or; exact rfl; intro hg)))
  refine small_ok ho1 (fun hs => ?_) (fun hs => ?_)
  · repeat (first
      | (show _ ∧ _; exact ⟨rfl, rfl, rfl⟩)
      | refine wkT ?_
      | (show OpOk _ _ _ _ _ _ _; first | refine opB (fun b => ?_) | refine opA (fun a' c' hc1 hc2 => ?_))
      | (show GJ _ _ _ _ _ _ _; first | (apply GJ.and; exact rfl; intro hg) | (apply GJ.or; exact rfl; intro hg)))
    exact Wk.outS (.all _) (.refl _) (hk _ _)
  obtain ⟨hs1, hs2, hs3⟩ := hs
  repeat (first
    | (show _ ∧ _; exact ⟨rfl, rfl, rfl⟩)
    | refine wkT ?_
    | (show OpOk _ _ _ _ _ _ _; first | refine opB (fun b => ?_) | refine opA (fun a' c' hc1 hc2 => ?_))
    | (show GJ _ _ _ _ _ _ _; first | (apply GJ.and; exact rfl; intro hg) | (apply GJ.or; exact rfl; intro hg)))
  refine Br.cases (fun hd => ?_) (fun hd => ?_)
  · repeat (first
      | (show _ ∧ _; exact ⟨rfl, rfl, rfl⟩)
      | refine wkT ?_
      | (show OpOk _ _ _ _ _ _ _; first | refine opB (fun b => ?_) | refine opA (fun a' c' hc1 hc2 => ?_))
      | (show GJ _ _ _ _ _ _ _; first | (apply GJ.and; exact rfl; intro hg) | (apply GJ.or; exact rfl; intro hg)))
    exact Wk.outS (.all _) (.refl _) (hk _ _)
  repeat (first
    | (show _ ∧ _; exact ⟨rfl, rfl, rfl⟩)
    | refine wkT ?_
    | (show OpOk _ _ _ _ _ _ _; first | refine opB (fun b => ?_) | refine opA (fun a' c' hc1 hc2 => ?_))
    | (show GJ _ _ _ _ _ _ _; first | (apply GJ.and; exact rfl; intro hg) | (apply GJ.or; exact rfl; intro hg)))
  rename_i b0
  obtain ⟨p, hp⟩ : ∃ p, p = b := ⟨_, rfl⟩
  subst hp
  refine LoopOk.auto (ι := Nat × List NodeD × SpecA) Keep.auto (fun (i, l, c) => [(31, .int .i64 (i : Int))]) (fun (i, l, c) => .blk p 85 (specV ⟨l, []⟩ c) :: .sl c.na l.length c.nc 78 18 (nodesV l c.xs) :: .sl c.da 0 c.dc 82 2 [] :: .blk b0 67 (specV s a) :: own) (fun (i, l, c) r' => i ≤ s.nodes.length ∧ l = s.nodes.take i ∧ BuildOk r' ⟨l, []⟩ c) (fun (i, l, c) => s.nodes.length - i) (0, [], ⟨none, 0, none, 0, []⟩) ?_ Sub.auto Sup.auto ?_
  · exact ⟨by omega, rfl, ⟨rfl, fun i d x h => by simp at h, ⟨Nat.le_refl _, Nat.zero_le _⟩, ⟨Nat.le_refl _, Nat.zero_le _⟩⟩⟩
  rintro ⟨i, l, c⟩ ro2 hl2 ⟨i1, rfl, i3⟩
  dsimp only [List.cons_append, List.nil_append]
  have ho2 := ho1.le hl2
  have hr1 := ho2.nodes
  repeat (first
    | (show _ ∧ _; exact ⟨rfl, rfl, rfl⟩)
    | refine wkG ?_
    | (show OpOk _ _ _ _ _ _ _; first | refine opB (fun b => ?_) | refine opA (fun a' c' hc1 hc2 => ?_))
    | (show GJ _ _ _ _ _ _ _; first | (apply GJ.and; exact rfl; intro hg) | (apply GJ.or; exact rfl; intro hg) | refine GJ.t omAuto ?_ | refine GJ.f omAuto ?_ | refine GJ.ft omAuto ?_ | refine GJ.ff omAuto ?_))
  refine Br.cases (fun hg => ?_) (fun hg => ?_)
  · obtain ⟨d, hdd⟩ : ∃ d, s.nodes[i]? = some d := ⟨_, List.getElem?_eq_getElem (by omega)⟩
    obtain ⟨x, hx⟩ : ∃ x, a.xs[i]? = some x := ⟨_, List.getElem?_eq_getElem (by rw [ho.len]; omega)⟩
    have hdr := nodesV_drop _ _ _ _ _ hdd hx
    have hn := ho2.each i d x hdd hx
    have hf := hs1 d (List.mem_of_getElem? hdd)
    have ht := take_snoc hdd
    have htl : (s.nodes.take i).length = i := by rw [List.length_take]; omega
    repeat (first
      | (show _ ∧ _; exact ⟨rfl, rfl, rfl⟩)
      | refine wkG ?_
      | (show OpOk _ _ _ _ _ _ _; first | refine opB (fun b => ?_) | refine opA (fun a' c' hc1 hc2 => ?_))
      | (show GJ _ _ _ _ _ _ _; first | (apply GJ.and; exact rfl; intro hg) | (apply GJ.or; exact rfl; intro hg) | refine GJ.t omAuto ?_ | refine GJ.f omAuto ?_ | refine GJ.ft omAuto ?_ | refine GJ.ff omAuto ?_))
    rw [Int.toNat_natCast]
    refine OpOk.loadRow rfl rfl (LdN.at hr1 hdr) rfl ?_
    repeat (first
      | (show _ ∧ _; exact ⟨rfl, rfl, rfl⟩)
      | refine wkG ?_
      | (show OpOk _ _ _ _ _ _ _; first | refine opB (fun b => ?_) | refine opA (fun a' c' hc1 hc2 => ?_))
      | (show GJ _ _ _ _ _ _ _; first | (apply GJ.and; exact rfl; intro hg) | (apply GJ.or; exact rfl; intro hg) | refine GJ.t omAuto ?_ | refine GJ.f omAuto ?_ | refine GJ.ft omAuto ?_ | refine GJ.ff omAuto ?_))
    refine CallOk.sup (own0 := .blk p 85 (specV ⟨s.nodes.take i, []⟩ c) :: .sl c.na (s.nodes.take i).length c.nc 78 18 (nodesV (s.nodes.take i) c.xs) :: .sl c.da 0 c.dc 82 2 [] :: .blk b0 67 (specV s a) :: own) Sup.auto ?_
    refine badd_at (i := (i : Int)) (s := ⟨s.nodes.take i, []⟩) (a := c) (d := d) (x := x) i3 hn hf.sm (by show (s.nodes.take i).length < 2048; omega) (by show (((s.nodes.take i).length : Nat) : Int) = i; omega) (fun ro3 na3 nc3 x3 hl3 hb3 => ?_)
    repeat (first
      | (show _ ∧ _; exact ⟨rfl, rfl, rfl⟩)
      | refine wkU ?_
      | (show GJ _ _ _ _ _ _ _; first | with_reducible refine GJ.neF ?_ | with_reducible refine GJ.neT ?_)
      | (show Br _ _ _; with_reducible refine Br.ne ?_)
      | (show OpOk _ _ _ _ _ _ _; first | refine opB (fun b => ?_) | refine opA (fun a' c' hc1 hc2 => ?_))
      | (show GJ _ _ _ _ _ _ _; first | (apply GJ.and; exact rfl; intro hg) | (apply GJ.or; exact rfl; intro hg)))
    refine Wk.id ⟨(i + 1, s.nodes.take i ++ [d], ⟨na3, nc3, c.da, c.dc, c.xs ++ [x3]⟩), ?_, ?_, Sub.auto, Sup.auto⟩
    all_goals try dsimp only
    · exact ⟨by omega, ht.symm, hb3⟩
    · omega
  · obtain rfl : i = s.nodes.length := by omega
    rw [List.take_length] at i3 ⊢
    have hr2 := ho2.defs
    have hm2 := hr2.max
    have hle2 := hr2.le
    repeat (first
      | (show _ ∧ _; exact ⟨rfl, rfl, rfl⟩)
      | refine wkU ?_
      | (show GJ _ _ _ _ _ _ _; first | with_reducible refine GJ.neF ?_ | with_reducible refine GJ.neT ?_)
      | (show Br _ _ _; with_reducible refine Br.ne ?_)
      | (show OpOk _ _ _ _ _ _ _; first | refine opB (fun b => ?_) | refine opA (fun a' c' hc1 hc2 => ?_))
      | (show GJ _ _ _ _ _ _ _; first | (apply GJ.and; exact rfl; intro hg) | (apply GJ.or; exact rfl; intro hg)))
    refine LoopOk.at (ι := Nat × List DefD × SpecA) Keep.auto (fun (i, l, c) => [(52, .int .i64 (i : Int))]) (fun (i, l, c) => .blk p 85 (specV ⟨s.nodes, l⟩ c) :: .sl c.na s.nodes.length c.nc 78 18 (nodesV s.nodes c.xs) :: .sl c.da l.length c.dc 82 2 (defsV l) :: .blk b0 67 (specV s a) :: own) (fun (i, l, c) => i ≤ s.defs.length ∧ l = s.defs.take i ∧ BuildOk ro2 ⟨s.nodes, l⟩ c) (fun (i, l, c) => s.defs.length - i) (0, [], c) ?_ Sub.auto Sup.auto ?_
    · exact ⟨by omega, rfl, i3⟩
    rintro ⟨i, l, c⟩ ⟨j1, rfl, j3⟩
    dsimp only [List.cons_append, List.nil_append]
    repeat (first
      | (show _ ∧ _; exact ⟨rfl, rfl, rfl⟩)
      | refine wkG ?_
      | (show OpOk _ _ _ _ _ _ _; first | refine opB (fun b => ?_) | refine opA (fun a' c' hc1 hc2 => ?_))
      | (show GJ _ _ _ _ _ _ _; first | (apply GJ.and; exact rfl; intro hg) | (apply GJ.or; exact rfl; intro hg) | refine GJ.t omAuto ?_ | refine GJ.f omAuto ?_ | refine GJ.ft omAuto ?_ | refine GJ.ff omAuto ?_))
    refine Br.cases (fun hg => ?_) (fun hg => ?_)
    · have hdr := defsV_drop s.defs (i := i) (by omega)
      have ht := take_snoc (List.getElem?_eq_getElem (show i < s.defs.length by omega))
      have htl : (s.defs.take i).length = i := by rw [List.length_take]; omega
      generalize s.defs[i]'(by omega) = f at hdr ht
      repeat (first
        | (show _ ∧ _; exact ⟨rfl, rfl, rfl⟩)
        | refine wkG ?_
        | (show OpOk _ _ _ _ _ _ _; first | refine opB (fun b => ?_) | refine opA (fun a' c' hc1 hc2 => ?_))
        | (show GJ _ _ _ _ _ _ _; first | (apply GJ.and; exact rfl; intro hg) | (apply GJ.or; exact rfl; intro hg) | refine GJ.t omAuto ?_ | refine GJ.f omAuto ?_ | refine GJ.ft omAuto ?_ | refine GJ.ff omAuto ?_))
      rw [Int.toNat_natCast]
      refine OpOk.loadRow rfl rfl (LdN.at hr2 hdr) rfl ?_
      repeat (first
        | (show _ ∧ _; exact ⟨rfl, rfl, rfl⟩)
        | refine wkG ?_
        | (show OpOk _ _ _ _ _ _ _; first | refine opB (fun b => ?_) | refine opA (fun a' c' hc1 hc2 => ?_))
        | (show GJ _ _ _ _ _ _ _; first | (apply GJ.and; exact rfl; intro hg) | (apply GJ.or; exact rfl; intro hg) | refine GJ.t omAuto ?_ | refine GJ.f omAuto ?_ | refine GJ.ft omAuto ?_ | refine GJ.ff omAuto ?_))
      refine CallOk.sup (own0 := .blk p 85 (specV ⟨s.nodes, s.defs.take i⟩ c) :: .sl c.na s.nodes.length c.nc 78 18 (nodesV s.nodes c.xs) :: .sl c.da (s.defs.take i).length c.dc 82 2 (defsV (s.defs.take i)) :: .blk b0 67 (specV s a) :: own) Sup.auto ?_
      refine bname_ok (s := ⟨s.nodes, s.defs.take i⟩) (a := c) (d := f) j3 (by show (s.defs.take i).length < 64; omega) (fun da3 dc3 hb3 => ?_)
      repeat (first
        | (show _ ∧ _; exact ⟨rfl, rfl, rfl⟩)
        | refine wkU ?_
        | (show GJ _ _ _ _ _ _ _; first | with_reducible refine GJ.neF ?_ | with_reducible refine GJ.neT ?_)
        | (show Br _ _ _; with_reducible refine Br.ne ?_)
        | (show OpOk _ _ _ _ _ _ _; first | refine opB (fun b => ?_) | refine opA (fun a' c' hc1 hc2 => ?_))
        | (show GJ _ _ _ _ _ _ _; first | (apply GJ.and; exact rfl; intro hg) | (apply GJ.or; exact rfl; intro hg)))
      refine Wk.id ⟨(i + 1, s.defs.take i ++ [f], ⟨c.na, c.nc, da3, dc3, c.xs⟩), ⟨rfl, ?_⟩, ?_, Sub.auto, Sup.auto⟩
      all_goals try dsimp only
      · exact ⟨by omega, ht.symm, hb3⟩
      · omega
    · obtain rfl : i = s.defs.length := by omega
      rw [List.take_length] at j3 ⊢
      repeat (first
        | (show _ ∧ _; exact ⟨rfl, rfl, rfl⟩)
        | refine wkU ?_
        | (show GJ _ _ _ _ _ _ _; first | with_reducible refine GJ.neF ?_ | with_reducible refine GJ.neT ?_)
        | (show Br _ _ _; with_reducible refine Br.ne ?_)
        | (show OpOk _ _ _ _ _ _ _; first | refine opB (fun b => ?_) | refine opA (fun a' c' hc1 hc2 => ?_))
        | (show GJ _ _ _ _ _ _ _; first | (apply GJ.and; exact rfl; intro hg) | (apply GJ.or; exact rfl; intro hg)))
      refine bspec_ok (s := s) (a := c) (r := .blk b0 67 (specV s a) :: own) j3 ⟨by omega, by omega⟩ (fun d hd => (hs1 d hd).sm) (fun hc => ?_) (fun hc a' ks g1 g2 g3 g4 g5 => ?_)
      · repeat (first
          | (show _ ∧ _; exact ⟨rfl, rfl, rfl⟩)
          | refine wkU ?_
          | (show GJ _ _ _ _ _ _ _; first | with_reducible refine GJ.neF ?_ | with_reducible refine GJ.neT ?_)
          | (show Br _ _ _; with_reducible refine Br.ne ?_)
          | (show OpOk _ _ _ _ _ _ _; first | refine opB (fun b => ?_) | refine opA (fun a' c' hc1 hc2 => ?_))
          | (show GJ _ _ _ _ _ _ _; first | (apply GJ.and; exact rfl; intro hg) | (apply GJ.or; exact rfl; intro hg)))
        refine check_ok ho2 ?_
        repeat (first
          | (show _ ∧ _; exact ⟨rfl, rfl, rfl⟩)
          | refine wkU ?_
          | (show GJ _ _ _ _ _ _ _; first | with_reducible refine GJ.neF ?_ | with_reducible refine GJ.neT ?_)
          | (show Br _ _ _; with_reducible refine Br.ne ?_)
          | (show OpOk _ _ _ _ _ _ _; first | refine opB (fun b => ?_) | refine opA (fun a' c' hc1 hc2 => ?_))
          | (show GJ _ _ _ _ _ _ _; first | (apply GJ.and; exact rfl; intro hg) | (apply GJ.or; exact rfl; intro hg)))
        exact Wk.outS (.all _) (.refl _) (hk _ _)
      · repeat (first
          | (show _ ∧ _; exact ⟨rfl, rfl, rfl⟩)
          | refine wkU ?_
          | (show GJ _ _ _ _ _ _ _; first | with_reducible refine GJ.neF ?_ | with_reducible refine GJ.neT ?_)
          | (show Br _ _ _; with_reducible refine Br.ne ?_)
          | (show OpOk _ _ _ _ _ _ _; first | refine opB (fun b => ?_) | refine opA (fun a' c' hc1 hc2 => ?_))
          | (show GJ _ _ _ _ _ _ _; first | (apply GJ.and; exact rfl; intro hg) | (apply GJ.or; exact rfl; intro hg)))
        refine OpOk.perm (own' := .blk b 67 (specV s a') :: .blk p 85 (specV s c) :: .sl c.na s.nodes.length c.nc 78 18 (nodesV s.nodes c.xs) :: .sl c.da s.defs.length c.dc 82 2 (defsV s.defs) :: .blk b0 67 (specV s a) :: (own ++ specC s a' ks)) ((List.perm_append_comm).cons _) ?_
        repeat (first
          | (show _ ∧ _; exact ⟨rfl, rfl, rfl⟩)
          | refine wkU ?_
          | (show GJ _ _ _ _ _ _ _; first | with_reducible refine GJ.neF ?_ | with_reducible refine GJ.neT ?_)
          | (show Br _ _ _; with_reducible refine Br.ne ?_)
          | (show OpOk _ _ _ _ _ _ _; first | refine opB (fun b => ?_) | refine opA (fun a' c' hc1 hc2 => ?_))
          | (show GJ _ _ _ _ _ _ _; first | (apply GJ.and; exact rfl; intro hg) | (apply GJ.or; exact rfl; intro hg)))
        refine check_ok ho2 ?_
        rw [hc]
        repeat (first
          | (show _ ∧ _; exact ⟨rfl, rfl, rfl⟩)
          | refine wkU ?_
          | (show GJ _ _ _ _ _ _ _; first | with_reducible refine GJ.neF ?_ | with_reducible refine GJ.neT ?_)
          | (show Br _ _ _; with_reducible refine Br.ne ?_)
          | (show OpOk _ _ _ _ _ _ _; first | refine opB (fun b => ?_) | refine opA (fun a' c' hc1 hc2 => ?_))
          | (show GJ _ _ _ _ _ _ _; first | (apply GJ.and; exact rfl; intro hg) | (apply GJ.or; exact rfl; intro hg)))
        have hpm : (.blk b 67 (specV s a') :: .blk p 85 (specV s c) :: .sl c.na s.nodes.length c.nc 78 18 (nodesV s.nodes c.xs) :: .sl c.da s.defs.length c.dc 82 2 (defsV s.defs) :: .blk b0 67 (specV s a) :: (own ++ specC s a' ks) : Chs).Perm (specC s a' ks ++ (.blk b 67 (specV s a') :: .blk p 85 (specV s c) :: .sl c.na s.nodes.length c.nc 78 18 (nodesV s.nodes c.xs) :: .sl c.da s.defs.length c.dc 82 2 (defsV s.defs) :: .blk b0 67 (specV s a) :: own)) := List.perm_append_comm (l₁ := (.blk b 67 (specV s a') :: .blk p 85 (specV s c) :: .sl c.na s.nodes.length c.nc 78 18 (nodesV s.nodes c.xs) :: .sl c.da s.defs.length c.dc 82 2 (defsV s.defs) :: .blk b0 67 (specV s a) :: own : Chs)) (l₂ := specC s a' ks)
        refine CallOk.borrow (l := specC s a' ks) (u := .bool true) hpm (fun ro' hl hh => msame_ok (ho2.le hl) (SpecOk.made g1 g2 g3 hh) (Ahead.of hc) (defs_in hc) ⟨rfl, rfl⟩) ?_
        repeat (first
          | (show _ ∧ _; exact ⟨rfl, rfl, rfl⟩)
          | refine wkU ?_
          | (show GJ _ _ _ _ _ _ _; first | with_reducible refine GJ.neF ?_ | with_reducible refine GJ.neT ?_)
          | (show Br _ _ _; with_reducible refine Br.ne ?_)
          | (show OpOk _ _ _ _ _ _ _; first | refine opB (fun b => ?_) | refine opA (fun a' c' hc1 hc2 => ?_))
          | (show GJ _ _ _ _ _ _ _; first | (apply GJ.and; exact rfl; intro hg) | (apply GJ.or; exact rfl; intro hg)))
        refine CallOk.borrow (l := specC s a' ks) (u := .bool true) hpm (fun ro' hl hh => msame_ok (SpecOk.made g1 g2 g3 hh) (ho2.le hl) (Ahead.of hc) (defs_in hc) ⟨rfl, rfl⟩) ?_
        repeat (first
          | (show _ ∧ _; exact ⟨rfl, rfl, rfl⟩)
          | refine wkU ?_
          | (show GJ _ _ _ _ _ _ _; first | with_reducible refine GJ.neF ?_ | with_reducible refine GJ.neT ?_)
          | (show Br _ _ _; with_reducible refine Br.ne ?_)
          | (show OpOk _ _ _ _ _ _ _; first | refine opB (fun b => ?_) | refine opA (fun a' c' hc1 hc2 => ?_))
          | (show GJ _ _ _ _ _ _ _; first | (apply GJ.and; exact rfl; intro hg) | (apply GJ.or; exact rfl; intro hg)))
        refine loopPerm (own' := .blk b 67 (specV s a') :: .blk p 85 (specV s c) :: .sl c.na s.nodes.length c.nc 78 18 (nodesV s.nodes c.xs) :: .sl c.da s.defs.length c.dc 82 2 (defsV s.defs) :: .blk b0 67 (specV s a) :: .sl a'.na s.nodes.length a'.nc 78 18 (nodesV s.nodes a'.xs) :: .sl a'.da s.defs.length a'.dc 82 2 (defsV s.defs) :: (nodesC s.nodes a'.xs ks ++ own)) ((((((List.perm_append_comm (l₁ := own) (l₂ := specC s a' ks))).cons _).cons _).cons _).cons _ |>.cons _) ?_
        refine LoopOk.at (ι := Nat × List NodeD × Chs) Keep.auto (fun (i, ds, cl) => [(97, .int .i64 (i : Int))]) (fun (i, ds, cl) => .blk b 67 (specV s a') :: .blk p 85 (specV s c) :: .sl c.na s.nodes.length c.nc 78 18 (nodesV s.nodes c.xs) :: .sl c.da s.defs.length c.dc 82 2 (defsV s.defs) :: .blk b0 67 (specV s a) :: .sl a'.na s.nodes.length a'.nc 78 18 (nodesV s.nodes a'.xs) :: .sl a'.da s.defs.length a'.dc 82 2 (defsV s.defs) :: (cl ++ own)) (fun (i, ds, cl) => i ≤ s.nodes.length ∧ ds.length = s.nodes.length ∧ nodesV ds a'.xs = nodesV s.nodes a'.xs ∧ (∀ j, i ≤ j → ds[j]? = s.nodes[j]?) ∧ cl.Perm (nodesC ds a'.xs ks)) (fun (i, ds, cl) => s.nodes.length - i) (0, s.nodes, nodesC s.nodes a'.xs ks) ?_ Sub.auto Sup.auto ?_
        · exact ⟨by omega, rfl, rfl, fun _ _ => rfl, .refl _⟩
        rintro ⟨i, ds, cl⟩ ⟨e1, e2, e3, e4, e5⟩
        dsimp only [List.cons_append, List.nil_append] at e1 e2 e3 e4 e5 ⊢
        repeat (first
          | (show _ ∧ _; exact ⟨rfl, rfl, rfl⟩)
          | refine wkU ?_
          | (show GJ _ _ _ _ _ _ _; first | with_reducible refine GJ.neF ?_ | with_reducible refine GJ.neT ?_)
          | (show Br _ _ _; with_reducible refine Br.ne ?_)
          | (show OpOk _ _ _ _ _ _ _; first | refine opB (fun b => ?_) | refine opA (fun a' c' hc1 hc2 => ?_))
          | (show GJ _ _ _ _ _ _ _; first | (apply GJ.and; exact rfl; intro hg) | (apply GJ.or; exact rfl; intro hg)))
        refine Br.cases (fun hg => ?_) (fun hg => ?_)
        · obtain ⟨d, hd1⟩ : ∃ d, ds[i]? = some d := ⟨_, List.getElem?_eq_getElem (by omega)⟩
          obtain ⟨x, hx1⟩ : ∃ x, a'.xs[i]? = some x := ⟨_, List.getElem?_eq_getElem (by omega)⟩
          obtain ⟨⟨k1, k2, k3, k4⟩, hk1⟩ : ∃ k, ks[i]? = some k := ⟨_, List.getElem?_eq_getElem (by omega)⟩
          have hdm := List.mem_of_getElem? (hd1.symm.trans (e4 i (by omega))).symm
          have hnm := hi.names d hdm
          have hfw := hs1 d hdm
          unfold FewD at hfw
          have hfl : (nodesV s.nodes a'.xs)[i * 18 + 13]? = some (.slice x.fa d.fields.length x.fc) := by rw [← e3]; exact nodesV_get hd1 hx1 (by omega)
          have hkl : (nodesV s.nodes a'.xs)[i * 18 + 11]? = some (.slice x.ka d.kids.length x.kc) := by rw [← e3]; exact nodesV_get hd1 hx1 (by omega)
          obtain ⟨pre, post, he⟩ := nodesC_at ds a'.xs ks i x (k1, k2, k3, k4) (by omega) hx1 hk1
          have hcl : cl.Perm ([.sl x.ka d.kids.length k1 3 1 (kidsV d.kids), .sl x.la d.last.length k2 4 1 (lastV d.last), .sl x.fa d.fields.length k3 93 5 (fieldsV d.fields), .sl x.ca d.cases.length k4 113 2 (casesV d.cases)] ++ (pre ++ post)) := by
            have h1 := he d
            rw [set_same hd1] at h1
            rw [h1] at e5
            exact e5.trans (List.perm_append_comm_assoc _ _ _)
          repeat (first
            | (show _ ∧ _; exact ⟨rfl, rfl, rfl⟩)
            | refine wkU ?_
            | (show GJ _ _ _ _ _ _ _; first | with_reducible refine GJ.neF ?_ | with_reducible refine GJ.neT ?_)
            | (show Br _ _ _; with_reducible refine Br.ne ?_)
            | (show OpOk _ _ _ _ _ _ _; first | refine opB (fun b => ?_) | refine opA (fun a' c' hc1 hc2 => ?_))
            | (show GJ _ _ _ _ _ _ _; first | (apply GJ.and; exact rfl; intro hg) | (apply GJ.or; exact rfl; intro hg)))
          refine OpOk.perm (own' := .blk b 67 (specV s a') :: .blk p 85 (specV s c) :: .sl c.na s.nodes.length c.nc 78 18 (nodesV s.nodes c.xs) :: .sl c.da s.defs.length c.dc 82 2 (defsV s.defs) :: .blk b0 67 (specV s a) :: .sl a'.na s.nodes.length a'.nc 78 18 (nodesV s.nodes a'.xs) :: .sl a'.da s.defs.length a'.dc 82 2 (defsV s.defs) :: .sl x.ka d.kids.length k1 3 1 (kidsV d.kids) :: .sl x.la d.last.length k2 4 1 (lastV d.last) :: .sl x.fa d.fields.length k3 93 5 (fieldsV d.fields) :: .sl x.ca d.cases.length k4 113 2 (casesV d.cases) :: ((pre ++ post) ++ own)) (((((((((hcl.append_right own)).cons _).cons _).cons _).cons _).cons _).cons _).cons _) ?_
          refine OpOk.load rfl rfl (Ld.slAt (a := a'.na) (by omega) hfl) ?_
          repeat (first
            | (show _ ∧ _; exact ⟨rfl, rfl, rfl⟩)
            | refine wkU ?_
            | (show GJ _ _ _ _ _ _ _; first | with_reducible refine GJ.neF ?_ | with_reducible refine GJ.neT ?_)
            | (show Br _ _ _; with_reducible refine Br.ne ?_)
            | (show OpOk _ _ _ _ _ _ _; first | refine opB (fun b => ?_) | refine opA (fun a' c' hc1 hc2 => ?_))
            | (show GJ _ _ _ _ _ _ _; first | (apply GJ.and; exact rfl; intro hg) | (apply GJ.or; exact rfl; intro hg)))
          refine LoopOk.at (ι := Nat × List FieldD) Keep.auto (fun (k, fs) => [(107, .int .i64 (k : Int))]) (fun (k, fs) => .blk b 67 (specV s a') :: .blk p 85 (specV s c) :: .sl c.na s.nodes.length c.nc 78 18 (nodesV s.nodes c.xs) :: .sl c.da s.defs.length c.dc 82 2 (defsV s.defs) :: .blk b0 67 (specV s a) :: .sl a'.na s.nodes.length a'.nc 78 18 (nodesV s.nodes a'.xs) :: .sl a'.da s.defs.length a'.dc 82 2 (defsV s.defs) :: .sl x.ka d.kids.length k1 3 1 (kidsV d.kids) :: .sl x.la d.last.length k2 4 1 (lastV d.last) :: .sl x.fa d.fields.length k3 93 5 (fieldsV fs) :: .sl x.ca d.cases.length k4 113 2 (casesV d.cases) :: ((pre ++ post) ++ own)) (fun (k, fs) => k ≤ d.fields.length ∧ fs.length = d.fields.length ∧ ∀ j, k ≤ j → fs[j]? = d.fields[j]?) (fun (k, fs) => d.fields.length - k) (0, d.fields) ?_ Sub.auto Sup.auto ?_
          · exact ⟨by omega, rfl, fun _ _ => rfl⟩
          rintro ⟨k, fs⟩ ⟨m1, m2, m0⟩
          dsimp only [List.cons_append, List.nil_append] at m1 m2 m0 ⊢
          repeat (first
            | (show _ ∧ _; exact ⟨rfl, rfl, rfl⟩)
            | refine wkU ?_
            | (show GJ _ _ _ _ _ _ _; first | with_reducible refine GJ.neF ?_ | with_reducible refine GJ.neT ?_)
            | (show Br _ _ _; with_reducible refine Br.ne ?_)
            | (show OpOk _ _ _ _ _ _ _; first | refine opB (fun b => ?_) | refine opA (fun a' c' hc1 hc2 => ?_))
            | (show GJ _ _ _ _ _ _ _; first | (apply GJ.and; exact rfl; intro hg) | (apply GJ.or; exact rfl; intro hg)))
          refine Br.cases (fun hg2 => ?_) (fun hg2 => ?_)
          · obtain ⟨f, hf1⟩ : ∃ f, fs[k]? = some f := ⟨_, List.getElem?_eq_getElem (by omega)⟩
            have hfm := hnm f (List.mem_of_getElem? (hf1.symm.trans (m0 k (by omega))).symm)
            unfold reachBytes at hfm
            have hfn : (fieldsV fs)[k * 5]? = some (str f.name) := fieldsV_get (o := 0) hf1 (by omega)
            repeat (first
              | (show _ ∧ _; exact ⟨rfl, rfl, rfl⟩)
              | refine wkU ?_
              | (show GJ _ _ _ _ _ _ _; first | with_reducible refine GJ.neF ?_ | with_reducible refine GJ.neT ?_)
              | (show Br _ _ _; with_reducible refine Br.ne ?_)
              | (show OpOk _ _ _ _ _ _ _; first | refine opB (fun b => ?_) | refine opA (fun a' c' hc1 hc2 => ?_))
              | (show GJ _ _ _ _ _ _ _; first | (apply GJ.and; exact rfl; intro hg) | (apply GJ.or; exact rfl; intro hg)))
            refine OpOk.load rfl rfl (Ld.slAt (a := a'.na) (by omega) hfl) ?_
            repeat (first
              | (show _ ∧ _; exact ⟨rfl, rfl, rfl⟩)
              | refine wkU ?_
              | (show GJ _ _ _ _ _ _ _; first | with_reducible refine GJ.neF ?_ | with_reducible refine GJ.neT ?_)
              | (show Br _ _ _; with_reducible refine Br.ne ?_)
              | (show OpOk _ _ _ _ _ _ _; first | refine opB (fun b => ?_) | refine opA (fun a' c' hc1 hc2 => ?_))
              | (show GJ _ _ _ _ _ _ _; first | (apply GJ.and; exact rfl; intro hg) | (apply GJ.or; exact rfl; intro hg)))
            refine OpOk.load rfl rfl (Ld.slAt (a := x.fa) (by omega) hfn) ?_
            repeat (first
              | (show _ ∧ _; exact ⟨rfl, rfl, rfl⟩)
              | refine wkU ?_
              | (show GJ _ _ _ _ _ _ _; first | with_reducible refine GJ.neF ?_ | with_reducible refine GJ.neT ?_)
              | (show Br _ _ _; with_reducible refine Br.ne ?_)
              | (show OpOk _ _ _ _ _ _ _; first | refine opB (fun b => ?_) | refine opA (fun a' c' hc1 hc2 => ?_))
              | (show GJ _ _ _ _ _ _ _; first | (apply GJ.and; exact rfl; intro hg) | (apply GJ.or; exact rfl; intro hg)))
            refine ⟨by show f.name.length + 1 ≤ _; omega, ?_⟩
            repeat (first
              | (show _ ∧ _; exact ⟨rfl, rfl, rfl⟩)
              | refine wkU ?_
              | (show GJ _ _ _ _ _ _ _; first | with_reducible refine GJ.neF ?_ | with_reducible refine GJ.neT ?_)
              | (show Br _ _ _; with_reducible refine Br.ne ?_)
              | (show OpOk _ _ _ _ _ _ _; first | refine opB (fun b => ?_) | refine opA (fun a' c' hc1 hc2 => ?_))
              | (show GJ _ _ _ _ _ _ _; first | (apply GJ.and; exact rfl; intro hg) | (apply GJ.or; exact rfl; intro hg)))
            refine OpOk.storeSlAt (a := x.fa) (o := ao x.fa + (k : Int).toNat * 5 + 0) (k := k * 5) (cs := fieldsV fs) rfl rfl rfl rfl (by omega) (by rw [fieldsV_len]; omega) ?_
            rw [fieldsV_set (n := f.name ++ [120]) _ _ hf1]
            repeat (first
              | (show _ ∧ _; exact ⟨rfl, rfl, rfl⟩)
              | refine wkU ?_
              | (show GJ _ _ _ _ _ _ _; first | with_reducible refine GJ.neF ?_ | with_reducible refine GJ.neT ?_)
              | (show Br _ _ _; with_reducible refine Br.ne ?_)
              | (show OpOk _ _ _ _ _ _ _; first | refine opB (fun b => ?_) | refine opA (fun a' c' hc1 hc2 => ?_))
              | (show GJ _ _ _ _ _ _ _; first | (apply GJ.and; exact rfl; intro hg) | (apply GJ.or; exact rfl; intro hg)))
            refine Wk.id ⟨(k + 1, fs.set k { f with name := f.name ++ [120] }), ⟨rfl, ?_⟩, ?_, Sub.auto, Sup.auto⟩
            all_goals try dsimp only
            · exact ⟨by omega, by rw [List.length_set]; exact m2, fun j hj => by rw [List.getElem?_set_ne (by omega)]; exact m0 j (by omega)⟩
            · omega
          · repeat (first
              | (show _ ∧ _; exact ⟨rfl, rfl, rfl⟩)
              | refine wkU ?_
              | (show GJ _ _ _ _ _ _ _; first | with_reducible refine GJ.neF ?_ | with_reducible refine GJ.neT ?_)
              | (show Br _ _ _; with_reducible refine Br.ne ?_)
              | (show OpOk _ _ _ _ _ _ _; first | refine opB (fun b => ?_) | refine opA (fun a' c' hc1 hc2 => ?_))
              | (show GJ _ _ _ _ _ _ _; first | (apply GJ.and; exact rfl; intro hg) | (apply GJ.or; exact rfl; intro hg)))
            refine OpOk.load rfl rfl (Ld.slAt (a := a'.na) (by omega) hkl) ?_
            repeat (first
              | (show _ ∧ _; exact ⟨rfl, rfl, rfl⟩)
              | refine wkU ?_
              | (show GJ _ _ _ _ _ _ _; first | with_reducible refine GJ.neF ?_ | with_reducible refine GJ.neT ?_)
              | (show Br _ _ _; with_reducible refine Br.ne ?_)
              | (show OpOk _ _ _ _ _ _ _; first | refine opB (fun b => ?_) | refine opA (fun a' c' hc1 hc2 => ?_))
              | (show GJ _ _ _ _ _ _ _; first | (apply GJ.and; exact rfl; intro hg) | (apply GJ.or; exact rfl; intro hg)))
            refine LoopOk.at (ι := Nat × List Int) Keep.auto (fun (k, ls) => [(131, .int .i64 (k : Int))]) (fun (k, ls) => .blk b 67 (specV s a') :: .blk p 85 (specV s c) :: .sl c.na s.nodes.length c.nc 78 18 (nodesV s.nodes c.xs) :: .sl c.da s.defs.length c.dc 82 2 (defsV s.defs) :: .blk b0 67 (specV s a) :: .sl a'.na s.nodes.length a'.nc 78 18 (nodesV s.nodes a'.xs) :: .sl a'.da s.defs.length a'.dc 82 2 (defsV s.defs) :: .sl x.ka d.kids.length k1 3 1 (kidsV ls) :: .sl x.la d.last.length k2 4 1 (lastV d.last) :: .sl x.fa d.fields.length k3 93 5 (fieldsV fs) :: .sl x.ca d.cases.length k4 113 2 (casesV d.cases) :: ((pre ++ post) ++ own)) (fun (k, ls) => k ≤ d.kids.length ∧ ls.length = d.kids.length) (fun (k, ls) => d.kids.length - k) (0, d.kids) ?_ Sub.auto Sup.auto ?_
            · exact ⟨by omega, rfl⟩
            rintro ⟨k0, ls⟩ ⟨m3, m4⟩
            dsimp only [List.cons_append, List.nil_append] at m3 m4 ⊢
            repeat (first
              | (show _ ∧ _; exact ⟨rfl, rfl, rfl⟩)
              | refine wkU ?_
              | (show GJ _ _ _ _ _ _ _; first | with_reducible refine GJ.neF ?_ | with_reducible refine GJ.neT ?_)
              | (show Br _ _ _; with_reducible refine Br.ne ?_)
              | (show OpOk _ _ _ _ _ _ _; first | refine opB (fun b => ?_) | refine opA (fun a' c' hc1 hc2 => ?_))
              | (show GJ _ _ _ _ _ _ _; first | (apply GJ.and; exact rfl; intro hg) | (apply GJ.or; exact rfl; intro hg)))
            refine Br.cases (fun hg3 => ?_) (fun hg3 => ?_)
            · repeat (first
                | (show _ ∧ _; exact ⟨rfl, rfl, rfl⟩)
                | refine wkU ?_
                | (show GJ _ _ _ _ _ _ _; first | with_reducible refine GJ.neF ?_ | with_reducible refine GJ.neT ?_)
                | (show Br _ _ _; with_reducible refine Br.ne ?_)
                | (show OpOk _ _ _ _ _ _ _; first | refine opB (fun b => ?_) | refine opA (fun a' c' hc1 hc2 => ?_))
                | (show GJ _ _ _ _ _ _ _; first | (apply GJ.and; exact rfl; intro hg) | (apply GJ.or; exact rfl; intro hg)))
              refine OpOk.load rfl rfl (Ld.slAt (a := a'.na) (by omega) hkl) ?_
              repeat (first
                | (show _ ∧ _; exact ⟨rfl, rfl, rfl⟩)
                | refine wkU ?_
                | (show GJ _ _ _ _ _ _ _; first | with_reducible refine GJ.neF ?_ | with_reducible refine GJ.neT ?_)
                | (show Br _ _ _; with_reducible refine Br.ne ?_)
                | (show OpOk _ _ _ _ _ _ _; first | refine opB (fun b => ?_) | refine opA (fun a' c' hc1 hc2 => ?_))
                | (show GJ _ _ _ _ _ _ _; first | (apply GJ.and; exact rfl; intro hg) | (apply GJ.or; exact rfl; intro hg)))
              refine OpOk.storeSlAt (a := x.ka) (k := k0) rfl rfl rfl rfl (by omega) (by unfold kidsV; rw [List.length_map]; omega) ?_
              rw [kidsV_set]
              repeat (first
                | (show _ ∧ _; exact ⟨rfl, rfl, rfl⟩)
                | refine wkU ?_
                | (show GJ _ _ _ _ _ _ _; first | with_reducible refine GJ.neF ?_ | with_reducible refine GJ.neT ?_)
                | (show Br _ _ _; with_reducible refine Br.ne ?_)
                | (show OpOk _ _ _ _ _ _ _; first | refine opB (fun b => ?_) | refine opA (fun a' c' hc1 hc2 => ?_))
                | (show GJ _ _ _ _ _ _ _; first | (apply GJ.and; exact rfl; intro hg) | (apply GJ.or; exact rfl; intro hg)))
              refine Wk.id ⟨(k0 + 1, ls.set k0 (-1)), ⟨rfl, ?_⟩, ?_, Sub.auto, Sup.auto⟩
              all_goals try dsimp only
              · exact ⟨by omega, by rw [List.length_set]; exact m4⟩
              · omega
            · repeat (first
                | (show _ ∧ _; exact ⟨rfl, rfl, rfl⟩)
                | refine wkU ?_
                | (show GJ _ _ _ _ _ _ _; first | with_reducible refine GJ.neF ?_ | with_reducible refine GJ.neT ?_)
                | (show Br _ _ _; with_reducible refine Br.ne ?_)
                | (show OpOk _ _ _ _ _ _ _; first | refine opB (fun b => ?_) | refine opA (fun a' c' hc1 hc2 => ?_))
                | (show GJ _ _ _ _ _ _ _; first | (apply GJ.and; exact rfl; intro hg) | (apply GJ.or; exact rfl; intro hg)))
              refine Wk.id ⟨(i + 1, ds.set i { d with fields := fs, kids := ls }, [.sl x.ka d.kids.length k1 3 1 (kidsV ls), .sl x.la d.last.length k2 4 1 (lastV d.last), .sl x.fa d.fields.length k3 93 5 (fieldsV fs), .sl x.ca d.cases.length k4 113 2 (casesV d.cases)] ++ (pre ++ post)), ⟨rfl, ?_⟩, ?_, Sub.auto, Sup.auto⟩
              all_goals try dsimp only
              · refine ⟨by omega, by rw [List.length_set]; exact e2, ?_, fun j hj => by rw [List.getElem?_set_ne (by omega)]; exact e4 j (by omega), ?_⟩
                · rw [← e3]; exact nodesV_set (fun x => by simp only [nodeV, m2, m4]) hd1
                · rw [he]
                  have hn : nodeC { d with fields := fs, kids := ls } x (k1, k2, k3, k4) = [.sl x.ka d.kids.length k1 3 1 (kidsV ls), .sl x.la d.last.length k2 4 1 (lastV d.last), .sl x.fa d.fields.length k3 93 5 (fieldsV fs), .sl x.ca d.cases.length k4 113 2 (casesV d.cases)] := by simp only [nodeC, m2, m4]
                  rw [hn]
                  exact List.perm_append_comm_assoc _ _ _
              · omega
        · repeat (first
            | (show _ ∧ _; exact ⟨rfl, rfl, rfl⟩)
            | refine wkU ?_
            | (show GJ _ _ _ _ _ _ _; first | with_reducible refine GJ.neF ?_ | with_reducible refine GJ.neT ?_)
            | (show Br _ _ _; with_reducible refine Br.ne ?_)
            | (show OpOk _ _ _ _ _ _ _; first | refine opB (fun b => ?_) | refine opA (fun a' c' hc1 hc2 => ?_))
            | (show GJ _ _ _ _ _ _ _; first | (apply GJ.and; exact rfl; intro hg) | (apply GJ.or; exact rfl; intro hg)))
          obtain ⟨q, hq⟩ : ∃ q, q = b := ⟨_, rfl⟩
          subst hq
          refine CallOk.sup (own0 := .blk p 85 (specV s c) :: .sl c.na s.nodes.length c.nc 78 18 (nodesV s.nodes c.xs) :: .sl c.da s.defs.length c.dc 82 2 (defsV s.defs) :: .blk q 67 (specV s a') :: .blk b0 67 (specV s a) :: .sl a'.na s.nodes.length a'.nc 78 18 (nodesV s.nodes a'.xs) :: .sl a'.da s.defs.length a'.dc 82 2 (defsV s.defs) :: (cl ++ own)) Sup.auto ?_
          refine bspec_ok (s := s) (a := c) j3 ⟨by omega, by omega⟩ (fun d hd => (hs1 d hd).sm) (fun h => absurd hc h) (fun _ a2 ks2 g6 g7 g8 g9 g0 => ?_)
          repeat (first
            | (show _ ∧ _; exact ⟨rfl, rfl, rfl⟩)
            | refine wkU ?_
            | (show GJ _ _ _ _ _ _ _; first | with_reducible refine GJ.neF ?_ | with_reducible refine GJ.neT ?_)
            | (show Br _ _ _; with_reducible refine Br.ne ?_)
            | (show OpOk _ _ _ _ _ _ _; first | refine opB (fun b => ?_) | refine opA (fun a' c' hc1 hc2 => ?_))
            | (show GJ _ _ _ _ _ _ _; first | (apply GJ.and; exact rfl; intro hg) | (apply GJ.or; exact rfl; intro hg)))
          refine OpOk.perm (own' := .blk b 67 (specV s a2) :: ((.blk p 85 (specV s c) :: .sl c.na s.nodes.length c.nc 78 18 (nodesV s.nodes c.xs) :: .sl c.da s.defs.length c.dc 82 2 (defsV s.defs) :: .blk q 67 (specV s a') :: .blk b0 67 (specV s a) :: .sl a'.na s.nodes.length a'.nc 78 18 (nodesV s.nodes a'.xs) :: .sl a'.da s.defs.length a'.dc 82 2 (defsV s.defs) :: (cl ++ own)) ++ specC s a2 ks2)) ((List.perm_append_comm).cons _) ?_
          dsimp only [List.cons_append, List.nil_append]
          repeat (first
            | (show _ ∧ _; exact ⟨rfl, rfl, rfl⟩)
            | refine wkU ?_
            | (show GJ _ _ _ _ _ _ _; first | with_reducible refine GJ.neF ?_ | with_reducible refine GJ.neT ?_)
            | (show Br _ _ _; with_reducible refine Br.ne ?_)
            | (show OpOk _ _ _ _ _ _ _; first | refine opB (fun b => ?_) | refine opA (fun a' c' hc1 hc2 => ?_))
            | (show GJ _ _ _ _ _ _ _; first | (apply GJ.and; exact rfl; intro hg) | (apply GJ.or; exact rfl; intro hg)))
          have hpm2 : (.blk b 67 (specV s a2) :: ((.blk p 85 (specV s c) :: .sl c.na s.nodes.length c.nc 78 18 (nodesV s.nodes c.xs) :: .sl c.da s.defs.length c.dc 82 2 (defsV s.defs) :: .blk q 67 (specV s a') :: .blk b0 67 (specV s a) :: .sl a'.na s.nodes.length a'.nc 78 18 (nodesV s.nodes a'.xs) :: .sl a'.da s.defs.length a'.dc 82 2 (defsV s.defs) :: (cl ++ own)) ++ specC s a2 ks2) : Chs).Perm (specC s a2 ks2 ++ (.blk b 67 (specV s a2) :: (.blk p 85 (specV s c) :: .sl c.na s.nodes.length c.nc 78 18 (nodesV s.nodes c.xs) :: .sl c.da s.defs.length c.dc 82 2 (defsV s.defs) :: .blk q 67 (specV s a') :: .blk b0 67 (specV s a) :: .sl a'.na s.nodes.length a'.nc 78 18 (nodesV s.nodes a'.xs) :: .sl a'.da s.defs.length a'.dc 82 2 (defsV s.defs) :: (cl ++ own)))) := List.perm_append_comm (l₁ := (.blk b 67 (specV s a2) :: (.blk p 85 (specV s c) :: .sl c.na s.nodes.length c.nc 78 18 (nodesV s.nodes c.xs) :: .sl c.da s.defs.length c.dc 82 2 (defsV s.defs) :: .blk q 67 (specV s a') :: .blk b0 67 (specV s a) :: .sl a'.na s.nodes.length a'.nc 78 18 (nodesV s.nodes a'.xs) :: .sl a'.da s.defs.length a'.dc 82 2 (defsV s.defs) :: (cl ++ own)) : Chs)) (l₂ := specC s a2 ks2)
          refine CallOk.borrow (l := specC s a2 ks2) (u := .bool true) hpm2 (fun ro' hl hh => msame_ok (ho2.le hl) (SpecOk.made g6 g7 g8 hh) (Ahead.of hc) (defs_in hc) ⟨rfl, rfl⟩) ?_
          repeat (first
            | (show _ ∧ _; exact ⟨rfl, rfl, rfl⟩)
            | refine wkU ?_
            | (show GJ _ _ _ _ _ _ _; first | with_reducible refine GJ.neF ?_ | with_reducible refine GJ.neT ?_)
            | (show Br _ _ _; with_reducible refine Br.ne ?_)
            | (show OpOk _ _ _ _ _ _ _; first | refine opB (fun b => ?_) | refine opA (fun a' c' hc1 hc2 => ?_))
            | (show GJ _ _ _ _ _ _ _; first | (apply GJ.and; exact rfl; intro hg) | (apply GJ.or; exact rfl; intro hg)))
          exact Wk.outS (.all _) (.refl _) (hk _ _)
end
end Go.Proofs.Ytpjiaafkcojddaa
