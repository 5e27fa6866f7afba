/- Contracts of spec: what is made, and lasts; a builder. -/
import Derived.Test.YtniofdklhlbphaaSp6
namespace Go.Proofs.Ytniofdklhlbphaa
open Go Go.E
set_option linter.unusedVariables false
set_option maxRecDepth 10000
theorem NodeOk.made {ro : Ro} {d : NodeD} {a : NodeA} {k : Nat × Nat × Nat × Nat} (hc : ClipA d a) (h : ∀ c ∈ nodeC d a k, c.holds ro) : NodeOk ro d a := by
  have h1 := Rs.last (h (.sl a.ka d.kids.length k.1 3 1 (kidsV d.kids)) (by simp [nodeC]))
  have h2 := Rs.last (h (.sl a.la d.last.length k.2.1 4 1 (lastV d.last)) (by simp [nodeC]))
  have h3 := Rs.last (h (.sl a.fa d.fields.length k.2.2.1 51 5 (fieldsV d.fields)) (by simp [nodeC]))
  have h4 := Rs.last (h (.sl a.ca d.cases.length k.2.2.2 73 2 (casesV d.cases)) (by simp [nodeC]))
  exact ⟨hc.kids ▸ h1.clip, hc.last ▸ h2.clip, hc.fields ▸ h3.clip, hc.cases ▸ h4.clip⟩
theorem NodeOk.le {ro ro' : Ro} {d : NodeD} {a : NodeA} (h : NodeOk ro d a) (hl : Le ro ro') : NodeOk ro' d a := ⟨h.kids.up, h.last.up, h.fields.up, h.cases.up⟩
theorem nodesC_mem : ∀ (ds : List NodeD) (xs : List NodeA) (ks : List (Nat × Nat × Nat × Nat)) (i : Nat) (d : NodeD) (x : NodeA), ks.length = ds.length → ds[i]? = some d → xs[i]? = some x → ∃ k, ∀ c ∈ nodeC d x k, c ∈ nodesC ds xs ks := by
  intro ds
  induction ds with
  | nil => intro xs ks i d x _ h; simp at h
  | cons d0 ds ih =>
    intro xs ks i d x hl h1 h2
    cases xs with
    | nil => simp at h2
    | cons x0 xs =>
      cases ks with
      | nil => simp at hl
      | cons k0 ks =>
        cases i with
        | zero =>
          simp at h1 h2; subst h1; subst h2
          exact ⟨k0, fun c hc => List.mem_append.2 (.inl hc)⟩
        | succ i =>
          obtain ⟨k, hk⟩ := ih xs ks i d x (by simpa using hl) (by simpa using h1) (by simpa using h2)
          exact ⟨k, fun c hc => List.mem_append.2 (.inr (hk c hc))⟩
theorem SpecOk.made {ro : Ro} {s : SpecD} {a : SpecA} {ks : List (Nat × Nat × Nat × Nat)} (h1 : a.xs.length = s.nodes.length) (h2 : ks.length = s.nodes.length) (hc : NodesClip s.nodes a.xs) (h : ∀ c ∈ specC s a ks, c.holds ro) : SpecOk ro s a :=
  ⟨h1, Rs.last (h (.sl a.na s.nodes.length a.nc 49 18 (nodesV s.nodes a.xs)) (by simp [specC])), fun i d x g1 g2 => by
    obtain ⟨k, hk⟩ := nodesC_mem _ _ _ i d x h2 g1 g2
    exact NodeOk.made (k := k) (hc i d x g1 g2) (fun c hc => h c (by simp [specC, hk c hc])), Rs.last (h (.sl a.da s.defs.length a.dc 32 2 (defsV s.defs)) (by simp [specC]))⟩
section
variable {ro : Ro} {own r : Chs} {K : Value → Ro → Chs → Prop} {g : Chunk → Chs}
theorem own_last {d : NodeD} {a : NodeA} (ho : NodeOk ro d a) (hs : NodeSm d) (hk : ∀ ro' a', Le ro ro' → NodeOk ro' d a' → K (.agg (nodeV d a').toArray) ro' own) : CallOk Try.prog 25 #[.agg (nodeV d a).toArray] ro own K :=
  CallOk.lastly (Q := fun v l => ∃ a' k, ClipA d a' ∧ v = .agg (nodeV d a').toArray ∧ l = nodeC d a' k) (own_ok ho ⟨hs.kids, hs.last, hs.fields, hs.cases⟩ (fun a' k hc => ⟨rfl, _, rfl, a', k, hc, rfl, rfl⟩)) (fun ro' v l hl hh ⟨a', k, hc, hv, he⟩ => by
    subst hv; subst he
    exact hk ro' a' hl (NodeOk.made hc hh))
theorem sclone_last {s : SpecD} {a : SpecA} (ho : SpecOk ro s a) (hn : s.nodes.length ≤ 100000 ∧ s.defs.length ≤ 100000) (hs : ∀ d ∈ s.nodes, NodeSm d) (hk : ∀ ro' a', Le ro ro' → SpecOk ro' s a' → K (.agg (specV s a').toArray) ro' own) :
    CallOk Try.prog 17 #[.agg (specV s a).toArray] ro own K :=
  CallOk.lastly (Q := fun v l => ∃ a' ks, a'.xs.length = s.nodes.length ∧ ks.length = s.nodes.length ∧ NodesClip s.nodes a'.xs ∧ v = .agg (specV s a').toArray ∧ l = specC s a' ks) (sclone_ok ho hn hs (fun a' ks h1 h2 h3 _ _ => ⟨rfl, _, rfl, a', ks, h1, h2, h3, rfl, rfl⟩)) (fun ro' v l hl hh ⟨a', ks, h1, h2, h3, hv, he⟩ => by
    subst hv; subst he
    exact hk ro' a' hl (SpecOk.made h1 h2 h3 hh))
/-- A builder's parts, what it has put together. -/
structure BuildOk (ro : Ro) (s : SpecD) (a : SpecA) : Prop where
  len : a.xs.length = s.nodes.length
  each : ∀ (i : Nat) (d : NodeD) (x : NodeA), s.nodes[i]? = some d → a.xs[i]? = some x → NodeOk ro d x
  nc : s.nodes.length ≤ a.nc ∧ a.nc ≤ maxLen
  dc : s.defs.length ≤ a.dc ∧ a.dc ≤ maxLen
theorem badd_ok {p : Nat} {s : SpecD} {a : SpecA} {d : NodeD} {x : NodeA} (hb : BuildOk ro s a) (hx : NodeOk ro d x) (hs : NodeSm d) (hn : s.nodes.length < 2048)
    (hk : ∀ ro' na' nc' x', Le ro ro' → BuildOk ro' ⟨s.nodes ++ [d], s.defs⟩ ⟨na', nc', a.da, a.dc, a.xs ++ [x']⟩ → K (.tuple #[.int .i64 (s.nodes.length : Nat), .int .i64 0]) ro' (.blk p 39 (specV ⟨s.nodes ++ [d], s.defs⟩ ⟨na', nc', a.da, a.dc, a.xs ++ [x']⟩) :: .sl na' (s.nodes ++ [d]).length nc' 49 18 (nodesV (s.nodes ++ [d]) (a.xs ++ [x'])) :: .sl a.da s.defs.length a.dc 32 2 (defsV s.defs) :: r)) :
    CallOk Try.prog 12 #[ptr' p, .agg (nodeV d x).toArray] ro (.blk p 39 (specV s a) :: .sl a.na s.nodes.length a.nc 49 18 (nodesV s.nodes a.xs) :: .sl a.da s.defs.length a.dc 32 2 (defsV s.defs) :: r) K := by
  refine CallOk.intro (args := [_, _]) (rs := [_, _]) T_ok Try.func12 Try.call12 rfl rfl (by kernel_rfl) rfl rfl ?_
  repeat (first
    | (show _ ∧ _; exact ⟨rfl, rfl, rfl⟩)
    | refine wkG ?_
    | (show OpOk _ _ _ _ _ _ _; first | refine opB (fun b => ?_) | refine opA (fun a' c' hc1 hc2 => ?_))
    | (show GJ _ _ _ _ _ _ _; first | (apply GJ.and; exact rfl; intro hg) | (apply GJ.or; exact rfl; intro hg) | refine GJ.t omAuto ?_ | refine GJ.f omAuto ?_ | refine GJ.ft omAuto ?_ | refine GJ.ff omAuto ?_))
  refine Bs.mk ⟨[.blk b 49 (nodeV d x), .blk p 39 (specV s a)], Sup.auto, ?_⟩
  repeat (first
    | (show _ ∧ _; exact ⟨rfl, rfl, rfl⟩)
    | refine wkG ?_
    | (show OpOk _ _ _ _ _ _ _; first | refine opB (fun b => ?_) | refine opA (fun a' c' hc1 hc2 => ?_))
    | (show GJ _ _ _ _ _ _ _; first | (apply GJ.and; exact rfl; intro hg) | (apply GJ.or; exact rfl; intro hg) | refine GJ.t omAuto ?_ | refine GJ.f omAuto ?_ | refine GJ.ft omAuto ?_ | refine GJ.ff omAuto ?_))
  refine own_last hx hs (fun ro1 x1 hl1 ho1 => ?_)
  refine wkS ?_
  refine opB (fun b2 => ?_)
  refine wkS ?_
  repeat (first
    | (show _ ∧ _; exact ⟨rfl, rfl, rfl⟩)
    | refine wkG ?_
    | (show OpOk _ _ _ _ _ _ _; first | refine opB (fun b => ?_) | refine opA (fun a' c' hc1 hc2 => ?_))
    | (show GJ _ _ _ _ _ _ _; first | (apply GJ.and; exact rfl; intro hg) | (apply GJ.or; exact rfl; intro hg) | refine GJ.t omAuto ?_ | refine GJ.f omAuto ?_ | refine GJ.ft omAuto ?_ | refine GJ.ff omAuto ?_))
  have e1 : (s.nodes ++ [d]).length = s.nodes.length + 1 := by simp
  have e2 : nodesV s.nodes a.xs ++ flat [.agg (nodeV d x1).toArray] = nodesV (s.nodes ++ [d]) (a.xs ++ [x1]) := by rw [nodesV_snoc _ _ hb.len]; rfl
  have hk2 := hk ro1 a' c' x1 hl1 ⟨by simp [hb.len], fun i d' x' g1 g2 => ?_, ⟨by rw [e1]; exact hc1, hc2⟩, hb.dc⟩
  · rw [e2]
    simp only [specV, e1] at hk2
    exact Wk.outV Sup.auto hk2 (congrArg (fun z => Value.tuple #[.int .i64 z, .int .i64 0]) (by omega))
  · rcases Nat.lt_or_ge i s.nodes.length with hi | hi
    · rw [List.getElem?_append_left hi] at g1
      rw [List.getElem?_append_left (by rw [hb.len]; exact hi)] at g2
      exact (hb.each i d' x' g1 g2).le hl1
    · rw [List.getElem?_append_right hi] at g1
      rw [List.getElem?_append_right (by rw [hb.len]; exact hi)] at g2
      have h3 : i - s.nodes.length = 0 := by have := (List.getElem?_eq_some_iff.1 g1).1; simp at this; omega
      rw [h3] at g1
      rw [hb.len, h3] at g2
      simp at g1 g2
      subst g1; subst g2; exact ho1
theorem bname_ok {p : Nat} {s : SpecD} {a : SpecA} {d : DefD} (hb : BuildOk ro s a) (hn : s.defs.length < 64)
    (hk : ∀ da' dc', BuildOk ro ⟨s.nodes, s.defs ++ [d]⟩ ⟨a.na, a.nc, da', dc', a.xs⟩ → K (.int .i64 0) ro (.blk p 39 (specV ⟨s.nodes, s.defs ++ [d]⟩ ⟨a.na, a.nc, da', dc', a.xs⟩) :: .sl a.na s.nodes.length a.nc 49 18 (nodesV s.nodes a.xs) :: .sl da' (s.defs ++ [d]).length dc' 32 2 (defsV (s.defs ++ [d])) :: r)) :
    CallOk Try.prog 13 #[ptr' p, str d.name, .int .i64 d.type] ro (.blk p 39 (specV s a) :: .sl a.na s.nodes.length a.nc 49 18 (nodesV s.nodes a.xs) :: .sl a.da s.defs.length a.dc 32 2 (defsV s.defs) :: r) K := by
  refine CallOk.intro (args := [_, _, _]) (rs := [_]) T_ok Try.func13 Try.call13 rfl rfl (by kernel_rfl) rfl rfl ?_
  repeat (first
    | (show _ ∧ _; exact ⟨rfl, rfl, rfl⟩)
    | refine wkG ?_
    | (show OpOk _ _ _ _ _ _ _; first | refine opB (fun b => ?_) | refine opA (fun a' c' hc1 hc2 => ?_))
    | (show GJ _ _ _ _ _ _ _; first | (apply GJ.and; exact rfl; intro hg) | (apply GJ.or; exact rfl; intro hg) | refine GJ.t omAuto ?_ | refine GJ.f omAuto ?_ | refine GJ.ft omAuto ?_ | refine GJ.ff omAuto ?_))
  have e1 : (s.defs ++ [d]).length = s.defs.length + 1 := by simp
  have e2 : defsV s.defs ++ flat [.agg #[str d.name, .int .i64 d.type]] = defsV (s.defs ++ [d]) := by simp [defsV, defV, flat, Value.cells]
  have hk2 := hk a' c' ⟨hb.len, hb.each, hb.nc, ⟨by rw [e1]; exact hc1, hc2⟩⟩
  simp only [specV, e1] at hk2
  rw [e2]
  exact Wk.outS Sup.auto (.refl _) hk2
/-- Its two slices. -/
def buildC (s : SpecD) (a : SpecA) : Chs := [.sl a.na s.nodes.length a.nc 49 18 (nodesV s.nodes a.xs), .sl a.da s.defs.length a.dc 32 2 (defsV s.defs)]
theorem BuildOk.spec {ro' : Ro} {s : SpecD} {a : SpecA} (hb : BuildOk ro s a) (hl : Le ro ro') (h : ∀ c ∈ buildC s a, c.holds ro') : SpecOk ro' s a :=
  ⟨hb.len, Rs.last (h (.sl a.na s.nodes.length a.nc 49 18 (nodesV s.nodes a.xs)) (by simp [buildC])), fun i d x g1 g2 => (hb.each i d x g1 g2).le hl, Rs.last (h (.sl a.da s.defs.length a.dc 32 2 (defsV s.defs)) (by simp [buildC]))⟩
theorem bspec_ok {p : Nat} {s : SpecD} {a : SpecA} (hb : BuildOk ro s a) (hn : s.nodes.length ≤ 100000 ∧ s.defs.length ≤ 100000) (hs : ∀ d ∈ s.nodes, NodeSm d)
    (h1 : checkD s ≠ 0 → K (.tuple #[.agg #[.slice none 0 0, .slice none 0 0], .int .i64 (checkD s)]) ro (.blk p 39 (specV s a) :: .sl a.na s.nodes.length a.nc 49 18 (nodesV s.nodes a.xs) :: .sl a.da s.defs.length a.dc 32 2 (defsV s.defs) :: r))
    (h2 : checkD s = 0 → ∀ a' ks, a'.xs.length = s.nodes.length → ks.length = s.nodes.length → NodesClip s.nodes a'.xs → a'.nc ≤ maxLen → a'.dc ≤ maxLen → K (.tuple #[.agg (specV s a').toArray, .int .i64 0]) ro (specC s a' ks ++ .blk p 39 (specV s a) :: .sl a.na s.nodes.length a.nc 49 18 (nodesV s.nodes a.xs) :: .sl a.da s.defs.length a.dc 32 2 (defsV s.defs) :: r)) :
    CallOk Try.prog 14 #[ptr' p] ro (.blk p 39 (specV s a) :: .sl a.na s.nodes.length a.nc 49 18 (nodesV s.nodes a.xs) :: .sl a.da s.defs.length a.dc 32 2 (defsV s.defs) :: r) K := by
  refine CallOk.intro (args := [_]) (rs := [_, _]) T_ok Try.func14 Try.call14 rfl rfl (by kernel_rfl) rfl rfl ?_
  repeat (first
    | (show _ ∧ _; exact ⟨rfl, rfl, rfl⟩)
    | refine wkG ?_
    | (show OpOk _ _ _ _ _ _ _; first | refine opB (fun b => ?_) | refine opA (fun a' c' hc1 hc2 => ?_))
    | (show GJ _ _ _ _ _ _ _; first | (apply GJ.and; exact rfl; intro hg) | (apply GJ.or; exact rfl; intro hg) | refine GJ.t omAuto ?_ | refine GJ.f omAuto ?_ | refine GJ.ft omAuto ?_ | refine GJ.ff omAuto ?_))
  refine CallOk.borrow (l := buildC s a) (u := .int .i64 (checkD s)) ((Take.two (.miss _ (.miss _ (.hit _ _))) (.miss _ (.miss _ (.hit _ _))))) (fun ro' hl hh => check_ok (hb.spec hl hh) ⟨rfl, rfl⟩) ?_
  repeat (first
    | (show _ ∧ _; exact ⟨rfl, rfl, rfl⟩)
    | refine wkG ?_
    | (show OpOk _ _ _ _ _ _ _; first | refine opB (fun b => ?_) | refine opA (fun a' c' hc1 hc2 => ?_))
    | (show GJ _ _ _ _ _ _ _; first | (apply GJ.and; exact rfl; intro hg) | (apply GJ.or; exact rfl; intro hg) | refine GJ.t omAuto ?_ | refine GJ.f omAuto ?_ | refine GJ.ft omAuto ?_ | refine GJ.ff omAuto ?_))
  refine Br.cases (fun hc => ?_) (fun hc => ?_)
  · repeat (first
      | (show _ ∧ _; exact ⟨rfl, rfl, rfl⟩)
      | refine wkG ?_
      | (show OpOk _ _ _ _ _ _ _; first | refine opB (fun b => ?_) | refine opA (fun a' c' hc1 hc2 => ?_))
      | (show GJ _ _ _ _ _ _ _; first | (apply GJ.and; exact rfl; intro hg) | (apply GJ.or; exact rfl; intro hg) | refine GJ.t omAuto ?_ | refine GJ.f omAuto ?_ | refine GJ.ft omAuto ?_ | refine GJ.ff omAuto ?_))
    exact Wk.outS Sup.auto (.refl _) (h1 hc)
  · repeat (first
      | (show _ ∧ _; exact ⟨rfl, rfl, rfl⟩)
      | refine wkG ?_
      | (show OpOk _ _ _ _ _ _ _; first | refine opB (fun b => ?_) | refine opA (fun a' c' hc1 hc2 => ?_))
      | (show GJ _ _ _ _ _ _ _; first | (apply GJ.and; exact rfl; intro hg) | (apply GJ.or; exact rfl; intro hg) | refine GJ.t omAuto ?_ | refine GJ.f omAuto ?_ | refine GJ.ft omAuto ?_ | refine GJ.ff omAuto ?_))
    refine CallOk.borrowN (l := buildC s a) (Q := fun v l => ∃ a' ks, a'.xs.length = s.nodes.length ∧ ks.length = s.nodes.length ∧ NodesClip s.nodes a'.xs ∧ a'.nc ≤ maxLen ∧ a'.dc ≤ maxLen ∧ v = .agg (specV s a').toArray ∧ l = specC s a' ks) ((Take.two (.miss _ (.miss _ (.hit _ _))) (.miss _ (.miss _ (.hit _ _))))) (fun ro' hl hh => sclone_ok (hb.spec hl hh) hn hs (fun a' ks g1 g2 g3 g4 g5 => ⟨rfl, _, rfl, a', ks, g1, g2, g3, g4, g5, rfl, rfl⟩)) (fun v l ⟨a', ks, g1, g2, g3, g4, g5, hv, he⟩ => ?_)
    subst hv; subst he
    have h3 := h2 (by omega) a' ks g1 g2 g3 g4 g5
    repeat (first
      | (show _ ∧ _; exact ⟨rfl, rfl, rfl⟩)
      | refine wkG ?_
      | (show OpOk _ _ _ _ _ _ _; first | refine opB (fun b => ?_) | refine opA (fun a' c' hc1 hc2 => ?_))
      | (show GJ _ _ _ _ _ _ _; first | (apply GJ.and; exact rfl; intro hg) | (apply GJ.or; exact rfl; intro hg) | refine GJ.t omAuto ?_ | refine GJ.f omAuto ?_ | refine GJ.ft omAuto ?_ | refine GJ.ff omAuto ?_))
    refine OpOk.perm List.perm_middle ?_
    repeat (first
      | (show _ ∧ _; exact ⟨rfl, rfl, rfl⟩)
      | refine wkG ?_
      | (show OpOk _ _ _ _ _ _ _; first | refine opB (fun b => ?_) | refine opA (fun a' c' hc1 hc2 => ?_))
      | (show GJ _ _ _ _ _ _ _; first | (apply GJ.and; exact rfl; intro hg) | (apply GJ.or; exact rfl; intro hg) | refine GJ.t omAuto ?_ | refine GJ.f omAuto ?_ | refine GJ.ft omAuto ?_ | refine GJ.ff omAuto ?_))
    exact Wk.outS (.drop _ (.all _)) (.refl _) h3
end
end Go.Proofs.Ytniofdklhlbphaa
