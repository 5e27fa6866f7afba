/- Contracts of spec: Clone, a builder. -/
import Derived.Test.YtniofdklhlbphaaSp5
namespace Go.Proofs.Ytniofdklhlbphaa
open Go Go.E
set_option linter.unusedVariables false
set_option maxRecDepth 10000
def nodesC : List NodeD → List NodeA → List (Nat × Nat × Nat × Nat) → Chs
  | d :: ds, a :: xs, k :: ks => nodeC d a k ++ nodesC ds xs ks
  | _, _, _ => []
def NodesClip (ds : List NodeD) (xs : List NodeA) : Prop := ∀ (i : Nat) (d : NodeD) (x : NodeA), ds[i]? = some d → xs[i]? = some x → ClipA d x
theorem NodesClip.snoc {ds : List NodeD} {xs : List NodeA} {d : NodeD} {x : NodeA} (h : NodesClip ds xs) (hl : xs.length = ds.length) (hx : ClipA d x) : NodesClip (ds ++ [d]) (xs ++ [x]) := fun i d' x' h1 h2 => by
  rcases Nat.lt_or_ge i ds.length with hi | hi
  · rw [List.getElem?_append_left hi] at h1
    rw [List.getElem?_append_left (by omega)] at h2
    exact h i d' x' h1 h2
  · rw [List.getElem?_append_right hi] at h1
    rw [List.getElem?_append_right (by omega)] at h2
    have h3 : i - ds.length = 0 := by have := (List.getElem?_eq_some_iff.1 h1).1; simp at this; omega
    rw [h3] at h1
    rw [hl, h3] at h2
    simp at h1 h2
    subst h1; subst h2; exact hx
def specC (s : SpecD) (a : SpecA) (ks : List (Nat × Nat × Nat × Nat)) : Chs :=
  .sl a.na s.nodes.length a.nc 49 18 (nodesV s.nodes a.xs) :: .sl a.da s.defs.length a.dc 32 2 (defsV s.defs) :: nodesC s.nodes a.xs ks
theorem nodesC_snoc {d : NodeD} {x : NodeA} {k : Nat × Nat × Nat × Nat} (ds : List NodeD) : ∀ (xs : List NodeA) (ks : List (Nat × Nat × Nat × Nat)), xs.length = ds.length → ks.length = ds.length → nodesC (ds ++ [d]) (xs ++ [x]) (ks ++ [k]) = nodesC ds xs ks ++ nodeC d x k := by
  induction ds with
  | nil =>
    intro xs ks h1 h2
    obtain rfl := List.eq_nil_of_length_eq_zero h1
    obtain rfl := List.eq_nil_of_length_eq_zero h2
    show nodeC d x k ++ [] = [] ++ nodeC d x k
    rw [List.append_nil, List.nil_append]
  | cons d0 ds ih =>
    intro xs ks h1 h2
    cases xs with
    | nil => simp at h1
    | cons x0 xs =>
      cases ks with
      | nil => simp at h2
      | cons k0 ks =>
        show nodeC d0 x0 k0 ++ nodesC (ds ++ [d]) (xs ++ [x]) (ks ++ [k]) = nodeC d0 x0 k0 ++ nodesC ds xs ks ++ nodeC d x k
        rw [ih xs ks (by simpa using h1) (by simpa using h2), List.append_assoc]
theorem nodesV_snoc {d : NodeD} {x : NodeA} (ds : List NodeD) : ∀ (xs : List NodeA), xs.length = ds.length → nodesV (ds ++ [d]) (xs ++ [x]) = nodesV ds xs ++ nodeV d x := by
  induction ds with
  | nil =>
    intro xs h1
    obtain rfl := List.eq_nil_of_length_eq_zero h1
    show nodeV d x ++ [] = [] ++ nodeV d x
    rw [List.append_nil, List.nil_append]
  | cons d0 ds ih =>
    intro xs h1
    cases xs with
    | nil => simp at h1
    | cons x0 xs =>
      show nodeV d0 x0 ++ nodesV (ds ++ [d]) (xs ++ [x]) = nodeV d0 x0 ++ nodesV ds xs ++ nodeV d x
      rw [ih xs (by simpa using h1), List.append_assoc]
/-- So many that nothing is too great. -/
structure NodeSm (d : NodeD) : Prop where
  kids : d.kids.length ≤ 100000000
  last : d.last.length ≤ 100000000
  fields : d.fields.length ≤ 100000000
  cases : d.cases.length ≤ 100000000
section
variable {ro : Ro} {own r : Chs} {K : Value → Ro → Chs → Prop} {g : Chunk → Chs}
set_option maxHeartbeats 1000000 in
theorem sclone_ok {s : SpecD} {a : SpecA} (ho : SpecOk ro s a) (hn : s.nodes.length ≤ 100000 ∧ s.defs.length ≤ 100000) (hs : ∀ d ∈ s.nodes, NodeSm d)
    (hk : ∀ a' ks, a'.xs.length = s.nodes.length → ks.length = s.nodes.length → NodesClip s.nodes a'.xs → a'.nc ≤ maxLen → a'.dc ≤ maxLen → K (.agg (specV s a').toArray) ro (specC s a' ks ++ own)) : CallOk Try.prog 17 #[.agg (specV s a).toArray] ro own K := by
  have hr1 := ho.nodes
  have hr2 := ho.defs
  have hlen := ho.len
  refine CallOk.intro (args := [_]) (rs := [_]) T_ok Try.func17 Try.call17 rfl rfl (by kernel_rfl) rfl rfl ?_
  repeat (first
    | (show _ ∧ _; exact ⟨rfl, rfl, rfl⟩)
    | refine wkG ?_
    | (show OpOk _ _ _ _ _ _ _; first | refine opB (fun b => ?_) | refine opA (fun a' c' hc1 hc2 => ?_))
    | (show GJ _ _ _ _ _ _ _; first | (apply GJ.and; exact rfl; intro hg) | (apply GJ.or; exact rfl; intro hg) | refine GJ.t omAuto ?_ | refine GJ.f omAuto ?_ | refine GJ.ft omAuto ?_ | refine GJ.ff omAuto ?_))
  refine cloneD_ok hr2 (defsV_one _) (by omega) (fun da dc h1 h2 => ?_)
  repeat (first
    | (show _ ∧ _; exact ⟨rfl, rfl, rfl⟩)
    | refine wkG ?_
    | (show OpOk _ _ _ _ _ _ _; first | refine opB (fun b => ?_) | refine opA (fun a' c' hc1 hc2 => ?_))
    | (show GJ _ _ _ _ _ _ _; first | (apply GJ.and; exact rfl; intro hg) | (apply GJ.or; exact rfl; intro hg) | refine GJ.t omAuto ?_ | refine GJ.f omAuto ?_ | refine GJ.ft omAuto ?_ | refine GJ.ff omAuto ?_))
  rename_i b0 b1
  refine LoopOk.at (ι := Nat × List NodeA × List (Nat × Nat × Nat × Nat) × Option Addr × Nat × Nat × List Value × Chs) Keep.auto (fun (i, xs, ks, na, n1, nc, cs, cl) => [(13, .int .i64 (i : Int))]) (fun (i, xs, ks, na, n1, nc, cs, cl) => .blk b 25 [.slice na n1 nc, .slice da s.defs.length dc] :: .sl na n1 nc 49 18 cs :: .sl da s.defs.length dc 32 2 (defsV s.defs) :: .blk b1 25 [.slice none 0 0, .slice none 0 0] :: .blk b0 25 (specV s a) :: (cl ++ own)) (fun (i, xs, ks, na, n1, nc, cs, cl) => i ≤ s.nodes.length ∧ n1 = i ∧ xs.length = i ∧ ks.length = i ∧ n1 ≤ nc ∧ nc ≤ maxLen ∧ cs = nodesV (s.nodes.take i) xs ∧ cl.Perm (nodesC (s.nodes.take i) xs ks) ∧ NodesClip (s.nodes.take i) xs) (fun (i, xs, ks, na, n1, nc, cs, cl) => s.nodes.length - i) (0, [], [], none, 0, 0, [], []) ?_ Sub.auto Sup.auto ?_
  · exact ⟨by omega, rfl, rfl, rfl, by omega, by omega, by simp [nodesV], by simp [nodesC], fun i d x h => by simp at h⟩
  rintro ⟨i, xs, ks, na, n1, nc, cs, cl⟩ ⟨i1, rfl, i3, i4, i5, i6, rfl, i8, i9⟩
  dsimp only [List.cons_append, List.nil_append] at i1 i3 i4 i5 i6 i8 i9 ⊢
  repeat (first
    | (show _ ∧ _; exact ⟨rfl, rfl, rfl⟩)
    | refine wkG ?_
    | (show OpOk _ _ _ _ _ _ _; first | refine opB (fun b => ?_) | refine opA (fun a' c' hc1 hc2 => ?_))
    | (show GJ _ _ _ _ _ _ _; first | (apply GJ.and; exact rfl; intro hg) | (apply GJ.or; exact rfl; intro hg) | refine GJ.t omAuto ?_ | refine GJ.f omAuto ?_ | refine GJ.ft omAuto ?_ | refine GJ.ff omAuto ?_))
  refine Br.cases (fun hd => ?_) (fun hd => ?_)
  · obtain ⟨d, hd1⟩ : ∃ d, s.nodes[n1]? = some d := ⟨_, List.getElem?_eq_getElem (by omega)⟩
    obtain ⟨x, hx1⟩ : ∃ x, a.xs[n1]? = some x := ⟨_, List.getElem?_eq_getElem (by omega)⟩
    have hno := ho.each _ d x hd1 hx1
    have hdrop := nodesV_drop _ _ _ _ _ hd1 hx1
    have hsm := hs d (List.mem_of_getElem? hd1)
    have htk : s.nodes.take (n1 + 1) = s.nodes.take n1 ++ [d] := by rw [List.take_add_one, hd1]; rfl
    have hsm1 := hsm.kids
    have hsm2 := hsm.last
    have hsm3 := hsm.fields
    have hsm4 := hsm.cases
    repeat (first
      | (show _ ∧ _; exact ⟨rfl, rfl, rfl⟩)
      | refine wkG ?_
      | (show OpOk _ _ _ _ _ _ _; first | refine opB (fun b => ?_) | refine opA (fun a' c' hc1 hc2 => ?_))
      | (show GJ _ _ _ _ _ _ _; first | (apply GJ.and; exact rfl; intro hg) | (apply GJ.or; exact rfl; intro hg) | refine GJ.t omAuto ?_ | refine GJ.f omAuto ?_ | refine GJ.ft omAuto ?_ | refine GJ.ff omAuto ?_))
    rw [Int.toNat_natCast]
    refine OpOk.loadRow rfl rfl (LdN.at hr1 hdrop) rfl ?_
    repeat (first
      | (show _ ∧ _; exact ⟨rfl, rfl, rfl⟩)
      | refine wkG ?_
      | (show OpOk _ _ _ _ _ _ _; first | refine opB (fun b => ?_) | refine opA (fun a' c' hc1 hc2 => ?_))
      | (show GJ _ _ _ _ _ _ _; first | (apply GJ.and; exact rfl; intro hg) | (apply GJ.or; exact rfl; intro hg) | refine GJ.t omAuto ?_ | refine GJ.f omAuto ?_ | refine GJ.ft omAuto ?_ | refine GJ.ff omAuto ?_))
    refine Bs.all ?_
    repeat (first
      | (show _ ∧ _; exact ⟨rfl, rfl, rfl⟩)
      | refine wkG ?_
      | (show OpOk _ _ _ _ _ _ _; first | refine opB (fun b => ?_) | refine opA (fun a' c' hc1 hc2 => ?_))
      | (show GJ _ _ _ _ _ _ _; first | (apply GJ.and; exact rfl; intro hg) | (apply GJ.or; exact rfl; intro hg) | refine GJ.t omAuto ?_ | refine GJ.f omAuto ?_ | refine GJ.ft omAuto ?_ | refine GJ.ff omAuto ?_))
    refine own_ok hno ⟨hsm1, hsm2, hsm3, hsm4⟩ (fun x' k hcl => ?_)
    dsimp only [nodeC, List.cons_append, List.nil_append]
    repeat (first
      | (show _ ∧ _; exact ⟨rfl, rfl, rfl⟩)
      | refine wkG ?_
      | (show OpOk _ _ _ _ _ _ _; first | refine opB (fun b => ?_) | refine opA (fun a' c' hc1 hc2 => ?_))
      | (show GJ _ _ _ _ _ _ _; first | (apply GJ.and; exact rfl; intro hg) | (apply GJ.or; exact rfl; intro hg) | refine GJ.t omAuto ?_ | refine GJ.f omAuto ?_ | refine GJ.ft omAuto ?_ | refine GJ.ff omAuto ?_))
    refine Wk.id ⟨(n1 + 1, xs ++ [x'], ks ++ [k], _, _, _, _, nodeC d x' k ++ cl), ⟨rfl, ?_⟩, ?_, Sub.auto, Sup.auto⟩
    all_goals try dsimp only
    · refine ⟨by omega, rfl, by simp [i3], by simp [i4], by omega, by omega, ?_, ?_, ?_⟩
      · rw [htk, nodesV_snoc _ _ (by simp; omega)]; rfl
      · rw [htk, nodesC_snoc _ _ _ (by simp; omega) (by simp; omega)]
        exact ((i8.append_left _).trans List.perm_append_comm)
      · rw [htk]; exact i9.snoc (by simp; omega) hcl
    · omega
  · obtain rfl : n1 = s.nodes.length := by omega
    rw [List.take_length] at i8 i9 ⊢
    repeat (first
      | (show _ ∧ _; exact ⟨rfl, rfl, rfl⟩)
      | refine wkG ?_
      | (show OpOk _ _ _ _ _ _ _; first | refine opB (fun b => ?_) | refine opA (fun a' c' hc1 hc2 => ?_))
      | (show GJ _ _ _ _ _ _ _; first | (apply GJ.and; exact rfl; intro hg) | (apply GJ.or; exact rfl; intro hg) | refine GJ.t omAuto ?_ | refine GJ.f omAuto ?_ | refine GJ.ft omAuto ?_ | refine GJ.ff omAuto ?_))
    refine Wk.outS (own1 := .sl na s.nodes.length nc 49 18 (nodesV s.nodes xs) :: .sl da s.defs.length dc 32 2 (defsV s.defs) :: (cl ++ own)) Sup.auto ?_ (hk ⟨na, nc, da, dc, xs⟩ ks i3 i4 i9 i6 h2)
    exact ((i8.append_right own).cons _).cons _
end
end Go.Proofs.Ytniofdklhlbphaa
