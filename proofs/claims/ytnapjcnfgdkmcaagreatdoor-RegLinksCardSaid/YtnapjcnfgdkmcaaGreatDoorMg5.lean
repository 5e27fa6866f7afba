/- Texts of a walk, one behind the other. -/
import Derived.Shelf.Strconv.Itoa3
import Derived.Shelf.Strings.Search3
import Derived.Ground.NamesProg
import Derived.Test.YtnapjcnfgdkmcaaGreatDoorMg2
import Derived.Test.YtnapjcnfgdkmcaaGreatDoorMg3
import Derived.Test.YtnapjcnfgdkmcaaGreatDoorMg4
section
/- Contracts of spec: lists and nodes of one's own. -/
namespace Go.Proofs.YtnapjcnfgdkmcaaGreatDoor
open Go Go.E
set_option linter.unusedVariables false
set_option maxRecDepth 10000
section
variable {ro : Ro} {own r : Chs} {K : Value → Ro → Chs → Prop} {g : Chunk → Chs}
theorem listI_ok {a : Option Addr} {n c : Nat} {cs : List Value} (hr : Rs ro a n c 1 cs) (h1 : ∀ u ∈ cs, u.oneCell' = true) (hn : n ≤ 100000000) (hk : ∀ a' c', n ≤ c' → c' ≤ maxLen → K (.slice a' n n) ro (.sl a' n c' 3 1 cs :: own)) :
    CallOk Tryz.prog 140 #[.slice a n c] ro own K := by
  refine CallOk.intro (args := [_]) (rs := [_]) T_ok Tryz.func140 Tryz.call140 rfl rfl (by kernel_rfl) rfl rfl ?_
  repeat (first | exact endA | refine wkG ?_ | refine opB (fun b => ?_) | refine opA (fun a' c' hc1 hc2 => ?_) | (show GJ _ _ _ _ _ _ _; first | (apply GJ.and; exact rfl; intro hg) | (apply GJ.or; exact rfl; intro hg) | refine GJ.t omAuto ?_ | refine GJ.f omAuto ?_ | refine GJ.ft omAuto ?_ | refine GJ.ff omAuto ?_))
  refine cloneI_ok hr h1 hn (fun a1 c1 h2 h3 => ?_)
  repeat (first | exact endA | refine wkG ?_ | refine opB (fun b => ?_) | refine opA (fun a' c' hc1 hc2 => ?_) | (show GJ _ _ _ _ _ _ _; first | (apply GJ.and; exact rfl; intro hg) | (apply GJ.or; exact rfl; intro hg) | refine GJ.t omAuto ?_ | refine GJ.f omAuto ?_ | refine GJ.ft omAuto ?_ | refine GJ.ff omAuto ?_))
  refine CallOk.intro (args := [_]) (rs := [_]) T_ok Tryz.func152 Tryz.call152 rfl rfl (by kernel_rfl) rfl rfl ?_
  repeat (first | exact endA | refine wkG ?_ | refine opB (fun b => ?_) | refine opA (fun a' c' hc1 hc2 => ?_) | (show GJ _ _ _ _ _ _ _; first | (apply GJ.and; exact rfl; intro hg) | (apply GJ.or; exact rfl; intro hg) | refine GJ.t omAuto ?_ | refine GJ.f omAuto ?_ | refine GJ.ft omAuto ?_ | refine GJ.ff omAuto ?_))
  refine Wk.id ?_
  repeat (first | exact endA | refine wkG ?_ | refine opB (fun b => ?_) | refine opA (fun a' c' hc1 hc2 => ?_) | (show GJ _ _ _ _ _ _ _; first | (apply GJ.and; exact rfl; intro hg) | (apply GJ.or; exact rfl; intro hg) | refine GJ.t omAuto ?_ | refine GJ.f omAuto ?_ | refine GJ.ft omAuto ?_ | refine GJ.ff omAuto ?_))
  exact Wk.id (hk _ _ h2 h3)
theorem listB_ok {a : Option Addr} {n c : Nat} {cs : List Value} (hr : Rs ro a n c 1 cs) (h1 : ∀ u ∈ cs, u.oneCell' = true) (hn : n ≤ 100000000) (hk : ∀ a' c', n ≤ c' → c' ≤ maxLen → K (.slice a' n n) ro (.sl a' n c' 4 1 cs :: own)) :
    CallOk Tryz.prog 141 #[.slice a n c] ro own K := by
  refine CallOk.intro (args := [_]) (rs := [_]) T_ok Tryz.func141 Tryz.call141 rfl rfl (by kernel_rfl) rfl rfl ?_
  repeat (first | exact endA | refine wkG ?_ | refine opB (fun b => ?_) | refine opA (fun a' c' hc1 hc2 => ?_) | (show GJ _ _ _ _ _ _ _; first | (apply GJ.and; exact rfl; intro hg) | (apply GJ.or; exact rfl; intro hg) | refine GJ.t omAuto ?_ | refine GJ.f omAuto ?_ | refine GJ.ft omAuto ?_ | refine GJ.ff omAuto ?_))
  refine cloneB_ok hr h1 hn (fun a1 c1 h2 h3 => ?_)
  repeat (first | exact endA | refine wkG ?_ | refine opB (fun b => ?_) | refine opA (fun a' c' hc1 hc2 => ?_) | (show GJ _ _ _ _ _ _ _; first | (apply GJ.and; exact rfl; intro hg) | (apply GJ.or; exact rfl; intro hg) | refine GJ.t omAuto ?_ | refine GJ.f omAuto ?_ | refine GJ.ft omAuto ?_ | refine GJ.ff omAuto ?_))
  refine CallOk.intro (args := [_]) (rs := [_]) T_ok Tryz.func153 Tryz.call153 rfl rfl (by kernel_rfl) rfl rfl ?_
  repeat (first | exact endA | refine wkG ?_ | refine opB (fun b => ?_) | refine opA (fun a' c' hc1 hc2 => ?_) | (show GJ _ _ _ _ _ _ _; first | (apply GJ.and; exact rfl; intro hg) | (apply GJ.or; exact rfl; intro hg) | refine GJ.t omAuto ?_ | refine GJ.f omAuto ?_ | refine GJ.ft omAuto ?_ | refine GJ.ff omAuto ?_))
  refine Wk.id ?_
  repeat (first | exact endA | refine wkG ?_ | refine opB (fun b => ?_) | refine opA (fun a' c' hc1 hc2 => ?_) | (show GJ _ _ _ _ _ _ _; first | (apply GJ.and; exact rfl; intro hg) | (apply GJ.or; exact rfl; intro hg) | refine GJ.t omAuto ?_ | refine GJ.f omAuto ?_ | refine GJ.ft omAuto ?_ | refine GJ.ff omAuto ?_))
  exact Wk.id (hk _ _ h2 h3)
theorem listF_ok {a : Option Addr} {n c : Nat} {cs : List Value} (hr : Rs ro a n c 5 cs) (h1 : ∀ u ∈ cs, u.oneCell' = true) (hn : n ≤ 100000000) (hk : ∀ a' c', n ≤ c' → c' ≤ maxLen → K (.slice a' n n) ro (.sl a' n c' 47 5 cs :: own)) :
    CallOk Tryz.prog 142 #[.slice a n c] ro own K := by
  refine CallOk.intro (args := [_]) (rs := [_]) T_ok Tryz.func142 Tryz.call142 rfl rfl (by kernel_rfl) rfl rfl ?_
  repeat (first | exact endA | refine wkG ?_ | refine opB (fun b => ?_) | refine opA (fun a' c' hc1 hc2 => ?_) | (show GJ _ _ _ _ _ _ _; first | (apply GJ.and; exact rfl; intro hg) | (apply GJ.or; exact rfl; intro hg) | refine GJ.t omAuto ?_ | refine GJ.f omAuto ?_ | refine GJ.ft omAuto ?_ | refine GJ.ff omAuto ?_))
  refine cloneF_ok hr h1 hn (fun a1 c1 h2 h3 => ?_)
  repeat (first | exact endA | refine wkG ?_ | refine opB (fun b => ?_) | refine opA (fun a' c' hc1 hc2 => ?_) | (show GJ _ _ _ _ _ _ _; first | (apply GJ.and; exact rfl; intro hg) | (apply GJ.or; exact rfl; intro hg) | refine GJ.t omAuto ?_ | refine GJ.f omAuto ?_ | refine GJ.ft omAuto ?_ | refine GJ.ff omAuto ?_))
  refine CallOk.intro (args := [_]) (rs := [_]) T_ok Tryz.func155 Tryz.call155 rfl rfl (by kernel_rfl) rfl rfl ?_
  repeat (first | exact endA | refine wkG ?_ | refine opB (fun b => ?_) | refine opA (fun a' c' hc1 hc2 => ?_) | (show GJ _ _ _ _ _ _ _; first | (apply GJ.and; exact rfl; intro hg) | (apply GJ.or; exact rfl; intro hg) | refine GJ.t omAuto ?_ | refine GJ.f omAuto ?_ | refine GJ.ft omAuto ?_ | refine GJ.ff omAuto ?_))
  refine Wk.id ?_
  repeat (first | exact endA | refine wkG ?_ | refine opB (fun b => ?_) | refine opA (fun a' c' hc1 hc2 => ?_) | (show GJ _ _ _ _ _ _ _; first | (apply GJ.and; exact rfl; intro hg) | (apply GJ.or; exact rfl; intro hg) | refine GJ.t omAuto ?_ | refine GJ.f omAuto ?_ | refine GJ.ft omAuto ?_ | refine GJ.ff omAuto ?_))
  exact Wk.id (hk _ _ h2 h3)
theorem listC_ok {a : Option Addr} {n c : Nat} {cs : List Value} (hr : Rs ro a n c 2 cs) (h1 : ∀ u ∈ cs, u.oneCell' = true) (hn : n ≤ 100000000) (hk : ∀ a' c', n ≤ c' → c' ≤ maxLen → K (.slice a' n n) ro (.sl a' n c' 97 2 cs :: own)) :
    CallOk Tryz.prog 143 #[.slice a n c] ro own K := by
  refine CallOk.intro (args := [_]) (rs := [_]) T_ok Tryz.func143 Tryz.call143 rfl rfl (by kernel_rfl) rfl rfl ?_
  repeat (first | exact endA | refine wkG ?_ | refine opB (fun b => ?_) | refine opA (fun a' c' hc1 hc2 => ?_) | (show GJ _ _ _ _ _ _ _; first | (apply GJ.and; exact rfl; intro hg) | (apply GJ.or; exact rfl; intro hg) | refine GJ.t omAuto ?_ | refine GJ.f omAuto ?_ | refine GJ.ft omAuto ?_ | refine GJ.ff omAuto ?_))
  refine cloneC_ok hr h1 hn (fun a1 c1 h2 h3 => ?_)
  repeat (first | exact endA | refine wkG ?_ | refine opB (fun b => ?_) | refine opA (fun a' c' hc1 hc2 => ?_) | (show GJ _ _ _ _ _ _ _; first | (apply GJ.and; exact rfl; intro hg) | (apply GJ.or; exact rfl; intro hg) | refine GJ.t omAuto ?_ | refine GJ.f omAuto ?_ | refine GJ.ft omAuto ?_ | refine GJ.ff omAuto ?_))
  refine CallOk.intro (args := [_]) (rs := [_]) T_ok Tryz.func157 Tryz.call157 rfl rfl (by kernel_rfl) rfl rfl ?_
  repeat (first | exact endA | refine wkG ?_ | refine opB (fun b => ?_) | refine opA (fun a' c' hc1 hc2 => ?_) | (show GJ _ _ _ _ _ _ _; first | (apply GJ.and; exact rfl; intro hg) | (apply GJ.or; exact rfl; intro hg) | refine GJ.t omAuto ?_ | refine GJ.f omAuto ?_ | refine GJ.ft omAuto ?_ | refine GJ.ff omAuto ?_))
  refine Wk.id ?_
  repeat (first | exact endA | refine wkG ?_ | refine opB (fun b => ?_) | refine opA (fun a' c' hc1 hc2 => ?_) | (show GJ _ _ _ _ _ _ _; first | (apply GJ.and; exact rfl; intro hg) | (apply GJ.or; exact rfl; intro hg) | refine GJ.t omAuto ?_ | refine GJ.f omAuto ?_ | refine GJ.ft omAuto ?_ | refine GJ.ff omAuto ?_))
  exact Wk.id (hk _ _ h2 h3)
/-- A node's slices as parts of one's own: how much room each has. -/
def nodeC (d : NodeD) (a : NodeA) (k : Nat × Nat × Nat × Nat) : Chs := [.sl a.ka d.kids.length k.1 3 1 (kidsV d.kids), .sl a.la d.last.length k.2.1 4 1 (lastV d.last), .sl a.fa d.fields.length k.2.2.1 47 5 (fieldsV d.fields), .sl a.ca d.cases.length k.2.2.2 97 2 (casesV d.cases)]
/-- Its slices have no room behind. -/
structure ClipA (d : NodeD) (a : NodeA) : Prop where
  kids : a.kc = d.kids.length
  last : a.lc = d.last.length
  fields : a.fc = d.fields.length
  cases : a.cc = d.cases.length
theorem own_ok {d : NodeD} {a : NodeA} (ho : NodeOk ro d a) (hn : d.kids.length ≤ 100000000 ∧ d.last.length ≤ 100000000 ∧ d.fields.length ≤ 100000000 ∧ d.cases.length ≤ 100000000)
    (hk : ∀ a' k, ClipA d a' → K (.agg (nodeV d a').toArray) ro (nodeC d a' k ++ own)) : CallOk Tryz.prog 117 #[.agg (nodeV d a).toArray] ro own K := by
  have hr1 := ho.kids
  have hr2 := ho.last
  have hr3 := ho.fields
  have hr4 := ho.cases
  refine CallOk.intro (args := [_]) (rs := [_]) T_ok Tryz.func117 Tryz.call117 rfl rfl (by kernel_rfl) rfl rfl ?_
  repeat (first | exact endA | refine wkG ?_ | refine opB (fun b => ?_) | refine opA (fun a' c' hc1 hc2 => ?_) | (show GJ _ _ _ _ _ _ _; first | (apply GJ.and; exact rfl; intro hg) | (apply GJ.or; exact rfl; intro hg) | refine GJ.t omAuto ?_ | refine GJ.f omAuto ?_ | refine GJ.ft omAuto ?_ | refine GJ.ff omAuto ?_))
  refine Bs.all ?_
  repeat (first | exact endA | refine wkG ?_ | refine opB (fun b => ?_) | refine opA (fun a' c' hc1 hc2 => ?_) | (show GJ _ _ _ _ _ _ _; first | (apply GJ.and; exact rfl; intro hg) | (apply GJ.or; exact rfl; intro hg) | refine GJ.t omAuto ?_ | refine GJ.f omAuto ?_ | refine GJ.ft omAuto ?_ | refine GJ.ff omAuto ?_))
  refine listI_ok hr1 (kidsV_one _) (by omega) (fun a1 c1 h1 h2 => ?_)
  repeat (first | exact endA | refine wkG ?_ | refine opB (fun b => ?_) | refine opA (fun a' c' hc1 hc2 => ?_) | (show GJ _ _ _ _ _ _ _; first | (apply GJ.and; exact rfl; intro hg) | (apply GJ.or; exact rfl; intro hg) | refine GJ.t omAuto ?_ | refine GJ.f omAuto ?_ | refine GJ.ft omAuto ?_ | refine GJ.ff omAuto ?_))
  refine listB_ok hr2 (lastV_one _) (by omega) (fun a2 c2 h3 h4 => ?_)
  repeat (first | exact endA | refine wkG ?_ | refine opB (fun b => ?_) | refine opA (fun a' c' hc1 hc2 => ?_) | (show GJ _ _ _ _ _ _ _; first | (apply GJ.and; exact rfl; intro hg) | (apply GJ.or; exact rfl; intro hg) | refine GJ.t omAuto ?_ | refine GJ.f omAuto ?_ | refine GJ.ft omAuto ?_ | refine GJ.ff omAuto ?_))
  refine Bs.all ?_
  repeat (first | exact endA | refine wkG ?_ | refine opB (fun b => ?_) | refine opA (fun a' c' hc1 hc2 => ?_) | (show GJ _ _ _ _ _ _ _; first | (apply GJ.and; exact rfl; intro hg) | (apply GJ.or; exact rfl; intro hg) | refine GJ.t omAuto ?_ | refine GJ.f omAuto ?_ | refine GJ.ft omAuto ?_ | refine GJ.ff omAuto ?_))
  refine listF_ok hr3 (fieldsV_one _) (by omega) (fun a3 c3 h5 h6 => ?_)
  repeat (first | exact endA | refine wkG ?_ | refine opB (fun b => ?_) | refine opA (fun a' c' hc1 hc2 => ?_) | (show GJ _ _ _ _ _ _ _; first | (apply GJ.and; exact rfl; intro hg) | (apply GJ.or; exact rfl; intro hg) | refine GJ.t omAuto ?_ | refine GJ.f omAuto ?_ | refine GJ.ft omAuto ?_ | refine GJ.ff omAuto ?_))
  refine listC_ok hr4 (casesV_one _) (by omega) (fun a4 c4 h7 h8 => ?_)
  repeat (first | exact endA | refine wkG ?_ | refine opB (fun b => ?_) | refine opA (fun a' c' hc1 hc2 => ?_) | (show GJ _ _ _ _ _ _ _; first | (apply GJ.and; exact rfl; intro hg) | (apply GJ.or; exact rfl; intro hg) | refine GJ.t omAuto ?_ | refine GJ.f omAuto ?_ | refine GJ.ft omAuto ?_ | refine GJ.ff omAuto ?_))
  exact Wk.outS Sup.auto ((Take.perm (.miss _ (.miss _ (.miss _ (.hit _ _))))).trans ((Take.perm (.miss _ (.miss _ (.hit _ _)))).cons _ |>.trans (((Take.perm (.miss _ (.hit _ _))).cons _).cons _))) (hk ⟨a1, d.kids.length, a2, d.last.length, a3, d.fields.length, a4, d.cases.length⟩ (c1, c2, c3, c4) ⟨rfl, rfl, rfl, rfl⟩)
end
end Go.Proofs.YtnapjcnfgdkmcaaGreatDoor
end
section
/- Contracts of spec: Clone, a builder. -/
namespace Go.Proofs.YtnapjcnfgdkmcaaGreatDoor
open Go Go.E
set_option linter.unusedVariables false
set_option maxRecDepth 10000
def nodesC : List NodeD → List NodeA → List (Nat × Nat × Nat × Nat) → Chs
  | d :: ds, a :: xs, k :: ks => nodeC d a k ++ nodesC ds xs ks
  | _, _, _ => []
def NodesClip (ds : List NodeD) (xs : List NodeA) : Prop := ∀ (i : Nat) (d : NodeD) (x : NodeA), ds[i]? = some d → xs[i]? = some x → ClipA d x
theorem NodesClip.snoc {ds : List NodeD} {xs : List NodeA} {d : NodeD} {x : NodeA} (h : NodesClip ds xs) (hl : xs.length = ds.length) (hx : ClipA d x) : NodesClip (ds ++ [d]) (xs ++ [x]) := fun i d' x' h1 h2 => by
  rcases Nat.lt_or_ge i ds.length with hi | hi
  · rw [List.getElem?_append_left hi] at h1
    rw [List.getElem?_append_left (by omega)] at h2
    exact h i d' x' h1 h2
  · rw [List.getElem?_append_right hi] at h1
    rw [List.getElem?_append_right (by omega)] at h2
    have h3 : i - ds.length = 0 := by have := (List.getElem?_eq_some_iff.1 h1).1; simp at this; omega
    rw [h3] at h1
    rw [hl, h3] at h2
    simp at h1 h2
    subst h1; subst h2; exact hx
def specC (s : SpecD) (a : SpecA) (ks : List (Nat × Nat × Nat × Nat)) : Chs :=
  .sl a.na s.nodes.length a.nc 40 18 (nodesV s.nodes a.xs) :: .sl a.da s.defs.length a.dc 44 2 (defsV s.defs) :: nodesC s.nodes a.xs ks
theorem nodesC_snoc {d : NodeD} {x : NodeA} {k : Nat × Nat × Nat × Nat} (ds : List NodeD) : ∀ (xs : List NodeA) (ks : List (Nat × Nat × Nat × Nat)), xs.length = ds.length → ks.length = ds.length → nodesC (ds ++ [d]) (xs ++ [x]) (ks ++ [k]) = nodesC ds xs ks ++ nodeC d x k := by
  induction ds with
  | nil =>
    intro xs ks h1 h2
    obtain rfl := List.eq_nil_of_length_eq_zero h1
    obtain rfl := List.eq_nil_of_length_eq_zero h2
    show nodeC d x k ++ [] = [] ++ nodeC d x k
    rw [List.append_nil, List.nil_append]
  | cons d0 ds ih =>
    intro xs ks h1 h2
    cases xs with
    | nil => simp at h1
    | cons x0 xs =>
      cases ks with
      | nil => simp at h2
      | cons k0 ks =>
        show nodeC d0 x0 k0 ++ nodesC (ds ++ [d]) (xs ++ [x]) (ks ++ [k]) = nodeC d0 x0 k0 ++ nodesC ds xs ks ++ nodeC d x k
        rw [ih xs ks (by simpa using h1) (by simpa using h2), List.append_assoc]
theorem nodesV_snoc {d : NodeD} {x : NodeA} (ds : List NodeD) : ∀ (xs : List NodeA), xs.length = ds.length → nodesV (ds ++ [d]) (xs ++ [x]) = nodesV ds xs ++ nodeV d x := by
  induction ds with
  | nil =>
    intro xs h1
    obtain rfl := List.eq_nil_of_length_eq_zero h1
    show nodeV d x ++ [] = [] ++ nodeV d x
    rw [List.append_nil, List.nil_append]
  | cons d0 ds ih =>
    intro xs h1
    cases xs with
    | nil => simp at h1
    | cons x0 xs =>
      show nodeV d0 x0 ++ nodesV (ds ++ [d]) (xs ++ [x]) = nodeV d0 x0 ++ nodesV ds xs ++ nodeV d x
      rw [ih xs (by simpa using h1), List.append_assoc]
/-- So many that nothing is too great. -/
structure NodeSm (d : NodeD) : Prop where
  kids : d.kids.length ≤ 100000000
  last : d.last.length ≤ 100000000
  fields : d.fields.length ≤ 100000000
  cases : d.cases.length ≤ 100000000
section
variable {ro : Ro} {own r : Chs} {K : Value → Ro → Chs → Prop} {g : Chunk → Chs}
set_option maxHeartbeats 1000000 in
theorem sclone_ok {s : SpecD} {a : SpecA} (ho : SpecOk ro s a) (hn : s.nodes.length ≤ 100000 ∧ s.defs.length ≤ 100000) (hs : ∀ d ∈ s.nodes, NodeSm d)
    (hk : ∀ a' ks, a'.xs.length = s.nodes.length → ks.length = s.nodes.length → NodesClip s.nodes a'.xs → a'.nc ≤ maxLen → a'.dc ≤ maxLen → K (.agg (specV s a').toArray) ro (specC s a' ks ++ own)) : CallOk Tryz.prog 90 #[.agg (specV s a).toArray] ro own K := by
  have hr1 := ho.nodes
  have hr2 := ho.defs
  have hlen := ho.len
  refine CallOk.intro (args := [_]) (rs := [_]) T_ok Tryz.func90 Tryz.call90 rfl rfl (by kernel_rfl) rfl rfl ?_
  repeat (first | exact endA | refine wkG ?_ | refine opB (fun b => ?_) | refine opA (fun a' c' hc1 hc2 => ?_) | (show GJ _ _ _ _ _ _ _; first | (apply GJ.and; exact rfl; intro hg) | (apply GJ.or; exact rfl; intro hg) | refine GJ.t omAuto ?_ | refine GJ.f omAuto ?_ | refine GJ.ft omAuto ?_ | refine GJ.ff omAuto ?_))
  refine cloneD_ok hr2 (defsV_one _) (by omega) (fun da dc h1 h2 => ?_)
  repeat (first | exact endA | refine wkG ?_ | refine opB (fun b => ?_) | refine opA (fun a' c' hc1 hc2 => ?_) | (show GJ _ _ _ _ _ _ _; first | (apply GJ.and; exact rfl; intro hg) | (apply GJ.or; exact rfl; intro hg) | refine GJ.t omAuto ?_ | refine GJ.f omAuto ?_ | refine GJ.ft omAuto ?_ | refine GJ.ff omAuto ?_))
  rename_i b0 b1
  refine LoopOk.at (ι := Nat × List NodeA × List (Nat × Nat × Nat × Nat) × Option Addr × Nat × Nat × List Value × Chs) Keep.auto (fun (i, xs, ks, na, n1, nc, cs, cl) => [(13, .int .i64 (i : Int))]) (fun (i, xs, ks, na, n1, nc, cs, cl) => .blk b 25 [.slice na n1 nc, .slice da s.defs.length dc] :: .sl na n1 nc 40 18 cs :: .sl da s.defs.length dc 44 2 (defsV s.defs) :: .blk b1 25 [.slice none 0 0, .slice none 0 0] :: .blk b0 25 (specV s a) :: (cl ++ own)) (fun (i, xs, ks, na, n1, nc, cs, cl) => i ≤ s.nodes.length ∧ n1 = i ∧ xs.length = i ∧ ks.length = i ∧ n1 ≤ nc ∧ nc ≤ maxLen ∧ cs = nodesV (s.nodes.take i) xs ∧ cl.Perm (nodesC (s.nodes.take i) xs ks) ∧ NodesClip (s.nodes.take i) xs) (fun (i, xs, ks, na, n1, nc, cs, cl) => s.nodes.length - i) (0, [], [], none, 0, 0, [], []) ?_ Sub.auto Sup.auto ?_
  · exact ⟨by omega, rfl, rfl, rfl, by omega, by omega, by simp [nodesV], by simp [nodesC], fun i d x h => by simp at h⟩
  rintro ⟨i, xs, ks, na, n1, nc, cs, cl⟩ ⟨i1, rfl, i3, i4, i5, i6, rfl, i8, i9⟩
  dsimp only [List.cons_append, List.nil_append] at i1 i3 i4 i5 i6 i8 i9 ⊢
  repeat (first | exact endA | refine wkG ?_ | refine opB (fun b => ?_) | refine opA (fun a' c' hc1 hc2 => ?_) | (show GJ _ _ _ _ _ _ _; first | (apply GJ.and; exact rfl; intro hg) | (apply GJ.or; exact rfl; intro hg) | refine GJ.t omAuto ?_ | refine GJ.f omAuto ?_ | refine GJ.ft omAuto ?_ | refine GJ.ff omAuto ?_))
  refine Br.cases (fun hd => ?_) (fun hd => ?_)
  · obtain ⟨d, hd1⟩ : ∃ d, s.nodes[n1]? = some d := ⟨_, List.getElem?_eq_getElem (by omega)⟩
    obtain ⟨x, hx1⟩ : ∃ x, a.xs[n1]? = some x := ⟨_, List.getElem?_eq_getElem (by omega)⟩
    have hno := ho.each _ d x hd1 hx1
    have hdrop := nodesV_drop _ _ _ _ _ hd1 hx1
    have hsm := hs d (List.mem_of_getElem? hd1)
    have htk : s.nodes.take (n1 + 1) = s.nodes.take n1 ++ [d] := by rw [List.take_add_one, hd1]; rfl
    have hsm1 := hsm.kids
    have hsm2 := hsm.last
    have hsm3 := hsm.fields
    have hsm4 := hsm.cases
    repeat (first | exact endA | refine wkG ?_ | refine opB (fun b => ?_) | refine opA (fun a' c' hc1 hc2 => ?_) | (show GJ _ _ _ _ _ _ _; first | (apply GJ.and; exact rfl; intro hg) | (apply GJ.or; exact rfl; intro hg) | refine GJ.t omAuto ?_ | refine GJ.f omAuto ?_ | refine GJ.ft omAuto ?_ | refine GJ.ff omAuto ?_))
    rw [Int.toNat_natCast]
    refine OpOk.loadRow rfl rfl (LdN.at hr1 hdrop) rfl ?_
    repeat (first | exact endA | refine wkG ?_ | refine opB (fun b => ?_) | refine opA (fun a' c' hc1 hc2 => ?_) | (show GJ _ _ _ _ _ _ _; first | (apply GJ.and; exact rfl; intro hg) | (apply GJ.or; exact rfl; intro hg) | refine GJ.t omAuto ?_ | refine GJ.f omAuto ?_ | refine GJ.ft omAuto ?_ | refine GJ.ff omAuto ?_))
    refine Bs.all ?_
    repeat (first | exact endA | refine wkG ?_ | refine opB (fun b => ?_) | refine opA (fun a' c' hc1 hc2 => ?_) | (show GJ _ _ _ _ _ _ _; first | (apply GJ.and; exact rfl; intro hg) | (apply GJ.or; exact rfl; intro hg) | refine GJ.t omAuto ?_ | refine GJ.f omAuto ?_ | refine GJ.ft omAuto ?_ | refine GJ.ff omAuto ?_))
    refine own_ok hno ⟨hsm1, hsm2, hsm3, hsm4⟩ (fun x' k hcl => ?_)
    dsimp only [nodeC, List.cons_append, List.nil_append]
    repeat (first | exact endA | refine wkG ?_ | refine opB (fun b => ?_) | refine opA (fun a' c' hc1 hc2 => ?_) | (show GJ _ _ _ _ _ _ _; first | (apply GJ.and; exact rfl; intro hg) | (apply GJ.or; exact rfl; intro hg) | refine GJ.t omAuto ?_ | refine GJ.f omAuto ?_ | refine GJ.ft omAuto ?_ | refine GJ.ff omAuto ?_))
    refine Wk.id ⟨(n1 + 1, xs ++ [x'], ks ++ [k], _, _, _, _, nodeC d x' k ++ cl), ⟨rfl, ?_⟩, ?_, Sub.auto, Sup.auto⟩
    all_goals try dsimp only
    · refine ⟨by omega, rfl, by simp [i3], by simp [i4], by omega, by omega, ?_, ?_, ?_⟩
      · rw [htk, nodesV_snoc _ _ (by simp; omega)]; rfl
      · rw [htk, nodesC_snoc _ _ _ (by simp; omega) (by simp; omega)]
        exact ((i8.append_left _).trans List.perm_append_comm)
      · rw [htk]; exact i9.snoc (by simp; omega) hcl
    · omega
  · obtain rfl : n1 = s.nodes.length := by omega
    rw [List.take_length] at i8 i9 ⊢
    repeat (first | exact endA | refine wkG ?_ | refine opB (fun b => ?_) | refine opA (fun a' c' hc1 hc2 => ?_) | (show GJ _ _ _ _ _ _ _; first | (apply GJ.and; exact rfl; intro hg) | (apply GJ.or; exact rfl; intro hg) | refine GJ.t omAuto ?_ | refine GJ.f omAuto ?_ | refine GJ.ft omAuto ?_ | refine GJ.ff omAuto ?_))
    refine Wk.outS (own1 := .sl na s.nodes.length nc 40 18 (nodesV s.nodes xs) :: .sl da s.defs.length dc 44 2 (defsV s.defs) :: (cl ++ own)) Sup.auto ?_ (hk ⟨na, nc, da, dc, xs⟩ ks i3 i4 i9 i6 h2)
    exact ((i8.append_right own).cons _).cons _
end
end Go.Proofs.YtnapjcnfgdkmcaaGreatDoor
end
section
/- Contracts of spec: what is made, and lasts; a builder. -/
namespace Go.Proofs.YtnapjcnfgdkmcaaGreatDoor
open Go Go.E
set_option linter.unusedVariables false
set_option maxRecDepth 10000
theorem NodeOk.made {ro : Ro} {d : NodeD} {a : NodeA} {k : Nat × Nat × Nat × Nat} (hc : ClipA d a) (h : ∀ c ∈ nodeC d a k, c.holds ro) : NodeOk ro d a := by
  have h1 := Rs.last (h (.sl a.ka d.kids.length k.1 3 1 (kidsV d.kids)) (by simp [nodeC]))
  have h2 := Rs.last (h (.sl a.la d.last.length k.2.1 4 1 (lastV d.last)) (by simp [nodeC]))
  have h3 := Rs.last (h (.sl a.fa d.fields.length k.2.2.1 47 5 (fieldsV d.fields)) (by simp [nodeC]))
  have h4 := Rs.last (h (.sl a.ca d.cases.length k.2.2.2 97 2 (casesV d.cases)) (by simp [nodeC]))
  exact ⟨hc.kids ▸ h1.clip, hc.last ▸ h2.clip, hc.fields ▸ h3.clip, hc.cases ▸ h4.clip⟩
theorem NodeOk.le {ro ro' : Ro} {d : NodeD} {a : NodeA} (h : NodeOk ro d a) (hl : Le ro ro') : NodeOk ro' d a := ⟨h.kids.up, h.last.up, h.fields.up, h.cases.up⟩
theorem nodesC_mem : ∀ (ds : List NodeD) (xs : List NodeA) (ks : List (Nat × Nat × Nat × Nat)) (i : Nat) (d : NodeD) (x : NodeA), ks.length = ds.length → ds[i]? = some d → xs[i]? = some x → ∃ k, ∀ c ∈ nodeC d x k, c ∈ nodesC ds xs ks := by
  intro ds
  induction ds with
  | nil => intro xs ks i d x _ h; simp at h
  | cons d0 ds ih =>
    intro xs ks i d x hl h1 h2
    cases xs with
    | nil => simp at h2
    | cons x0 xs =>
      cases ks with
      | nil => simp at hl
      | cons k0 ks =>
        cases i with
        | zero =>
          simp at h1 h2; subst h1; subst h2
          exact ⟨k0, fun c hc => List.mem_append.2 (.inl hc)⟩
        | succ i =>
          obtain ⟨k, hk⟩ := ih xs ks i d x (by simpa using hl) (by simpa using h1) (by simpa using h2)
          exact ⟨k, fun c hc => List.mem_append.2 (.inr (hk c hc))⟩
theorem SpecOk.made {ro : Ro} {s : SpecD} {a : SpecA} {ks : List (Nat × Nat × Nat × Nat)} (h1 : a.xs.length = s.nodes.length) (h2 : ks.length = s.nodes.length) (hc : NodesClip s.nodes a.xs) (h : ∀ c ∈ specC s a ks, c.holds ro) : SpecOk ro s a :=
  ⟨h1, Rs.last (h (.sl a.na s.nodes.length a.nc 40 18 (nodesV s.nodes a.xs)) (by simp [specC])), fun i d x g1 g2 => by
    obtain ⟨k, hk⟩ := nodesC_mem _ _ _ i d x h2 g1 g2
    exact NodeOk.made (k := k) (hc i d x g1 g2) (fun c hc => h c (by simp [specC, hk c hc])), Rs.last (h (.sl a.da s.defs.length a.dc 44 2 (defsV s.defs)) (by simp [specC]))⟩
section
variable {ro : Ro} {own r : Chs} {K : Value → Ro → Chs → Prop} {g : Chunk → Chs}
theorem own_last {d : NodeD} {a : NodeA} (ho : NodeOk ro d a) (hs : NodeSm d) (hk : ∀ ro' a', Le ro ro' → NodeOk ro' d a' → K (.agg (nodeV d a').toArray) ro' own) : CallOk Tryz.prog 117 #[.agg (nodeV d a).toArray] ro own K :=
  CallOk.lastly (Q := fun v l => ∃ a' k, ClipA d a' ∧ v = .agg (nodeV d a').toArray ∧ l = nodeC d a' k) (own_ok ho ⟨hs.kids, hs.last, hs.fields, hs.cases⟩ (fun a' k hc => ⟨rfl, _, rfl, a', k, hc, rfl, rfl⟩)) (fun ro' v l hl hh ⟨a', k, hc, hv, he⟩ => by
    subst hv; subst he
    exact hk ro' a' hl (NodeOk.made hc hh))
theorem sclone_last {s : SpecD} {a : SpecA} (ho : SpecOk ro s a) (hn : s.nodes.length ≤ 100000 ∧ s.defs.length ≤ 100000) (hs : ∀ d ∈ s.nodes, NodeSm d) (hk : ∀ ro' a', Le ro ro' → SpecOk ro' s a' → K (.agg (specV s a').toArray) ro' own) :
    CallOk Tryz.prog 90 #[.agg (specV s a).toArray] ro own K :=
  CallOk.lastly (Q := fun v l => ∃ a' ks, a'.xs.length = s.nodes.length ∧ ks.length = s.nodes.length ∧ NodesClip s.nodes a'.xs ∧ v = .agg (specV s a').toArray ∧ l = specC s a' ks) (sclone_ok ho hn hs (fun a' ks h1 h2 h3 _ _ => ⟨rfl, _, rfl, a', ks, h1, h2, h3, rfl, rfl⟩)) (fun ro' v l hl hh ⟨a', ks, h1, h2, h3, hv, he⟩ => by
    subst hv; subst he
    exact hk ro' a' hl (SpecOk.made h1 h2 h3 hh))
/-- A builder's parts, what it has put together. -/
structure BuildOk (ro : Ro) (s : SpecD) (a : SpecA) : Prop where
  len : a.xs.length = s.nodes.length
  each : ∀ (i : Nat) (d : NodeD) (x : NodeA), s.nodes[i]? = some d → a.xs[i]? = some x → NodeOk ro d x
  nc : s.nodes.length ≤ a.nc ∧ a.nc ≤ maxLen
  dc : s.defs.length ≤ a.dc ∧ a.dc ≤ maxLen
end
end Go.Proofs.YtnapjcnfgdkmcaaGreatDoor
end
section
/- The reader of specifications in memory: its parts, and its first steps. -/
namespace Go.Proofs.YtnapjcnfgdkmcaaGreatDoor
open Go Go.E
set_option linter.unusedVariables false
set_option linter.unusedSectionVars false
set_option linter.unusedSimpArgs false
set_option maxRecDepth 10000
def fatV (l : List TokD) (s : PS) : Nat := if s.code = 0 then 0 else (l[s.fat]?.getD endT).a
def readV (la : Option Addr) (lc : Nat) (l : List TokD) (s : PS) (a : SpecA) : List Value := [.slice la l.length lc, .int .i64 (s.at' : Int), .slice a.na s.nodes.length a.nc, .slice a.da s.defs.length a.dc, .int .i64 (s.code : Int), .int .i64 (fatV l s : Int)]
/-- Tokens that last, the last one of which, and no other one, is the end. -/
structure ToksOk (ro : Ro) (la : Option Addr) (lc : Nat) (l : List TokD) : Prop where
  rs : Rs ro la l.length lc 3 (toksV l)
  pos : 0 < l.length
  last : ∀ (i : Nat) (t : TokD), l[i]? = some t → (t.kind = 5 ↔ i + 1 = l.length)
  le : l.length ≤ 8193
  text : ∀ t ∈ l, t.text.length ≤ 65536
theorem ToksOk.up {ro ro' : Ro} {la : Option Addr} {lc : Nat} {l : List TokD} (h : ToksOk ro la lc l) (hl : Le ro ro') : ToksOk ro' la lc l := ⟨Rs.up h.rs, h.pos, h.last, h.le, h.text⟩
/-- Where the reader stands. -/
structure RdOk (ro : Ro) (l : List TokD) (s : PS) (a : SpecA) : Prop where
  at' : s.at' < l.length
  fat : s.fat < l.length
  code : s.code ≤ 1000
  build : BuildOk ro ⟨s.nodes, s.defs⟩ a
  sm : ∀ d ∈ s.nodes, NodeSm d
  nn : s.nodes.length ≤ 2048
  nd : s.defs.length ≤ 64
theorem Nf.self : ∀ l : List Value, Nf l l
  | [] => Nf.nil
  | x :: l => Nf.cons x (Nf.self l)
section
variable {ro ro' : Ro} {l : List TokD} {s : PS} {a : SpecA} {la : Option Addr} {lc : Nat}
theorem RdOk.up (h : RdOk ro l s a) (hl : Le ro ro') : RdOk ro' l s a := ⟨h.at', h.fat, h.code, ⟨h.build.len, fun i d x h1 h2 => (h.build.each i d x h1 h2).le hl, h.build.nc, h.build.dc⟩, h.sm, h.nn, h.nd⟩
theorem RdOk.wrong (h : RdOk ro l s a) (e : Nat) (he : e ≤ 1000) : RdOk ro l (wrongP e s) a := by
  unfold wrongP
  split
  · exact ⟨h.at', h.at', he, h.build, h.sm, h.nn, h.nd⟩
  · exact h
theorem peekT_at (ht : ToksOk ro la lc l) (h : RdOk ro l s a) : ∃ i, (if s.code = 0 then s.at' else l.length - 1) = i ∧ l[i]? = some (peekP (listE l) s) := by
  unfold peekP listE
  by_cases hc : s.code = 0
  · rw [if_pos hc, if_pos hc]
    refine ⟨_, rfl, ?_⟩
    dsimp only
    rw [List.getElem?_eq_getElem h.at']; rfl
  · rw [if_neg hc, if_neg hc]
    refine ⟨_, rfl, ?_⟩
    dsimp only
    have hp := ht.pos
    rw [List.getLast?_eq_getElem?, List.getElem?_eq_getElem (by omega)]; rfl
theorem peekT_mem (ht : ToksOk ro la lc l) (h : RdOk ro l s a) : peekP (listE l) s ∈ l := by
  obtain ⟨i, _, hi⟩ := peekT_at ht h
  exact List.mem_of_getElem? hi
/-- What isn't the end may be stepped over. -/
theorem RdOk.step (ht : ToksOk ro la lc l) (h : RdOk ro l s a) (hk : (peekP (listE l) s).kind ≠ 5) : RdOk ro l (stepP s) a := by
  obtain ⟨i, e, hi⟩ := peekT_at ht h
  have hl := (List.getElem?_eq_some_iff.1 hi).1
  have h5 := mt (ht.last i _ hi).2 hk
  refine ⟨?_, h.fat, h.code, h.build, h.sm, h.nn, h.nd⟩
  show s.at' + 1 < l.length
  have := h.at'
  split at e <;> omega
end
section
variable {ro : Ro} {own q : Chs} {K : Value → Ro → Chs → Prop} {l : List TokD} {s : PS} {a : SpecA} {la : Option Addr} {lc r : Nat}
abbrev rdC (r : Nat) (la : Option Addr) (lc : Nat) (l : List TokD) (s : PS) (a : SpecA) : Chunk := .blk r 109 (readV la lc l s a)
theorem rok_ok (h : RdOk ro l s a) (ht : Take own (rdC r la lc l s a) q) (hk : K (.bool (decide (s.code = 0))) ro (rdC r la lc l s a :: q)) : CallOk Tryz.prog 57 #[ptr' r] ro own K := by
  refine CallOk.perm ht.perm ?_
  have e : decide ((s.code : Int) = 0) = decide (s.code = 0) := decide_eq_decide.2 (by omega)
  refine CallOk.intro (args := [_]) (rs := [_]) T_ok Tryz.func57 Tryz.call57 rfl rfl (by kernel_rfl) rfl rfl ?_
  repeat (first | exact endA | refine wkP ?_ | refine opB (fun b => ?_) | refine opA (fun a' c' hc1 hc2 => ?_) | (apply GJ.and; exact rfl; intro hg) | (apply GJ.or; exact rfl; intro hg))
  rw [e]
  exact Wk.id hk
theorem rpeek_ok (hT : ToksOk ro la lc l) (h : RdOk ro l s a) (ht : Take own (rdC r la lc l s a) q) (hk : K (.agg (peekP (listE l) s).v.toArray) ro (rdC r la lc l s a :: q)) : CallOk Tryz.prog 58 #[ptr' r] ro own K := by
  refine CallOk.perm ht.perm ?_
  have hr := hT.rs
  have hle := hr.le
  have hmx := hr.max
  unfold maxLen at hmx
  have hp := hT.pos
  have hat := h.at'
  have hl2 := hT.le
  obtain ⟨i, hi, hti⟩ := peekT_at hT h
  generalize peekP (listE l) s = t at *
  have hdr := toksV_drop l i t hti
  obtain ⟨tk, ta, tt⟩ := t
  dsimp only [TokD.v] at hdr hk ⊢
  refine CallOk.intro (args := [_]) (rs := [_]) T_ok Tryz.func58 Tryz.call58 rfl rfl (by kernel_rfl) rfl rfl ?_
  repeat (first | exact endA | refine wkP ?_ | refine opB (fun b => ?_) | refine opA (fun a' c' hc1 hc2 => ?_) | (apply GJ.and; exact rfl; intro hg) | (apply GJ.or; exact rfl; intro hg))
  refine rok_ok h Take.auto ?_
  by_cases hc : s.code = 0
  · rw [if_pos hc] at hi
    subst hi
    repeat (first | exact endA | refine wkP ?_ | refine opB (fun b => ?_) | refine opA (fun a' c' hc1 hc2 => ?_) | (apply GJ.and; exact rfl; intro hg) | (apply GJ.or; exact rfl; intro hg))
    refine QOk.loadRow rfl rfl (LdN.atR (own := q) (Rs.rds (own := q) (ro' := ro) hr) hdr (by rw [Int.toNat_natCast])) rfl ?_
    repeat (first | exact endA | refine wkP ?_ | refine opB (fun b => ?_) | refine opA (fun a' c' hc1 hc2 => ?_) | (apply GJ.and; exact rfl; intro hg) | (apply GJ.or; exact rfl; intro hg))
    exact Wk.outS Sup.auto (.refl _) hk
  · rw [if_neg hc] at hi
    subst hi
    repeat (first | exact endA | refine wkP ?_ | refine opB (fun b => ?_) | refine opA (fun a' c' hc1 hc2 => ?_) | (apply GJ.and; exact rfl; intro hg) | (apply GJ.or; exact rfl; intro hg))
    refine QOk.loadRow rfl rfl (LdN.atR (own := q) (Rs.rds (own := q) (ro' := ro) hr) hdr (by rw [show ((l.length : Int) - 1).toNat = l.length - 1 by omega])) rfl ?_
    repeat (first | exact endA | refine wkP ?_ | refine opB (fun b => ?_) | refine opA (fun a' c' hc1 hc2 => ?_) | (apply GJ.and; exact rfl; intro hg) | (apply GJ.or; exact rfl; intro hg))
    exact Wk.outS Sup.auto (.refl _) hk
theorem rwrong_ok {e : Nat} (he : e ≠ 0) (hT : ToksOk ro la lc l) (h : RdOk ro l s a) (ht : Take own (rdC r la lc l s a) q) (hk : K (.tuple #[]) ro (rdC r la lc l (wrongP e s) a :: q)) : CallOk Tryz.prog 89 #[ptr' r, .int .i64 (e : Int)] ro own K := by
  refine CallOk.perm ht.perm ?_
  refine CallOk.intro (args := [_, _]) (rs := []) T_ok Tryz.func89 Tryz.call89 rfl rfl (by kernel_rfl) rfl rfl ?_
  by_cases hc : s.code = 0
  · have hw : readV la lc l (wrongP e s) a = [.slice la l.length lc, .int .i64 (s.at' : Int), .slice a.na s.nodes.length a.nc, .slice a.da s.defs.length a.dc, .int .i64 (e : Int), .int .i64 ((peekP (listE l) s).a : Int)] := by
      unfold wrongP peekP listE readV fatV
      rw [if_pos hc, if_pos hc]
      dsimp only
      rw [if_neg he]
    unfold rdC at hk
    rw [hw] at hk
    repeat (first | exact endA | refine wkP ?_ | refine opB (fun b => ?_) | refine opA (fun a' c' hc1 hc2 => ?_) | (apply GJ.and; exact rfl; intro hg) | (apply GJ.or; exact rfl; intro hg))
    refine rpeek_ok hT h Take.auto ?_
    generalize peekP (listE l) s = z at *
    obtain ⟨tk, ta, tt⟩ := z
    dsimp only [TokD.v] at hk ⊢
    unfold rdC readV
    repeat (first | exact endA | refine wkP ?_ | refine opB (fun b => ?_) | refine opA (fun a' c' hc1 hc2 => ?_) | (apply GJ.and; exact rfl; intro hg) | (apply GJ.or; exact rfl; intro hg))
    refine OpOk.storePart (o := 0 + 4) (vs := [.int .i64 (e : Int), .int .i64 (ta : Int)]) rfl rfl rfl rfl rfl (by show 0 + 4 + 2 ≤ 6; decide) (cs' := [.slice la l.length lc, .int .i64 (s.at' : Int), .slice a.na s.nodes.length a.nc, .slice a.da s.defs.length a.dc, .int .i64 (e : Int), .int .i64 (ta : Int)]) (Nf.self _) ?_
    repeat (first | exact endA | refine wkP ?_ | refine opB (fun b => ?_) | refine opA (fun a' c' hc1 hc2 => ?_) | (apply GJ.and; exact rfl; intro hg) | (apply GJ.or; exact rfl; intro hg))
    exact Wk.outS Sup.auto (.refl _) hk
  · have hw : wrongP e s = s := by unfold wrongP; rw [if_neg hc]
    rw [hw] at hk
    repeat (first | exact endA | refine wkP ?_ | refine opB (fun b => ?_) | refine opA (fun a' c' hc1 hc2 => ?_) | (apply GJ.and; exact rfl; intro hg) | (apply GJ.or; exact rfl; intro hg))
    exact Wk.outS Sup.auto (.refl _) hk
theorem ris_ok {k : Nat} {t : List UInt8} (hT : ToksOk ro la lc l) (h : RdOk ro l s a) (ht : Take own (rdC r la lc l s a) q) (hk : K (.bool (isP (listE l) k t s)) ro (rdC r la lc l s a :: q)) : CallOk Tryz.prog 112 #[ptr' r, .int .i64 (k : Int), str t] ro own K := by
  refine CallOk.perm ht.perm ?_
  refine CallOk.intro (args := [_, _, _]) (rs := [_]) T_ok Tryz.func112 Tryz.call112 rfl rfl (by kernel_rfl) rfl rfl ?_
  repeat (first | exact endA | refine wkP ?_ | refine opB (fun b => ?_) | refine opA (fun a' c' hc1 hc2 => ?_) | (apply GJ.and; exact rfl; intro hg) | (apply GJ.or; exact rfl; intro hg))
  refine rpeek_ok hT h Take.auto ?_
  unfold isP at hk
  generalize peekP (listE l) s = z at *
  obtain ⟨tk, ta, tt⟩ := z
  dsimp only [TokD.v] at hk ⊢
  rw [← show decide ((tk : Int) = (k : Int)) = decide (tk = k) from decide_eq_decide.2 (by omega)] at hk
  repeat (first | exact endA | refine wkP ?_ | refine opB (fun b => ?_) | refine opA (fun a' c' hc1 hc2 => ?_) | (apply GJ.and; exact rfl; intro hg) | (apply GJ.or; exact rfl; intro hg))
  exact Wk.outS Sup.auto (.refl _) hk
theorem stepC {r : Nat} : rdC r la lc l (stepP s) a = .blk r 109 [.slice la l.length lc, .int .i64 ((s.at' : Int) + 1), .slice a.na s.nodes.length a.nc, .slice a.da s.defs.length a.dc, .int .i64 (s.code : Int), .int .i64 (fatV l s : Int)] := rfl
theorem reat_ok {k : Nat} {t : List UInt8} (hk5 : k ≠ 5) (hT : ToksOk ro la lc l) (h : RdOk ro l s a) (ht : Take own (rdC r la lc l s a) q) (hk : RdOk ro l (eatP (listE l) k t s).2 a → K (.bool (eatP (listE l) k t s).1) ro (rdC r la lc l (eatP (listE l) k t s).2 a :: q)) : CallOk Tryz.prog 131 #[ptr' r, .int .i64 (k : Int), str t] ro own K := by
  refine CallOk.perm ht.perm ?_
  refine CallOk.intro (args := [_, _, _]) (rs := [_]) T_ok Tryz.func131 Tryz.call131 rfl rfl (by kernel_rfl) rfl rfl ?_
  repeat (first | exact endA | refine wkP ?_ | refine opB (fun b => ?_) | refine opA (fun a' c' hc1 hc2 => ?_) | (apply GJ.and; exact rfl; intro hg) | (apply GJ.or; exact rfl; intro hg))
  refine ris_ok hT h Take.auto ?_
  unfold eatP at hk
  have hstep := h.step hT
  have hi : isP (listE l) k t s = true → (peekP (listE l) s).kind = k := fun hi => by
    unfold isP at hi
    rw [Bool.and_eq_true, decide_eq_true_eq] at hi
    exact hi.1
  cases hc : isP (listE l) k t s with
  | false =>
    rw [hc, if_neg (by decide)] at hk
    repeat (first | exact endA | refine wkP ?_ | refine opB (fun b => ?_) | refine opA (fun a' c' hc1 hc2 => ?_) | (apply GJ.and; exact rfl; intro hg) | (apply GJ.or; exact rfl; intro hg))
    exact Wk.outS Sup.auto (.refl _) (hk h)
  | true =>
    rw [hc, if_pos rfl] at hk
    have hk := hk (hstep (by rw [hi hc]; exact hk5))
    dsimp only at hk
    rw [stepC] at hk
    have hat := h.at'
    have hl2 := hT.le
    unfold rdC readV
    repeat (first | exact endA | refine wkP ?_ | refine opB (fun b => ?_) | refine opA (fun a' c' hc1 hc2 => ?_) | (apply GJ.and; exact rfl; intro hg) | (apply GJ.or; exact rfl; intro hg))
    exact Wk.outS Sup.auto (.refl _) hk
theorem rsign_ok {t : List UInt8} (hT : ToksOk ro la lc l) (h : RdOk ro l s a) (ht : Take own (rdC r la lc l s a) q) (hk : RdOk ro l (signP (listE l) t s).2 a → K (.bool (signP (listE l) t s).1) ro (rdC r la lc l (signP (listE l) t s).2 a :: q)) : CallOk Tryz.prog 110 #[ptr' r, str t] ro own K := by
  refine CallOk.perm ht.perm ?_
  refine CallOk.intro (args := [_, _]) (rs := [_]) T_ok Tryz.func110 Tryz.call110 rfl rfl (by kernel_rfl) rfl rfl ?_
  repeat (first | exact endA | refine wkP ?_ | refine opB (fun b => ?_) | refine opA (fun a' c' hc1 hc2 => ?_) | (apply GJ.and; exact rfl; intro hg) | (apply GJ.or; exact rfl; intro hg))
  refine reat_ok (k := 4) (by decide) hT h Take.auto (fun h2 => ?_)
  repeat (first | exact endA | refine wkP ?_ | refine opB (fun b => ?_) | refine opA (fun a' c' hc1 hc2 => ?_) | (apply GJ.and; exact rfl; intro hg) | (apply GJ.or; exact rfl; intro hg))
  exact Wk.outS Sup.auto (.refl _) (hk h2)
theorem rword_ok {t : List UInt8} (hT : ToksOk ro la lc l) (h : RdOk ro l s a) (ht : Take own (rdC r la lc l s a) q) (hk : RdOk ro l (kwP (listE l) t s).2 a → K (.bool (kwP (listE l) t s).1) ro (rdC r la lc l (kwP (listE l) t s).2 a :: q)) : CallOk Tryz.prog 135 #[ptr' r, str t] ro own K := by
  refine CallOk.perm ht.perm ?_
  refine CallOk.intro (args := [_, _]) (rs := [_]) T_ok Tryz.func135 Tryz.call135 rfl rfl (by kernel_rfl) rfl rfl ?_
  repeat (first | exact endA | refine wkP ?_ | refine opB (fun b => ?_) | refine opA (fun a' c' hc1 hc2 => ?_) | (apply GJ.and; exact rfl; intro hg) | (apply GJ.or; exact rfl; intro hg))
  refine reat_ok (k := 1) (by decide) hT h Take.auto (fun h2 => ?_)
  repeat (first | exact endA | refine wkP ?_ | refine opB (fun b => ?_) | refine opA (fun a' c' hc1 hc2 => ?_) | (apply GJ.and; exact rfl; intro hg) | (apply GJ.or; exact rfl; intro hg))
  exact Wk.outS Sup.auto (.refl _) (hk h2)
theorem rmust_ok {t : List UInt8} (hT : ToksOk ro la lc l) (h : RdOk ro l s a) (ht : Take own (rdC r la lc l s a) q) (hk : RdOk ro l (mustP (listE l) t s) a → K (.tuple #[]) ro (rdC r la lc l (mustP (listE l) t s) a :: q)) : CallOk Tryz.prog 86 #[ptr' r, str t] ro own K := by
  refine CallOk.perm ht.perm ?_
  refine CallOk.intro (args := [_, _]) (rs := []) T_ok Tryz.func86 Tryz.call86 rfl rfl (by kernel_rfl) rfl rfl ?_
  repeat (first | exact endA | refine wkP ?_ | refine opB (fun b => ?_) | refine opA (fun a' c' hc1 hc2 => ?_) | (apply GJ.and; exact rfl; intro hg) | (apply GJ.or; exact rfl; intro hg))
  refine rsign_ok hT h Take.auto (fun h2 => ?_)
  unfold mustP at hk
  cases hc : (signP (listE l) t s).1 with
  | true =>
    rw [hc, if_pos rfl] at hk
    repeat (first | exact endA | refine wkP ?_ | refine opB (fun b => ?_) | refine opA (fun a' c' hc1 hc2 => ?_) | (apply GJ.and; exact rfl; intro hg) | (apply GJ.or; exact rfl; intro hg))
    exact Wk.outS Sup.auto (.refl _) (hk h2)
  | false =>
    rw [hc, if_neg (by decide)] at hk
    have hs : (signP (listE l) t s).2 = s := by
      unfold signP eatP at hc ⊢
      split at hc
      · cases hc
      · rename_i hn
        rw [if_neg hn]
    rw [hs]
    repeat (first | exact endA | refine wkP ?_ | refine opB (fun b => ?_) | refine opA (fun a' c' hc1 hc2 => ?_) | (apply GJ.and; exact rfl; intro hg) | (apply GJ.or; exact rfl; intro hg))
    refine rwrong_ok (e := 5) (by decide) hT h Take.auto ?_
    repeat (first | exact endA | refine wkP ?_ | refine opB (fun b => ?_) | refine opA (fun a' c' hc1 hc2 => ?_) | (apply GJ.and; exact rfl; intro hg) | (apply GJ.or; exact rfl; intro hg))
    exact Wk.outS Sup.auto (.refl _) (hk (h.wrong 5 (by decide)))
end
end Go.Proofs.YtnapjcnfgdkmcaaGreatDoor
end
section
/- Contracts of parse: Word, Fixed; strings.Contains and strconv.Itoa off the shelf. -/
namespace Go.Proofs
open Go.Shelf
def Tryz.laysItoa_ren : Go.Shelf.Ren := ⟨fun | 171 => 51 | 243 => 81 | 246 => 102 | 283 => 124 | 284 => 125 | 285 => 126 | 286 => 127 | 129 => 146 | 317 => 145 | 318 => 147 | 319 => 148 | 320 => 149 | 337 => 160 | 338 => 161 | n => n, fun | 3 => 3 | 9 => 9 | 2 => 2 | 4 => 4 | 171 => 185 | 0 => 0 | 53 => 33 | 37 => 88 | 5 => 5 | 173 => 188 | 212 => 204 | 51 => 180 | 20 => 20 | 213 => 205 | 46 => 164 | 232 => 228 | 233 => 229 | n => n, fun | 17 => 2 | 18 => 4 | 19 => 5 | n => n⟩
theorem Tryz.laysItoa : Go.Proofs.Lays.n171 Tryz.prog Tryz.laysItoa_ren := {
  mixed := by kernel_rfl
  f129 := Tryz.func146.trans (congrArg some (by kernel_rfl))
  f171 := Tryz.func51.trans (congrArg some (by kernel_rfl))
  f243 := Tryz.func81.trans (congrArg some (by kernel_rfl))
  f246 := Tryz.func102.trans (congrArg some (by kernel_rfl))
  f283 := Tryz.func124.trans (congrArg some (by kernel_rfl))
  f284 := Tryz.func125.trans (congrArg some (by kernel_rfl))
  f285 := Tryz.func126.trans (congrArg some (by kernel_rfl))
  f286 := Tryz.func127.trans (congrArg some (by kernel_rfl))
  f317 := Tryz.func145.trans (congrArg some (by kernel_rfl))
  f318 := Tryz.func147.trans (congrArg some (by kernel_rfl))
  f319 := Tryz.func148.trans (congrArg some (by kernel_rfl))
  f320 := Tryz.func149.trans (congrArg some (by kernel_rfl))
  f337 := Tryz.func160.trans (congrArg some (by kernel_rfl))
  f338 := Tryz.func161.trans (congrArg some (by kernel_rfl))
  t0 := Tryz.underlying0
  a0 := Tryz.isAgg0
  z0 := Tryz.sizeOf0
  v0 := Tryz.zeroValue0
  t2 := Tryz.underlying2
  a2 := Tryz.isAgg2
  z2 := Tryz.sizeOf2
  v2 := Tryz.zeroValue2
  t3 := Tryz.underlying3
  a3 := Tryz.isAgg3
  z3 := Tryz.sizeOf3
  v3 := Tryz.zeroValue3
  t4 := Tryz.underlying4
  a4 := Tryz.isAgg4
  z4 := Tryz.sizeOf4
  v4 := Tryz.zeroValue4
  t5 := Tryz.underlying5
  a5 := Tryz.isAgg5
  z5 := Tryz.sizeOf5
  v5 := Tryz.zeroValue5
  t9 := Tryz.underlying9
  a9 := Tryz.isAgg9
  z9 := Tryz.sizeOf9
  v9 := Tryz.zeroValue9
  t20 := Tryz.underlying20
  a20 := Tryz.isAgg20
  z20 := Tryz.sizeOf20
  v20 := Tryz.zeroValue20
  t37 := Tryz.underlying88
  a37 := Tryz.isAgg88
  z37 := Tryz.sizeOf88
  v37 := Tryz.zeroValue88
  t46 := Tryz.underlying164
  a46 := Tryz.isAgg164
  z46 := Tryz.sizeOf164
  v46 := Tryz.zeroValue164
  t51 := Tryz.underlying180
  a51 := Tryz.isAgg180
  z51 := Tryz.sizeOf180
  v51 := Tryz.zeroValue180
  t53 := Tryz.underlying33
  a53 := Tryz.isAgg33
  z53 := Tryz.sizeOf33
  v53 := Tryz.zeroValue33
  t171 := Tryz.underlying185
  a171 := Tryz.isAgg185
  z171 := Tryz.sizeOf185
  v171 := Tryz.zeroValue185
  t173 := Tryz.underlying188
  a173 := Tryz.isAgg188
  z173 := Tryz.sizeOf188
  v173 := Tryz.zeroValue188
  t212 := Tryz.underlying204
  a212 := Tryz.isAgg204
  z212 := Tryz.sizeOf204
  v212 := Tryz.zeroValue204
  t213 := Tryz.underlying205
  a213 := Tryz.isAgg205
  z213 := Tryz.sizeOf205
  t232 := Tryz.underlying228
  a232 := Tryz.isAgg228
  z232 := Tryz.sizeOf228
  v232 := Tryz.zeroValue228
  t233 := Tryz.underlying229
  a233 := Tryz.isAgg229
  z233 := Tryz.sizeOf229
  v233 := Tryz.zeroValue229
  g17 := by kernel_rfl
  g18 := by kernel_rfl
  g19 := by kernel_rfl }
end Go.Proofs
namespace Go.Proofs
open Go.Shelf
def Tryz.laysContains_ren : Go.Shelf.Ren := ⟨fun | 143 => 49 | 144 => 16 | 217 => 97 | 219 => 79 | 224 => 99 | 225 => 98 | 266 => 121 | 267 => 100 | 314 => 122 | n => n, fun | 3 => 3 | 4 => 4 | 5 => 5 | 9 => 9 | 46 => 164 | 51 => 180 | 146 => 181 | n => n, fun | 1 => 0 | n => n⟩
theorem Tryz.laysContains : Go.Proofs.Lays.n144 Tryz.prog Tryz.laysContains_ren := {
  mixed := by kernel_rfl
  f143 := Tryz.func49.trans (congrArg some (by kernel_rfl))
  f144 := Tryz.func16.trans (congrArg some (by kernel_rfl))
  f217 := Tryz.func97.trans (congrArg some (by kernel_rfl))
  f219 := Tryz.func79.trans (congrArg some (by kernel_rfl))
  f224 := Tryz.func99.trans (congrArg some (by kernel_rfl))
  f225 := Tryz.func98.trans (congrArg some (by kernel_rfl))
  f266 := Tryz.func121.trans (congrArg some (by kernel_rfl))
  f267 := Tryz.func100.trans (congrArg some (by kernel_rfl))
  f314 := Tryz.func122.trans (congrArg some (by kernel_rfl))
  t3 := Tryz.underlying3
  a3 := Tryz.isAgg3
  z3 := Tryz.sizeOf3
  v3 := Tryz.zeroValue3
  t4 := Tryz.underlying4
  a4 := Tryz.isAgg4
  z4 := Tryz.sizeOf4
  v4 := Tryz.zeroValue4
  t5 := Tryz.underlying5
  a5 := Tryz.isAgg5
  z5 := Tryz.sizeOf5
  v5 := Tryz.zeroValue5
  t9 := Tryz.underlying9
  a9 := Tryz.isAgg9
  z9 := Tryz.sizeOf9
  v9 := Tryz.zeroValue9
  t46 := Tryz.underlying164
  a46 := Tryz.isAgg164
  z46 := Tryz.sizeOf164
  v46 := Tryz.zeroValue164
  t51 := Tryz.underlying180
  a51 := Tryz.isAgg180
  z51 := Tryz.sizeOf180
  v51 := Tryz.zeroValue180
  t146 := Tryz.underlying181
  a146 := Tryz.isAgg181
  z146 := Tryz.sizeOf181
  v146 := Tryz.zeroValue181
  g1 := by kernel_rfl }
end Go.Proofs
namespace Go.E
open Go
/-- A contract off the shelf that reads a cell that lasts. -/
theorem CallOk.ofCell {P : Program} {f : FuncId} {ro : Ro} {own : Chs} {K : Value → Ro → Chs → Prop} {args : Array Value} {v x : Value} {b : Nat} (enter : ∀ args w, (callFunc f args).run P w = .ok (.enter f args) w) (hl : Ld ro own b 0 x)
    (h : ∀ w : World, w.cell? ⟨b, 0, none⟩ = some x → Calls P f args w fun e w' => e = .returned v ∧ w' = w) (hk : K v ro own) : CallOk P f args ro own K :=
  CallOk.body enter fun h0 hs w hw => (h w (by subst hw; rw [cell_eq]; exact hl _ hs)).mono fun e w' ⟨he, hb⟩ => ⟨v, he, by subst hb; exact ⟨rfl, rfl, rfl, rfl⟩, ro, own, Le.refl _, by subst hb; rw [hw]; exact hs, hk⟩
end Go.E
namespace Go.Proofs.YtnapjcnfgdkmcaaGreatDoor
open Go Go.E
set_option linter.unusedVariables false
set_option linter.unusedSectionVars false
set_option linter.unusedSimpArgs false
set_option maxRecDepth 10000
/-- What bytealg.MaxLen holds lasts. -/
def MaxOk (ro : Ro) : Prop := ∃ m : Int, ∀ own, Ld ro own 0 0 (.int .i64 m)
theorem MaxOk.le {ro ro' : Ro} (h : MaxOk ro) (hl : Le ro ro') : MaxOk ro' := by
  obtain ⟨m, hm⟩ := h
  exact ⟨m, fun own g hs => hm own g (hs.leq ⟨hl.le⟩)⟩
theorem itoa_ok {ro : Ro} {own : Chs} {K : Value → Ro → Chs → Prop} {z : Int} (hz : 0 ≤ z ∧ z < 100) (hk : K (str (Lib.itoa z)) ro own) : CallOk Tryz.prog 51 #[.int .i64 z] ro own K := by
  obtain ⟨n, rfl⟩ : ∃ n : Nat, z = (n : Int) := ⟨z.toNat, by omega⟩
  have e : Lib.itoa (n : Int) = Lib.decDigits n := by unfold Lib.itoa; rw [if_neg (by omega), Int.toNat_natCast]
  rw [e] at hk
  refine CallOk.ofBelow Tryz.call51 (fun w => ?_) hk
  have h := Go.Proofs.Any.strconv_Itoa_small Tryz.laysItoa n (by omega) w
  rw [show Tryz.laysItoa_ren.f 171 = 51 by kernel_rfl] at h
  refine h.mono fun e w' ⟨he, hb⟩ => ⟨he, ?_⟩
  rw [hb]
  exact Go.RowKit.Below.refl _ _
section
variable {ro : Ro} {own q : Chs} {K : Value → Ro → Chs → Prop}
theorem contains_ok {x y : List UInt8} (hM : MaxOk ro) (hx : x.length ≤ 1000000) (hk : K (.bool (Lib.contains x y)) ro own) : CallOk Tryz.prog 16 #[str x, str y] ro own K := by
  obtain ⟨m, hm⟩ := hM
  refine CallOk.ofCell Tryz.call16 (hm own) (fun w hw => ?_) hk
  have h := Go.Proofs.Any.strings_Contains Tryz.laysContains ⟨x.toArray⟩ ⟨y.toArray⟩ m w (by simp [ByteArray.size]; omega) hw
  rw [show Tryz.laysContains_ren.f 144 = 16 by kernel_rfl] at h
  exact h
end
end Go.Proofs.YtnapjcnfgdkmcaaGreatDoor
end
section
/- Contracts of parse: Fixed, Word; the reader's names and numbers. -/
namespace Go.Proofs.YtnapjcnfgdkmcaaGreatDoor
open Go Go.E
set_option linter.unusedVariables false
set_option linter.unusedSectionVars false
set_option linter.unusedSimpArgs false
set_option maxRecDepth 10000
theorem fixed_none {t : List UInt8} (h : ∀ x ∈ fixedL, x.2.1 < 9 → x.1 ≠ t) : fixedD t = none := by
  have h9 : ∀ x ∈ fixedL, x.2.1 < 9 := by decide
  unfold fixedD
  rw [List.find?_eq_none.2 (fun x hx => by
    have := h x hx (h9 x hx)
    simpa using this)]
  rfl
def fixV : Option (Nat × Bool) → Value
  | some x => .tuple #[.int .i64 (x.1 : Int), .bool x.2, .bool true]
  | none => .tuple #[.int .i64 0, .bool false, .bool false]
section
variable {ro : Ro} {own q : Chs} {K : Value → Ro → Chs → Prop}
set_option maxHeartbeats 4000000 in
theorem rfixed_ok {t : List UInt8} (ht : t.length ≤ 65536) (hk : K (fixV (fixedD t)) ro own) : CallOk Tryz.prog 18 #[str t] ro own K := by
  refine CallOk.intro (args := [_]) (rs := [_, _, _]) T_ok Tryz.func18 Tryz.call18 rfl rfl (by kernel_rfl) rfl rfl ?_
  repeat (first | exact endA | refine wkP ?_ | refine opB (fun b => ?_) | refine opA (fun a' c' hc1 hc2 => ?_) | (apply GJ.and; exact rfl; intro hg) | (apply GJ.or; exact rfl; intro hg))
  refine LoopOk.at (ι := Nat) Keep.auto (fun w => [(5, .int .i64 (w : Int))]) (fun w => own) (fun w => 1 ≤ w ∧ w ≤ 9 ∧ ∀ x ∈ fixedL, x.2.1 < w → x.1 ≠ t) (fun w => 9 - w) 1 ?_ Sub.auto Sup.auto ?_
  · exact ⟨Nat.le_refl _, by decide, fun x hx hlt => by have : ∀ x ∈ fixedL, 1 ≤ x.2.1 := by decide
                                                        have := this x hx; omega⟩
  rintro w ⟨i1, i2, i3⟩
  dsimp only [List.cons_append, List.nil_append] at i1 i2 i3 ⊢
  obtain rfl | rfl | rfl | rfl | rfl | rfl | rfl | rfl | rfl : w = 1 ∨ w = 2 ∨ w = 3 ∨ w = 4 ∨ w = 5 ∨ w = 6 ∨ w = 7 ∨ w = 8 ∨ w = 9 := by omega
  · have hA : ∀ x ∈ fixedL, x.2.1 = 1 → x.1 = [117, 56] ∨ x.1 = [117, 56] := by decide
    have hnx : t ≠ [117, 56] → t ≠ [117, 56] → ∀ x ∈ fixedL, x.2.1 < 1 + 1 → x.1 ≠ t := fun h1 h2 x hx hlt => by
      by_cases hlt2 : x.2.1 < 1
      · exact i3 x hx hlt2
      · rcases hA x hx (by omega) with e | e
        · rw [e]; exact fun h => h1 h.symm
        · rw [e]; exact fun h => h2 h.symm
    repeat (first | exact endA | refine wkP ?_ | refine opB (fun b => ?_) | refine opA (fun a' c' hc1 hc2 => ?_) | (apply GJ.and; exact rfl; intro hg) | (apply GJ.or; exact rfl; intro hg))
    refine itoa_ok (by decide) ?_
    rw [show Lib.itoa (8 * ((1 : Nat) : Int)) = [56] by decide +kernel]
    by_cases h1 : t = [117, 56]
    · subst h1
      have hf : fixedD [117, 56] = some (1, false) := by decide +kernel
      rw [hf] at hk
      repeat (first | exact endA | refine wkB ?_ | refine ⟨by decide, ?_⟩ | (apply GJ.and; exact rfl; intro hg) | (apply GJ.or; exact rfl; intro hg))
      exact Wk.outS Sup.auto (.refl _) hk
    · by_cases h2 : t = [117, 56]
      · subst h2
        have hf : fixedD [117, 56] = some (1, false) := by decide +kernel
        rw [hf] at hk
        repeat (first | exact endA | refine wkB ?_ | refine ⟨by decide, ?_⟩ | (apply GJ.and; exact rfl; intro hg) | (apply GJ.or; exact rfl; intro hg))
        exact Wk.outS Sup.auto (.refl _) hk
      · have hnx := hnx h1 h2
        have h1' : ¬ t = [117, 56] := h1
        repeat (first | exact endA | refine wkB ?_ | refine ⟨by decide, ?_⟩ | (apply GJ.and; exact rfl; intro hg) | (apply GJ.or; exact rfl; intro hg))
        refine Wk.id ⟨1 + 1, ⟨rfl, ?_⟩, ?_, Sub.auto, Sup.auto⟩
        all_goals try dsimp only
        · exact ⟨by decide, by decide, hnx⟩
        · decide
  · have hA : ∀ x ∈ fixedL, x.2.1 = 2 → x.1 = [117, 49, 54, 98, 101] ∨ x.1 = [117, 49, 54, 108, 101] := by decide
    have hnx : t ≠ [117, 49, 54, 98, 101] → t ≠ [117, 49, 54, 108, 101] → ∀ x ∈ fixedL, x.2.1 < 2 + 1 → x.1 ≠ t := fun h1 h2 x hx hlt => by
      by_cases hlt2 : x.2.1 < 2
      · exact i3 x hx hlt2
      · rcases hA x hx (by omega) with e | e
        · rw [e]; exact fun h => h1 h.symm
        · rw [e]; exact fun h => h2 h.symm
    repeat (first | exact endA | refine wkP ?_ | refine opB (fun b => ?_) | refine opA (fun a' c' hc1 hc2 => ?_) | (apply GJ.and; exact rfl; intro hg) | (apply GJ.or; exact rfl; intro hg))
    refine itoa_ok (by decide) ?_
    rw [show Lib.itoa (8 * ((2 : Nat) : Int)) = [49, 54] by decide +kernel]
    by_cases h1 : t = [117, 49, 54, 98, 101]
    · subst h1
      have hf : fixedD [117, 49, 54, 98, 101] = some (2, false) := by decide +kernel
      rw [hf] at hk
      repeat (first | exact endA | refine wkB ?_ | refine ⟨by decide, ?_⟩ | (apply GJ.and; exact rfl; intro hg) | (apply GJ.or; exact rfl; intro hg))
      exact Wk.outS Sup.auto (.refl _) hk
    · by_cases h2 : t = [117, 49, 54, 108, 101]
      · subst h2
        have hf : fixedD [117, 49, 54, 108, 101] = some (2, true) := by decide +kernel
        rw [hf] at hk
        repeat (first | exact endA | refine wkB ?_ | refine ⟨by decide, ?_⟩ | (apply GJ.and; exact rfl; intro hg) | (apply GJ.or; exact rfl; intro hg))
        exact Wk.outS Sup.auto (.refl _) hk
      · have hnx := hnx h1 h2
        have h1' : ¬ t = [117, 49, 54, 98, 101] := h1
        repeat (first | exact endA | refine wkB ?_ | refine ⟨by decide, ?_⟩ | (apply GJ.and; exact rfl; intro hg) | (apply GJ.or; exact rfl; intro hg))
        refine Wk.id ⟨2 + 1, ⟨rfl, ?_⟩, ?_, Sub.auto, Sup.auto⟩
        all_goals try dsimp only
        · exact ⟨by decide, by decide, hnx⟩
        · decide
  · have hA : ∀ x ∈ fixedL, x.2.1 = 3 → x.1 = [117, 50, 52, 98, 101] ∨ x.1 = [117, 50, 52, 108, 101] := by decide
    have hnx : t ≠ [117, 50, 52, 98, 101] → t ≠ [117, 50, 52, 108, 101] → ∀ x ∈ fixedL, x.2.1 < 3 + 1 → x.1 ≠ t := fun h1 h2 x hx hlt => by
      by_cases hlt2 : x.2.1 < 3
      · exact i3 x hx hlt2
      · rcases hA x hx (by omega) with e | e
        · rw [e]; exact fun h => h1 h.symm
        · rw [e]; exact fun h => h2 h.symm
    repeat (first | exact endA | refine wkP ?_ | refine opB (fun b => ?_) | refine opA (fun a' c' hc1 hc2 => ?_) | (apply GJ.and; exact rfl; intro hg) | (apply GJ.or; exact rfl; intro hg))
    refine itoa_ok (by decide) ?_
    rw [show Lib.itoa (8 * ((3 : Nat) : Int)) = [50, 52] by decide +kernel]
    by_cases h1 : t = [117, 50, 52, 98, 101]
    · subst h1
      have hf : fixedD [117, 50, 52, 98, 101] = some (3, false) := by decide +kernel
      rw [hf] at hk
      repeat (first | exact endA | refine wkB ?_ | refine ⟨by decide, ?_⟩ | (apply GJ.and; exact rfl; intro hg) | (apply GJ.or; exact rfl; intro hg))
      exact Wk.outS Sup.auto (.refl _) hk
    · by_cases h2 : t = [117, 50, 52, 108, 101]
      · subst h2
        have hf : fixedD [117, 50, 52, 108, 101] = some (3, true) := by decide +kernel
        rw [hf] at hk
        repeat (first | exact endA | refine wkB ?_ | refine ⟨by decide, ?_⟩ | (apply GJ.and; exact rfl; intro hg) | (apply GJ.or; exact rfl; intro hg))
        exact Wk.outS Sup.auto (.refl _) hk
      · have hnx := hnx h1 h2
        have h1' : ¬ t = [117, 50, 52, 98, 101] := h1
        repeat (first | exact endA | refine wkB ?_ | refine ⟨by decide, ?_⟩ | (apply GJ.and; exact rfl; intro hg) | (apply GJ.or; exact rfl; intro hg))
        refine Wk.id ⟨3 + 1, ⟨rfl, ?_⟩, ?_, Sub.auto, Sup.auto⟩
        all_goals try dsimp only
        · exact ⟨by decide, by decide, hnx⟩
        · decide
  · have hA : ∀ x ∈ fixedL, x.2.1 = 4 → x.1 = [117, 51, 50, 98, 101] ∨ x.1 = [117, 51, 50, 108, 101] := by decide
    have hnx : t ≠ [117, 51, 50, 98, 101] → t ≠ [117, 51, 50, 108, 101] → ∀ x ∈ fixedL, x.2.1 < 4 + 1 → x.1 ≠ t := fun h1 h2 x hx hlt => by
      by_cases hlt2 : x.2.1 < 4
      · exact i3 x hx hlt2
      · rcases hA x hx (by omega) with e | e
        · rw [e]; exact fun h => h1 h.symm
        · rw [e]; exact fun h => h2 h.symm
    repeat (first | exact endA | refine wkP ?_ | refine opB (fun b => ?_) | refine opA (fun a' c' hc1 hc2 => ?_) | (apply GJ.and; exact rfl; intro hg) | (apply GJ.or; exact rfl; intro hg))
    refine itoa_ok (by decide) ?_
    rw [show Lib.itoa (8 * ((4 : Nat) : Int)) = [51, 50] by decide +kernel]
    by_cases h1 : t = [117, 51, 50, 98, 101]
    · subst h1
      have hf : fixedD [117, 51, 50, 98, 101] = some (4, false) := by decide +kernel
      rw [hf] at hk
      repeat (first | exact endA | refine wkB ?_ | refine ⟨by decide, ?_⟩ | (apply GJ.and; exact rfl; intro hg) | (apply GJ.or; exact rfl; intro hg))
      exact Wk.outS Sup.auto (.refl _) hk
    · by_cases h2 : t = [117, 51, 50, 108, 101]
      · subst h2
        have hf : fixedD [117, 51, 50, 108, 101] = some (4, true) := by decide +kernel
        rw [hf] at hk
        repeat (first | exact endA | refine wkB ?_ | refine ⟨by decide, ?_⟩ | (apply GJ.and; exact rfl; intro hg) | (apply GJ.or; exact rfl; intro hg))
        exact Wk.outS Sup.auto (.refl _) hk
      · have hnx := hnx h1 h2
        have h1' : ¬ t = [117, 51, 50, 98, 101] := h1
        repeat (first | exact endA | refine wkB ?_ | refine ⟨by decide, ?_⟩ | (apply GJ.and; exact rfl; intro hg) | (apply GJ.or; exact rfl; intro hg))
        refine Wk.id ⟨4 + 1, ⟨rfl, ?_⟩, ?_, Sub.auto, Sup.auto⟩
        all_goals try dsimp only
        · exact ⟨by decide, by decide, hnx⟩
        · decide
  · have hA : ∀ x ∈ fixedL, x.2.1 = 5 → x.1 = [117, 52, 48, 98, 101] ∨ x.1 = [117, 52, 48, 108, 101] := by decide
    have hnx : t ≠ [117, 52, 48, 98, 101] → t ≠ [117, 52, 48, 108, 101] → ∀ x ∈ fixedL, x.2.1 < 5 + 1 → x.1 ≠ t := fun h1 h2 x hx hlt => by
      by_cases hlt2 : x.2.1 < 5
      · exact i3 x hx hlt2
      · rcases hA x hx (by omega) with e | e
        · rw [e]; exact fun h => h1 h.symm
        · rw [e]; exact fun h => h2 h.symm
    repeat (first | exact endA | refine wkP ?_ | refine opB (fun b => ?_) | refine opA (fun a' c' hc1 hc2 => ?_) | (apply GJ.and; exact rfl; intro hg) | (apply GJ.or; exact rfl; intro hg))
    refine itoa_ok (by decide) ?_
    rw [show Lib.itoa (8 * ((5 : Nat) : Int)) = [52, 48] by decide +kernel]
    by_cases h1 : t = [117, 52, 48, 98, 101]
    · subst h1
      have hf : fixedD [117, 52, 48, 98, 101] = some (5, false) := by decide +kernel
      rw [hf] at hk
      repeat (first | exact endA | refine wkB ?_ | refine ⟨by decide, ?_⟩ | (apply GJ.and; exact rfl; intro hg) | (apply GJ.or; exact rfl; intro hg))
      exact Wk.outS Sup.auto (.refl _) hk
    · by_cases h2 : t = [117, 52, 48, 108, 101]
      · subst h2
        have hf : fixedD [117, 52, 48, 108, 101] = some (5, true) := by decide +kernel
        rw [hf] at hk
        repeat (first | exact endA | refine wkB ?_ | refine ⟨by decide, ?_⟩ | (apply GJ.and; exact rfl; intro hg) | (apply GJ.or; exact rfl; intro hg))
        exact Wk.outS Sup.auto (.refl _) hk
      · have hnx := hnx h1 h2
        have h1' : ¬ t = [117, 52, 48, 98, 101] := h1
        repeat (first | exact endA | refine wkB ?_ | refine ⟨by decide, ?_⟩ | (apply GJ.and; exact rfl; intro hg) | (apply GJ.or; exact rfl; intro hg))
        refine Wk.id ⟨5 + 1, ⟨rfl, ?_⟩, ?_, Sub.auto, Sup.auto⟩
        all_goals try dsimp only
        · exact ⟨by decide, by decide, hnx⟩
        · decide
  · have hA : ∀ x ∈ fixedL, x.2.1 = 6 → x.1 = [117, 52, 56, 98, 101] ∨ x.1 = [117, 52, 56, 108, 101] := by decide
    have hnx : t ≠ [117, 52, 56, 98, 101] → t ≠ [117, 52, 56, 108, 101] → ∀ x ∈ fixedL, x.2.1 < 6 + 1 → x.1 ≠ t := fun h1 h2 x hx hlt => by
      by_cases hlt2 : x.2.1 < 6
      · exact i3 x hx hlt2
      · rcases hA x hx (by omega) with e | e
        · rw [e]; exact fun h => h1 h.symm
        · rw [e]; exact fun h => h2 h.symm
    repeat (first | exact endA | refine wkP ?_ | refine opB (fun b => ?_) | refine opA (fun a' c' hc1 hc2 => ?_) | (apply GJ.and; exact rfl; intro hg) | (apply GJ.or; exact rfl; intro hg))
    refine itoa_ok (by decide) ?_
    rw [show Lib.itoa (8 * ((6 : Nat) : Int)) = [52, 56] by decide +kernel]
    by_cases h1 : t = [117, 52, 56, 98, 101]
    · subst h1
      have hf : fixedD [117, 52, 56, 98, 101] = some (6, false) := by decide +kernel
      rw [hf] at hk
      repeat (first | exact endA | refine wkB ?_ | refine ⟨by decide, ?_⟩ | (apply GJ.and; exact rfl; intro hg) | (apply GJ.or; exact rfl; intro hg))
      exact Wk.outS Sup.auto (.refl _) hk
    · by_cases h2 : t = [117, 52, 56, 108, 101]
      · subst h2
        have hf : fixedD [117, 52, 56, 108, 101] = some (6, true) := by decide +kernel
        rw [hf] at hk
        repeat (first | exact endA | refine wkB ?_ | refine ⟨by decide, ?_⟩ | (apply GJ.and; exact rfl; intro hg) | (apply GJ.or; exact rfl; intro hg))
        exact Wk.outS Sup.auto (.refl _) hk
      · have hnx := hnx h1 h2
        have h1' : ¬ t = [117, 52, 56, 98, 101] := h1
        repeat (first | exact endA | refine wkB ?_ | refine ⟨by decide, ?_⟩ | (apply GJ.and; exact rfl; intro hg) | (apply GJ.or; exact rfl; intro hg))
        refine Wk.id ⟨6 + 1, ⟨rfl, ?_⟩, ?_, Sub.auto, Sup.auto⟩
        all_goals try dsimp only
        · exact ⟨by decide, by decide, hnx⟩
        · decide
  · have hA : ∀ x ∈ fixedL, x.2.1 = 7 → x.1 = [117, 53, 54, 98, 101] ∨ x.1 = [117, 53, 54, 108, 101] := by decide
    have hnx : t ≠ [117, 53, 54, 98, 101] → t ≠ [117, 53, 54, 108, 101] → ∀ x ∈ fixedL, x.2.1 < 7 + 1 → x.1 ≠ t := fun h1 h2 x hx hlt => by
      by_cases hlt2 : x.2.1 < 7
      · exact i3 x hx hlt2
      · rcases hA x hx (by omega) with e | e
        · rw [e]; exact fun h => h1 h.symm
        · rw [e]; exact fun h => h2 h.symm
    repeat (first | exact endA | refine wkP ?_ | refine opB (fun b => ?_) | refine opA (fun a' c' hc1 hc2 => ?_) | (apply GJ.and; exact rfl; intro hg) | (apply GJ.or; exact rfl; intro hg))
    refine itoa_ok (by decide) ?_
    rw [show Lib.itoa (8 * ((7 : Nat) : Int)) = [53, 54] by decide +kernel]
    by_cases h1 : t = [117, 53, 54, 98, 101]
    · subst h1
      have hf : fixedD [117, 53, 54, 98, 101] = some (7, false) := by decide +kernel
      rw [hf] at hk
      repeat (first | exact endA | refine wkB ?_ | refine ⟨by decide, ?_⟩ | (apply GJ.and; exact rfl; intro hg) | (apply GJ.or; exact rfl; intro hg))
      exact Wk.outS Sup.auto (.refl _) hk
    · by_cases h2 : t = [117, 53, 54, 108, 101]
      · subst h2
        have hf : fixedD [117, 53, 54, 108, 101] = some (7, true) := by decide +kernel
        rw [hf] at hk
        repeat (first | exact endA | refine wkB ?_ | refine ⟨by decide, ?_⟩ | (apply GJ.and; exact rfl; intro hg) | (apply GJ.or; exact rfl; intro hg))
        exact Wk.outS Sup.auto (.refl _) hk
      · have hnx := hnx h1 h2
        have h1' : ¬ t = [117, 53, 54, 98, 101] := h1
        repeat (first | exact endA | refine wkB ?_ | refine ⟨by decide, ?_⟩ | (apply GJ.and; exact rfl; intro hg) | (apply GJ.or; exact rfl; intro hg))
        refine Wk.id ⟨7 + 1, ⟨rfl, ?_⟩, ?_, Sub.auto, Sup.auto⟩
        all_goals try dsimp only
        · exact ⟨by decide, by decide, hnx⟩
        · decide
  · have hA : ∀ x ∈ fixedL, x.2.1 = 8 → x.1 = [117, 54, 52, 98, 101] ∨ x.1 = [117, 54, 52, 108, 101] := by decide
    have hnx : t ≠ [117, 54, 52, 98, 101] → t ≠ [117, 54, 52, 108, 101] → ∀ x ∈ fixedL, x.2.1 < 8 + 1 → x.1 ≠ t := fun h1 h2 x hx hlt => by
      by_cases hlt2 : x.2.1 < 8
      · exact i3 x hx hlt2
      · rcases hA x hx (by omega) with e | e
        · rw [e]; exact fun h => h1 h.symm
        · rw [e]; exact fun h => h2 h.symm
    repeat (first | exact endA | refine wkP ?_ | refine opB (fun b => ?_) | refine opA (fun a' c' hc1 hc2 => ?_) | (apply GJ.and; exact rfl; intro hg) | (apply GJ.or; exact rfl; intro hg))
    refine itoa_ok (by decide) ?_
    rw [show Lib.itoa (8 * ((8 : Nat) : Int)) = [54, 52] by decide +kernel]
    by_cases h1 : t = [117, 54, 52, 98, 101]
    · subst h1
      have hf : fixedD [117, 54, 52, 98, 101] = some (8, false) := by decide +kernel
      rw [hf] at hk
      repeat (first | exact endA | refine wkB ?_ | refine ⟨by decide, ?_⟩ | (apply GJ.and; exact rfl; intro hg) | (apply GJ.or; exact rfl; intro hg))
      exact Wk.outS Sup.auto (.refl _) hk
    · by_cases h2 : t = [117, 54, 52, 108, 101]
      · subst h2
        have hf : fixedD [117, 54, 52, 108, 101] = some (8, true) := by decide +kernel
        rw [hf] at hk
        repeat (first | exact endA | refine wkB ?_ | refine ⟨by decide, ?_⟩ | (apply GJ.and; exact rfl; intro hg) | (apply GJ.or; exact rfl; intro hg))
        exact Wk.outS Sup.auto (.refl _) hk
      · have hnx := hnx h1 h2
        have h1' : ¬ t = [117, 54, 52, 98, 101] := h1
        repeat (first | exact endA | refine wkB ?_ | refine ⟨by decide, ?_⟩ | (apply GJ.and; exact rfl; intro hg) | (apply GJ.or; exact rfl; intro hg))
        refine Wk.id ⟨8 + 1, ⟨rfl, ?_⟩, ?_, Sub.auto, Sup.auto⟩
        all_goals try dsimp only
        · exact ⟨by decide, by decide, hnx⟩
        · decide
  · rw [fixed_none i3] at hk
    repeat (first | exact endA | refine wkP ?_ | refine opB (fun b => ?_) | refine opA (fun a' c' hc1 hc2 => ?_) | (apply GJ.and; exact rfl; intro hg) | (apply GJ.or; exact rfl; intro hg))
    exact Wk.outS Sup.auto (.refl _) hk
end
end Go.Proofs.YtnapjcnfgdkmcaaGreatDoor
end
section
/- Contracts of parse: Word; the reader's names and numbers. -/
namespace Go.Proofs.YtnapjcnfgdkmcaaGreatDoor
open Go Go.E
set_option linter.unusedVariables false
set_option linter.unusedSectionVars false
set_option linter.unusedSimpArgs false
set_option maxRecDepth 10000
theorem numD_code (t : List UInt8) : (numD t).2 ≤ 1000 := by
  unfold numD
  split
  · decide
  · split
    · exact (by decide : (40 : Nat) ≤ 1000)
    · exact Nat.zero_le _
section
variable {ro : Ro} {own q : Chs} {K : Value → Ro → Chs → Prop} {l : List TokD} {s : PS} {a : SpecA} {la : Option Addr} {lc r : Nat}
theorem word_okP {t : List UInt8} (hM : MaxOk ro) (ht : t.length ≤ 65536) (hk : K (.bool (wordD t)) ro own) : CallOk Tryz.prog 62 #[str t] ro own K := by
  unfold wordD at hk
  refine CallOk.intro (args := [_]) (rs := [_]) T_ok Tryz.func62 Tryz.call62 rfl rfl (by kernel_rfl) rfl rfl ?_
  repeat (first | exact endA | refine wkP ?_ | refine opB (fun b => ?_) | refine opA (fun a' c' hc1 hc2 => ?_) | (apply GJ.and; exact rfl; intro hg) | (apply GJ.or; exact rfl; intro hg))
  refine ⟨by simp only [List.length_cons, List.length_nil]; omega, ?_⟩
  repeat (first | exact endA | refine wkP ?_ | refine opB (fun b => ?_) | refine opA (fun a' c' hc1 hc2 => ?_) | (apply GJ.and; exact rfl; intro hg) | (apply GJ.or; exact rfl; intro hg))
  refine ⟨by simp only [List.length_append, List.length_cons, List.length_nil]; omega, ?_⟩
  repeat (first | exact endA | refine wkP ?_ | refine opB (fun b => ?_) | refine opA (fun a' c' hc1 hc2 => ?_) | (apply GJ.and; exact rfl; intro hg) | (apply GJ.or; exact rfl; intro hg))
  refine contains_ok (x := wordsB) (y := 32 :: (t ++ [32])) hM (by decide) ?_
  cases hc : Lib.contains wordsB (32 :: (t ++ [32])) with
  | true =>
    rw [hc, Bool.true_or] at hk
    repeat (first | exact endA | refine wkP ?_ | refine opB (fun b => ?_) | refine opA (fun a' c' hc1 hc2 => ?_) | (apply GJ.and; exact rfl; intro hg) | (apply GJ.or; exact rfl; intro hg))
    exact Wk.outS Sup.auto (.refl _) hk
  | false =>
    rw [hc, Bool.false_or] at hk
    repeat (first | exact endA | refine wkP ?_ | refine opB (fun b => ?_) | refine opA (fun a' c' hc1 hc2 => ?_) | (apply GJ.and; exact rfl; intro hg) | (apply GJ.or; exact rfl; intro hg))
    refine rfixed_ok ht ?_
    cases hf : fixedD t with
    | none =>
      rw [hf] at hk
      unfold fixV
      repeat (first | exact endA | refine wkP ?_ | refine opB (fun b => ?_) | refine opA (fun a' c' hc1 hc2 => ?_) | (apply GJ.and; exact rfl; intro hg) | (apply GJ.or; exact rfl; intro hg))
      exact Wk.outS Sup.auto (.refl _) hk
    | some x =>
      rw [hf] at hk
      unfold fixV
      repeat (first | exact endA | refine wkP ?_ | refine opB (fun b => ?_) | refine opA (fun a' c' hc1 hc2 => ?_) | (apply GJ.and; exact rfl; intro hg) | (apply GJ.or; exact rfl; intro hg))
      exact Wk.outS Sup.auto (.refl _) hk
theorem rname_ok (hM : MaxOk ro) (hT : ToksOk ro la lc l) (h : RdOk ro l s a) (ht : Take own (rdC r la lc l s a) q) (hk : RdOk ro l (nameP (listE l) s).2 a → K (str (nameP (listE l) s).1) ro (rdC r la lc l (nameP (listE l) s).2 a :: q)) : CallOk Tryz.prog 85 #[ptr' r] ro own K := by
  refine CallOk.perm ht.perm ?_
  have hx := hT.text _ (peekT_mem hT h)
  have hstep := h.step hT
  have hat := h.at'
  have hl2 := hT.le
  refine CallOk.intro (args := [_]) (rs := [_]) T_ok Tryz.func85 Tryz.call85 rfl rfl (by kernel_rfl) rfl rfl ?_
  repeat (first | exact endA | refine wkP ?_ | refine opB (fun b => ?_) | refine opA (fun a' c' hc1 hc2 => ?_) | (apply GJ.and; exact rfl; intro hg) | (apply GJ.or; exact rfl; intro hg))
  refine rpeek_ok hT h Take.auto ?_
  unfold nameP at hk
  generalize hz : peekP (listE l) s = z at *
  obtain ⟨tk, ta, tt⟩ := z
  dsimp only [TokD.v] at hk hx hstep ⊢
  by_cases h1 : tk = 1
  · subst h1
    cases hw : wordD tt with
    | true =>
      rw [hw, if_pos (.inr rfl)] at hk
      repeat (first | exact endA | refine wkP ?_ | refine opB (fun b => ?_) | refine opA (fun a' c' hc1 hc2 => ?_) | (apply GJ.and; exact rfl; intro hg) | (apply GJ.or; exact rfl; intro hg))
      refine word_okP hM hx ?_
      rw [hw]
      repeat (first | exact endA | refine wkP ?_ | refine opB (fun b => ?_) | refine opA (fun a' c' hc1 hc2 => ?_) | (apply GJ.and; exact rfl; intro hg) | (apply GJ.or; exact rfl; intro hg))
      refine rwrong_ok (e := 5) (by decide) hT h Take.auto ?_
      repeat (first | exact endA | refine wkP ?_ | refine opB (fun b => ?_) | refine opA (fun a' c' hc1 hc2 => ?_) | (apply GJ.and; exact rfl; intro hg) | (apply GJ.or; exact rfl; intro hg))
      exact Wk.outS Sup.auto (.refl _) (hk (h.wrong 5 (by decide)))
    | false =>
      rw [hw, if_neg (by simp)] at hk
      have hk := hk (hstep (by decide))
      dsimp only at hk
      rw [stepC] at hk
      repeat (first | exact endA | refine wkP ?_ | refine opB (fun b => ?_) | refine opA (fun a' c' hc1 hc2 => ?_) | (apply GJ.and; exact rfl; intro hg) | (apply GJ.or; exact rfl; intro hg))
      refine word_okP hM hx ?_
      rw [hw]
      unfold rdC readV
      repeat (first | exact endA | refine wkP ?_ | refine opB (fun b => ?_) | refine opA (fun a' c' hc1 hc2 => ?_) | (apply GJ.and; exact rfl; intro hg) | (apply GJ.or; exact rfl; intro hg))
      exact Wk.outS Sup.auto (.refl _) hk
  · rw [if_pos (.inl h1)] at hk
    repeat (first | exact endA | refine wkP ?_ | refine opB (fun b => ?_) | refine opA (fun a' c' hc1 hc2 => ?_) | (apply GJ.and; exact rfl; intro hg) | (apply GJ.or; exact rfl; intro hg))
    refine rwrong_ok (e := 5) (by decide) hT h Take.auto ?_
    repeat (first | exact endA | refine wkP ?_ | refine opB (fun b => ?_) | refine opA (fun a' c' hc1 hc2 => ?_) | (apply GJ.and; exact rfl; intro hg) | (apply GJ.or; exact rfl; intro hg))
    exact Wk.outS Sup.auto (.refl _) (hk (h.wrong 5 (by decide)))
theorem rnum_ok (hT : ToksOk ro la lc l) (h : RdOk ro l s a) (ht : Take own (rdC r la lc l s a) q) (hk : RdOk ro l (numP numD (listE l) s).2 a → K (.int .u64 ((numP numD (listE l) s).1 : Int)) ro (rdC r la lc l (numP numD (listE l) s).2 a :: q)) : CallOk Tryz.prog 134 #[ptr' r] ro own K := by
  refine CallOk.perm ht.perm ?_
  have hx := hT.text _ (peekT_mem hT h)
  have hstep := h.step hT
  have hat := h.at'
  have hl2 := hT.le
  refine CallOk.intro (args := [_]) (rs := [_]) T_ok Tryz.func134 Tryz.call134 rfl rfl (by kernel_rfl) rfl rfl ?_
  repeat (first | exact endA | refine wkP ?_ | refine opB (fun b => ?_) | refine opA (fun a' c' hc1 hc2 => ?_) | (apply GJ.and; exact rfl; intro hg) | (apply GJ.or; exact rfl; intro hg))
  refine rpeek_ok hT h Take.auto ?_
  unfold numP at hk
  generalize hz : peekP (listE l) s = z at *
  obtain ⟨tk, ta, tt⟩ := z
  dsimp only [TokD.v] at hk hx hstep ⊢
  by_cases h1 : tk = 2
  · subst h1
    rw [if_neg (by simp)] at hk
    have hnc := numD_code tt
    by_cases hn : (numD tt).2 = 0
    · rw [if_neg (by simp [hn])] at hk
      have hk2 := hk (hstep (by decide))
      clear hk
      dsimp only at hk2
      rw [stepC] at hk2
      repeat (first | exact endA | refine wkP ?_ | refine opB (fun b => ?_) | refine opA (fun a' c' hc1 hc2 => ?_) | (apply GJ.and; exact rfl; intro hg) | (apply GJ.or; exact rfl; intro hg))
      refine wparse_ok (by omega) ?_
      generalize numD tt = nn at *
      obtain ⟨n1, n2⟩ := nn
      dsimp only at hn hk2 ⊢
      subst hn
      unfold rdC readV
      repeat (first | exact endA | refine wkP ?_ | refine opB (fun b => ?_) | refine opA (fun a' c' hc1 hc2 => ?_) | (apply GJ.and; exact rfl; intro hg) | (apply GJ.or; exact rfl; intro hg))
      exact Wk.outS Sup.auto (.refl _) hk2
    · rw [if_pos hn] at hk
      repeat (first | exact endA | refine wkP ?_ | refine opB (fun b => ?_) | refine opA (fun a' c' hc1 hc2 => ?_) | (apply GJ.and; exact rfl; intro hg) | (apply GJ.or; exact rfl; intro hg))
      refine wparse_ok (by omega) ?_
      generalize numD tt = nn at *
      obtain ⟨n1, n2⟩ := nn
      dsimp only at hn hk hnc ⊢
      repeat (first | exact endA | refine wkP ?_ | refine opB (fun b => ?_) | refine opA (fun a' c' hc1 hc2 => ?_) | (apply GJ.and; exact rfl; intro hg) | (apply GJ.or; exact rfl; intro hg))
      refine rwrong_ok (e := n2) hn hT h Take.auto ?_
      repeat (first | exact endA | refine wkP ?_ | refine opB (fun b => ?_) | refine opA (fun a' c' hc1 hc2 => ?_) | (apply GJ.and; exact rfl; intro hg) | (apply GJ.or; exact rfl; intro hg))
      exact Wk.outS Sup.auto (.refl _) (hk (h.wrong n2 hnc))
  · rw [if_pos h1] at hk
    repeat (first | exact endA | refine wkP ?_ | refine opB (fun b => ?_) | refine opA (fun a' c' hc1 hc2 => ?_) | (apply GJ.and; exact rfl; intro hg) | (apply GJ.or; exact rfl; intro hg))
    refine rwrong_ok (e := 5) (by decide) hT h Take.auto ?_
    repeat (first | exact endA | refine wkP ?_ | refine opB (fun b => ?_) | refine opA (fun a' c' hc1 hc2 => ?_) | (apply GJ.and; exact rfl; intro hg) | (apply GJ.or; exact rfl; intro hg))
    exact Wk.outS Sup.auto (.refl _) (hk (h.wrong 5 (by decide)))
end
end Go.Proofs.YtnapjcnfgdkmcaaGreatDoor
end
section
/- The reader's steps with what it has put together; a type more. -/
namespace Go.Proofs.YtnapjcnfgdkmcaaGreatDoor
open Go Go.E
set_option linter.unusedVariables false
set_option linter.unusedSectionVars false
set_option linter.unusedSimpArgs false
set_option maxRecDepth 10000
section
variable {E : PE} {s : PS}
/-- Types and names stay. -/
def Keeps (s s' : PS) : Prop := s'.nodes = s.nodes ∧ s'.defs = s.defs
theorem keep_wrong (e : Nat) : Keeps s (wrongP e s) := by unfold wrongP; split <;> exact ⟨rfl, rfl⟩
theorem keep_step : Keeps s (stepP s) := ⟨rfl, rfl⟩
theorem keep_eat (k : Nat) (t : List UInt8) : Keeps s (eatP E k t s).2 := by unfold eatP; split <;> exact ⟨rfl, rfl⟩
theorem keep_sign (t : List UInt8) : Keeps s (signP E t s).2 := keep_eat 4 t
theorem keep_kw (t : List UInt8) : Keeps s (kwP E t s).2 := keep_eat 1 t
theorem keep_must (t : List UInt8) : Keeps s (mustP E t s) := by unfold mustP; split; exact keep_sign t; exact keep_wrong 5
theorem keep_name : Keeps s (nameP E s).2 := by unfold nameP; split; exact keep_wrong 5; exact keep_step
theorem keep_num : Keeps s (numP numD E s).2 := by unfold numP; split; exact keep_wrong 5; split; exact keep_wrong _; exact keep_step
end
section
variable {ro : Ro} {own q q1 q2 : Chs} {K : Value → Ro → Chs → Prop} {l : List TokD} {s : PS} {a : SpecA} {la : Option Addr} {lc r : Nat}
abbrev ndC (s : PS) (a : SpecA) : Chunk := .sl a.na s.nodes.length a.nc 40 18 (nodesV s.nodes a.xs)
abbrev dfC (s : PS) (a : SpecA) : Chunk := .sl a.da s.defs.length a.dc 44 2 (defsV s.defs)
theorem three {own : Chs} {c1 c2 c3 : Chunk} (t1 : Take own c1 q1) (t2 : Take q1 c2 q2) (t3 : Take q2 c3 q) : own.Perm (c1 :: c2 :: c3 :: q) := t1.perm.trans (.cons _ (t2.perm.trans (.cons _ t3.perm)))
theorem Keeps.cs {s' : PS} (h : Keeps s s') (a : SpecA) : ndC s a = ndC s' a ∧ dfC s a = dfC s' a := by
  unfold ndC dfC
  rw [h.1, h.2]
  exact ⟨rfl, rfl⟩
theorem must3 {t : List UInt8} (hT : ToksOk ro la lc l) (h : RdOk ro l s a) (t1 : Take own (rdC r la lc l s a) q1) (t2 : Take q1 (ndC s a) q2) (t3 : Take q2 (dfC s a) q)
    (hk : RdOk ro l (mustP (listE l) t s) a → K (.tuple #[]) ro (rdC r la lc l (mustP (listE l) t s) a :: ndC (mustP (listE l) t s) a :: dfC (mustP (listE l) t s) a :: q)) : CallOk Tryz.prog 86 #[ptr' r, str t] ro own K := by
  refine CallOk.perm (three t1 t2 t3) ?_
  obtain ⟨e1, e2⟩ := (keep_must t : Keeps s (mustP (listE l) t s)).cs a
  refine rmust_ok hT h (Take.hit _ _) (fun h2 => ?_)
  rw [e1, e2]
  exact hk h2
theorem sign3 {t : List UInt8} (hT : ToksOk ro la lc l) (h : RdOk ro l s a) (t1 : Take own (rdC r la lc l s a) q1) (t2 : Take q1 (ndC s a) q2) (t3 : Take q2 (dfC s a) q)
    (hk : RdOk ro l ((signP (listE l) t s).2) a → K (.bool (signP (listE l) t s).1) ro (rdC r la lc l ((signP (listE l) t s).2) a :: ndC ((signP (listE l) t s).2) a :: dfC ((signP (listE l) t s).2) a :: q)) : CallOk Tryz.prog 110 #[ptr' r, str t] ro own K := by
  refine CallOk.perm (three t1 t2 t3) ?_
  obtain ⟨e1, e2⟩ := (keep_sign t : Keeps s ((signP (listE l) t s).2)).cs a
  refine rsign_ok hT h (Take.hit _ _) (fun h2 => ?_)
  rw [e1, e2]
  exact hk h2
theorem word3 {t : List UInt8} (hT : ToksOk ro la lc l) (h : RdOk ro l s a) (t1 : Take own (rdC r la lc l s a) q1) (t2 : Take q1 (ndC s a) q2) (t3 : Take q2 (dfC s a) q)
    (hk : RdOk ro l ((kwP (listE l) t s).2) a → K (.bool (kwP (listE l) t s).1) ro (rdC r la lc l ((kwP (listE l) t s).2) a :: ndC ((kwP (listE l) t s).2) a :: dfC ((kwP (listE l) t s).2) a :: q)) : CallOk Tryz.prog 135 #[ptr' r, str t] ro own K := by
  refine CallOk.perm (three t1 t2 t3) ?_
  obtain ⟨e1, e2⟩ := (keep_kw t : Keeps s ((kwP (listE l) t s).2)).cs a
  refine rword_ok hT h (Take.hit _ _) (fun h2 => ?_)
  rw [e1, e2]
  exact hk h2
theorem name3  (hM : MaxOk ro) (hT : ToksOk ro la lc l) (h : RdOk ro l s a) (t1 : Take own (rdC r la lc l s a) q1) (t2 : Take q1 (ndC s a) q2) (t3 : Take q2 (dfC s a) q)
    (hk : RdOk ro l ((nameP (listE l) s).2) a → K (str (nameP (listE l) s).1) ro (rdC r la lc l ((nameP (listE l) s).2) a :: ndC ((nameP (listE l) s).2) a :: dfC ((nameP (listE l) s).2) a :: q)) : CallOk Tryz.prog 85 #[ptr' r] ro own K := by
  refine CallOk.perm (three t1 t2 t3) ?_
  obtain ⟨e1, e2⟩ := (keep_name : Keeps s ((nameP (listE l) s).2)).cs a
  refine rname_ok hM hT h (Take.hit _ _) (fun h2 => ?_)
  rw [e1, e2]
  exact hk h2
theorem num3  (hT : ToksOk ro la lc l) (h : RdOk ro l s a) (t1 : Take own (rdC r la lc l s a) q1) (t2 : Take q1 (ndC s a) q2) (t3 : Take q2 (dfC s a) q)
    (hk : RdOk ro l ((numP numD (listE l) s).2) a → K (.int .u64 ((numP numD (listE l) s).1 : Int)) ro (rdC r la lc l ((numP numD (listE l) s).2) a :: ndC ((numP numD (listE l) s).2) a :: dfC ((numP numD (listE l) s).2) a :: q)) : CallOk Tryz.prog 134 #[ptr' r] ro own K := by
  refine CallOk.perm (three t1 t2 t3) ?_
  obtain ⟨e1, e2⟩ := (keep_num : Keeps s ((numP numD (listE l) s).2)).cs a
  refine rnum_ok hT h (Take.hit _ _) (fun h2 => ?_)
  rw [e1, e2]
  exact hk h2
theorem wrong3 {e : Nat} (he : e ≠ 0) (he2 : e ≤ 1000) (hT : ToksOk ro la lc l) (h : RdOk ro l s a) (t1 : Take own (rdC r la lc l s a) q1) (t2 : Take q1 (ndC s a) q2) (t3 : Take q2 (dfC s a) q)
    (hk : RdOk ro l (wrongP e s) a → K (.tuple #[]) ro (rdC r la lc l (wrongP e s) a :: ndC (wrongP e s) a :: dfC (wrongP e s) a :: q)) : CallOk Tryz.prog 89 #[ptr' r, .int .i64 (e : Int)] ro own K := by
  refine CallOk.perm (three t1 t2 t3) ?_
  obtain ⟨e1, e2⟩ := (keep_wrong e : Keeps s (wrongP e s)).cs a
  refine rwrong_ok he hT h (Take.hit _ _) ?_
  rw [e1, e2]
  exact hk (h.wrong e he2)
theorem badd2048_ok {d : NodeD} {x : NodeA} (hn : s.nodes.length = 2048) (hk : K (.tuple #[.int .i64 0, .int .i64 2]) ro (rdC r la lc l s a :: q)) : CallOk Tryz.prog 132 #[.pointer (some ⟨r, 0 + 2, none⟩), .agg (nodeV d x).toArray] ro (rdC r la lc l s a :: q) K := by
  unfold rdC readV at hk ⊢
  refine CallOk.intro (args := [_, _]) (rs := [_, _]) T_ok Tryz.func132 Tryz.call132 rfl rfl (by kernel_rfl) rfl rfl ?_
  repeat (first | exact endA | refine wkP ?_ | refine opB (fun b => ?_) | refine opA (fun a' c' hc1 hc2 => ?_) | (apply GJ.and; exact rfl; intro hg) | (apply GJ.or; exact rfl; intro hg))
  exact Wk.outS Sup.auto (.refl _) hk
set_option maxHeartbeats 4000000 in
theorem baddAt_ok {d : NodeD} {x : NodeA} (h : RdOk ro l s a) (hx : NodeOk ro d x) (hs : NodeSm d) (hn : s.nodes.length < 2048)
    (hk : ∀ ro' a', Le ro ro' → RdOk ro' l { s with nodes := s.nodes ++ [d] } a' → K (.tuple #[.int .i64 (s.nodes.length : Nat), .int .i64 0]) ro' (rdC r la lc l { s with nodes := s.nodes ++ [d] } a' :: ndC { s with nodes := s.nodes ++ [d] } a' :: dfC { s with nodes := s.nodes ++ [d] } a' :: q)) :
    CallOk Tryz.prog 132 #[.pointer (some ⟨r, 0 + 2, none⟩), .agg (nodeV d x).toArray] ro (rdC r la lc l s a :: ndC s a :: dfC s a :: q) K := by
  have hb := h.build
  have hnc := hb.nc
  unfold rdC readV
  refine CallOk.intro (args := [_, _]) (rs := [_, _]) T_ok Tryz.func132 Tryz.call132 rfl rfl (by kernel_rfl) rfl rfl ?_
  repeat (first | exact endA | refine wkG ?_ | refine opB (fun b => ?_) | refine opA (fun a' c' hc1 hc2 => ?_) | (show GJ _ _ _ _ _ _ _; first | (apply GJ.and; exact rfl; intro hg) | (apply GJ.or; exact rfl; intro hg) | refine GJ.t omAuto ?_ | refine GJ.f omAuto ?_ | refine GJ.ft omAuto ?_ | refine GJ.ff omAuto ?_))
  refine Bs.mk ⟨[.blk b 40 (nodeV d x), .blk r 109 [.slice la l.length lc, .int .i64 (s.at' : Int), .slice a.na s.nodes.length a.nc, .slice a.da s.defs.length a.dc, .int .i64 (s.code : Int), .int .i64 (fatV l s : Int)]], Sup.auto, ?_⟩
  repeat (first | exact endA | refine wkG ?_ | refine opB (fun b => ?_) | refine opA (fun a' c' hc1 hc2 => ?_) | (show GJ _ _ _ _ _ _ _; first | (apply GJ.and; exact rfl; intro hg) | (apply GJ.or; exact rfl; intro hg) | refine GJ.t omAuto ?_ | refine GJ.f omAuto ?_ | refine GJ.ft omAuto ?_ | refine GJ.ff omAuto ?_))
  refine own_last hx hs (fun ro1 x1 hl1 ho1 => ?_)
  refine wkS ?_
  refine opB (fun b2 => ?_)
  refine wkS ?_
  repeat (first | exact endA | refine wkG ?_ | refine opB (fun b => ?_) | refine opA (fun a' c' hc1 hc2 => ?_) | (show GJ _ _ _ _ _ _ _; first | (apply GJ.and; exact rfl; intro hg) | (apply GJ.or; exact rfl; intro hg) | refine GJ.t omAuto ?_ | refine GJ.f omAuto ?_ | refine GJ.ft omAuto ?_ | refine GJ.ff omAuto ?_))
  have e1 : (s.nodes ++ [d]).length = s.nodes.length + 1 := by simp
  have e2 : nodesV s.nodes a.xs ++ flat [.agg (nodeV d x1).toArray] = nodesV (s.nodes ++ [d]) (a.xs ++ [x1]) := by rw [nodesV_snoc _ _ hb.len]; rfl
  have hk2 := hk ro1 ⟨a', c', a.da, a.dc, a.xs ++ [x1]⟩ hl1 ⟨h.at', h.fat, h.code, ⟨by have := hb.len; simp at this ⊢; omega, fun i d' x' g1 g2 => ?_, ⟨by dsimp only; rw [e1]; exact hc1, hc2⟩, hb.dc⟩, fun d' hd' => ?_, by dsimp only; rw [e1]; omega, h.nd⟩
  · rw [e2]
    unfold rdC readV ndC dfC at hk2
    dsimp only at hk2
    rw [e1] at hk2
    exact Wk.outV Sup.auto hk2 (congrArg (fun z => Value.tuple #[.int .i64 z, .int .i64 0]) (by omega))
  · dsimp only at g1 g2
    rcases Nat.lt_or_ge i s.nodes.length with hi | hi
    · rw [List.getElem?_append_left hi] at g1
      rw [List.getElem?_append_left (by rw [hb.len]; exact hi)] at g2
      exact (hb.each i d' x' g1 g2).le hl1
    · rw [List.getElem?_append_right hi] at g1
      have hbl : a.xs.length = s.nodes.length := hb.len
      rw [List.getElem?_append_right (by omega)] at g2
      have h3 : i - s.nodes.length = 0 := by have := (List.getElem?_eq_some_iff.1 g1).1; simp at this; omega
      rw [h3] at g1
      rw [hbl, h3] at g2
      simp at g1 g2
      subst g1; subst g2; exact ho1
  · rcases List.mem_append.1 hd' with hd' | hd'
    · exact h.sm d' hd'
    · simp at hd'; subst hd'; exact hs
set_option maxHeartbeats 4000000 in
theorem radd_ok {d : NodeD} {x : NodeA} (hT : ToksOk ro la lc l) (h : RdOk ro l s a) (hx : NodeOk ro d x) (hs : NodeSm d) (t1 : Take own (rdC r la lc l s a) q1) (t2 : Take q1 (ndC s a) q2) (t3 : Take q2 (dfC s a) q)
    (hk : ∀ ro' a', Le ro ro' → RdOk ro' l (addP (listE l) d s).2 a' → K (.int .i64 ((addP (listE l) d s).1 : Int)) ro' (rdC r la lc l (addP (listE l) d s).2 a' :: ndC (addP (listE l) d s).2 a' :: dfC (addP (listE l) d s).2 a' :: q)) :
    CallOk Tryz.prog 111 #[ptr' r, .agg (nodeV d x).toArray] ro own K := by
  refine CallOk.perm (three t1 t2 t3) ?_
  have hnn := h.nn
  have hlim : (listE l).lim = 2048 := rfl
  unfold addP at hk
  rw [hlim] at hk
  refine CallOk.intro (args := [_, _]) (rs := [_]) T_ok Tryz.func111 Tryz.call111 rfl rfl (by kernel_rfl) rfl rfl ?_
  by_cases hn : s.nodes.length = 2048
  · rw [if_pos hn] at hk
    have hk2 := hk ro a (Le.refl _) (h.wrong 2 (by decide))
    repeat (first | exact endA | refine wkP ?_ | refine opB (fun b => ?_) | refine opA (fun a' c' hc1 hc2 => ?_) | (apply GJ.and; exact rfl; intro hg) | (apply GJ.or; exact rfl; intro hg))
    refine CallOk.perm (Take.miss _ (Take.hit _ _)).perm ?_
    refine badd2048_ok hn ?_
    repeat (first | exact endA | refine wkP ?_ | refine opB (fun b => ?_) | refine opA (fun a' c' hc1 hc2 => ?_) | (apply GJ.and; exact rfl; intro hg) | (apply GJ.or; exact rfl; intro hg))
    refine rwrong_ok (e := 2) (by decide) hT h Take.auto ?_
    obtain ⟨g1, g2⟩ := (keep_wrong (s := s) 2).cs a
    rw [g1, g2]
    repeat (first | exact endA | refine wkP ?_ | refine opB (fun b => ?_) | refine opA (fun a' c' hc1 hc2 => ?_) | (apply GJ.and; exact rfl; intro hg) | (apply GJ.or; exact rfl; intro hg))
    exact Wk.outS Sup.auto (.refl _) hk2
  · rw [if_neg hn] at hk
    repeat (first | exact endA | refine wkP ?_ | refine opB (fun b => ?_) | refine opA (fun a' c' hc1 hc2 => ?_) | (apply GJ.and; exact rfl; intro hg) | (apply GJ.or; exact rfl; intro hg))
    refine CallOk.perm (three (Take.miss _ (Take.hit _ _)) (Take.miss _ (Take.hit _ _)) (Take.miss _ (Take.hit _ _))) ?_
    refine baddAt_ok h hx hs (by omega) (fun ro' a' hl' h' => ?_)
    have hk2 := hk ro' a' hl' h'
    repeat (first | exact endA | refine wkP ?_ | refine opB (fun b => ?_) | refine opA (fun a' c' hc1 hc2 => ?_) | (apply GJ.and; exact rfl; intro hg) | (apply GJ.or; exact rfl; intro hg))
    exact Wk.outS Sup.auto (.refl _) hk2
end
end Go.Proofs.YtnapjcnfgdkmcaaGreatDoor
end
section
/- Contracts of the reader: numbers' types, how many of something, what is counted. -/
namespace Go.Proofs.YtnapjcnfgdkmcaaGreatDoor
open Go Go.E
set_option linter.unusedVariables false
set_option linter.unusedSectionVars false
set_option linter.unusedSimpArgs false
set_option maxRecDepth 10000
theorem num_pos {E : PE} {s : PS} (h : (numP numD E s).2.code = 0) : 1 ≤ (numP numD E s).2.at' := by
  unfold numP at h ⊢
  split
  · rename_i hk
    rw [if_pos hk] at h
    unfold wrongP at h
    split at h
    · exact absurd h (by simp)
    · rename_i hc; exact absurd h hc
  · rename_i hk
    rw [if_neg hk] at h
    split
    · rename_i he
      rw [if_pos he] at h
      unfold wrongP at h
      split at h
      · exact absurd h he
      · rename_i hc; exact absurd h hc
    · exact Nat.succ_pos _
def nodeZ : NodeA := ⟨none, 0, none, 0, none, 0, none, 0⟩
section
variable {ro : Ro} {own q q1 q2 : Chs} {K : Value → Ro → Chs → Prop} {l : List TokD} {s : PS} {a : SpecA} {la : Option Addr} {lc r : Nat}
theorem RdOk.back (h : RdOk ro l s a) : RdOk ro l (backP s) a := ⟨by have := h.at'; show s.at' - 1 < l.length; omega, h.fat, h.code, h.build, h.sm, h.nn, h.nd⟩
theorem backC (h1 : 1 ≤ s.at') : rdC r la lc l (backP s) a = .blk r 109 [.slice la l.length lc, .int .i64 ((s.at' : Int) - 1), .slice a.na s.nodes.length a.nc, .slice a.da s.defs.length a.dc, .int .i64 (s.code : Int), .int .i64 (fatV l s : Int)] := by
  unfold rdC readV
  rw [show ((backP s).at' : Int) = (s.at' : Int) - 1 by show ((s.at' - 1 : Nat) : Int) = _; omega]
  rfl
set_option maxHeartbeats 4000000 in
theorem rranged_ok {d : NodeD} {x : NodeA} (hT : ToksOk ro la lc l) (h : RdOk ro l s a) (hx : NodeOk ro d x) (hs : NodeSm d) (t1 : Take own (rdC r la lc l s a) q1) (t2 : Take q1 (ndC s a) q2) (t3 : Take q2 (dfC s a) q)
    (hk : ∀ ro' a', Le ro ro' → RdOk ro' l (rangedP numD (listE l) d s).2 a' → K (.int .i64 ((rangedP numD (listE l) d s).1 : Int)) ro' (rdC r la lc l (rangedP numD (listE l) d s).2 a' :: ndC (rangedP numD (listE l) d s).2 a' :: dfC (rangedP numD (listE l) d s).2 a' :: q)) :
    CallOk Tryz.prog 114 #[ptr' r, .agg (nodeV d x).toArray] ro own K := by
  refine CallOk.perm (three t1 t2 t3) ?_
  unfold rangedP at hk
  refine CallOk.intro (args := [_, _]) (rs := [_]) T_ok Tryz.func114 Tryz.call114 rfl rfl (by kernel_rfl) rfl rfl ?_
  repeat (first | exact endA | refine wkP ?_ | refine opB (fun b => ?_) | refine opA (fun a' c' hc1 hc2 => ?_) | (apply GJ.and; exact rfl; intro hg) | (apply GJ.or; exact rfl; intro hg))
  refine smost_ok ?_
  repeat (first | exact endA | refine wkP ?_ | refine opB (fun b => ?_) | refine opA (fun a' c' hc1 hc2 => ?_) | (apply GJ.and; exact rfl; intro hg) | (apply GJ.or; exact rfl; intro hg))
  refine rpeek_ok hT h Take.auto ?_
  generalize hz : peekP (listE l) s = z at *
  obtain ⟨tk, ta, tt⟩ := z
  dsimp only [TokD.v] at hk ⊢
  by_cases h2 : tk = 2
  · subst h2
    rw [if_pos rfl] at hk
    repeat (first | exact endA | refine wkP ?_ | refine opB (fun b => ?_) | refine opA (fun a' c' hc1 hc2 => ?_) | (apply GJ.and; exact rfl; intro hg) | (apply GJ.or; exact rfl; intro hg))
    refine num3 hT h Take.auto Take.auto Take.auto (fun h1 => ?_)
    generalize numP numD (listE l) s = r1 at *
    obtain ⟨n1, s1⟩ := r1
    dsimp only at h1 hk ⊢
    repeat (first | exact endA | refine wkP ?_ | refine opB (fun b => ?_) | refine opA (fun a' c' hc1 hc2 => ?_) | (apply GJ.and; exact rfl; intro hg) | (apply GJ.or; exact rfl; intro hg))
    refine must3 (t := [46, 46]) hT h1 Take.auto Take.auto Take.auto (fun h2 => ?_)
    generalize mustP (listE l) [46, 46] s1 = s2 at *
    repeat (first | exact endA | refine wkP ?_ | refine opB (fun b => ?_) | refine opA (fun a' c' hc1 hc2 => ?_) | (apply GJ.and; exact rfl; intro hg) | (apply GJ.or; exact rfl; intro hg))
    refine num3 hT h2 Take.auto Take.auto Take.auto (fun h3 => ?_)
    have hpos := num_pos (E := listE l) (s := s2)
    generalize numP numD (listE l) s2 = r3 at *
    obtain ⟨n3, s3⟩ := r3
    dsimp only at h3 hk hpos ⊢
    repeat (first | exact endA | refine wkP ?_ | refine opB (fun b => ?_) | refine opA (fun a' c' hc1 hc2 => ?_) | (apply GJ.and; exact rfl; intro hg) | (apply GJ.or; exact rfl; intro hg))
    refine rok_ok h3 Take.auto ?_
    by_cases hc : s3.code = 0
    · by_cases hr : n3 < n1 ∨ mostD d < n3
      · rw [if_pos ⟨hc, hr⟩] at hk
        rw [decide_eq_true hc]
        have hat := h3.at'
        have hl2 := hT.le
        unfold rdC readV
        repeat (first | exact endA | refine wkP ?_ | refine opB (fun b => ?_) | refine opA (fun a' c' hc1 hc2 => ?_) | (apply GJ.and; exact rfl; intro hg) | (apply GJ.or; exact rfl; intro hg))
        rw [← backC (hpos hc)]
        refine wrong3 (e := 1) (s := backP s3) (by decide) (by decide) hT h3.back Take.auto Take.auto Take.auto (fun h4 => ?_)
        repeat (first | exact endA | refine wkP ?_ | refine opB (fun b => ?_) | refine opA (fun a' c' hc1 hc2 => ?_) | (apply GJ.and; exact rfl; intro hg) | (apply GJ.or; exact rfl; intro hg))
        refine radd_ok (d := { d with min := n1, max := n3 }) (x := x) hT h4 ⟨hx.kids, hx.last, hx.fields, hx.cases⟩ ⟨hs.kids, hs.last, hs.fields, hs.cases⟩ Take.auto Take.auto Take.auto (fun ro' a' hl' h' => ?_)
        have hk2 := hk ro' a' hl' h'
        repeat (first | exact endA | refine wkP ?_ | refine opB (fun b => ?_) | refine opA (fun a' c' hc1 hc2 => ?_) | (apply GJ.and; exact rfl; intro hg) | (apply GJ.or; exact rfl; intro hg))
        exact Wk.outS Sup.auto (.refl _) hk2
      · rw [if_neg (fun h => hr h.2)] at hk
        rw [decide_eq_true hc]
        repeat (first | exact endA | refine wkP ?_ | refine opB (fun b => ?_) | refine opA (fun a' c' hc1 hc2 => ?_) | (apply GJ.and; exact rfl; intro hg) | (apply GJ.or; exact rfl; intro hg))
        refine radd_ok (d := { d with min := n1, max := n3 }) (x := x) hT h3 ⟨hx.kids, hx.last, hx.fields, hx.cases⟩ ⟨hs.kids, hs.last, hs.fields, hs.cases⟩ Take.auto Take.auto Take.auto (fun ro' a' hl' h' => ?_)
        have hk2 := hk ro' a' hl' h'
        repeat (first | exact endA | refine wkP ?_ | refine opB (fun b => ?_) | refine opA (fun a' c' hc1 hc2 => ?_) | (apply GJ.and; exact rfl; intro hg) | (apply GJ.or; exact rfl; intro hg))
        exact Wk.outS Sup.auto (.refl _) hk2
    · rw [if_neg (fun h => hc h.1)] at hk
      rw [decide_eq_false hc]
      repeat (first | exact endA | refine wkP ?_ | refine opB (fun b => ?_) | refine opA (fun a' c' hc1 hc2 => ?_) | (apply GJ.and; exact rfl; intro hg) | (apply GJ.or; exact rfl; intro hg))
      refine radd_ok (d := { d with min := n1, max := n3 }) (x := x) hT h3 ⟨hx.kids, hx.last, hx.fields, hx.cases⟩ ⟨hs.kids, hs.last, hs.fields, hs.cases⟩ Take.auto Take.auto Take.auto (fun ro' a' hl' h' => ?_)
      have hk2 := hk ro' a' hl' h'
      repeat (first | exact endA | refine wkP ?_ | refine opB (fun b => ?_) | refine opA (fun a' c' hc1 hc2 => ?_) | (apply GJ.and; exact rfl; intro hg) | (apply GJ.or; exact rfl; intro hg))
      exact Wk.outS Sup.auto (.refl _) hk2
  · rw [if_neg h2] at hk
    repeat (first | exact endA | refine wkP ?_ | refine opB (fun b => ?_) | refine opA (fun a' c' hc1 hc2 => ?_) | (apply GJ.and; exact rfl; intro hg) | (apply GJ.or; exact rfl; intro hg))
    refine radd_ok (d := { d with max := mostD d }) (x := x) hT h ⟨hx.kids, hx.last, hx.fields, hx.cases⟩ ⟨hs.kids, hs.last, hs.fields, hs.cases⟩ Take.auto Take.auto Take.auto (fun ro' a' hl' h' => ?_)
    have hk2 := hk ro' a' hl' h'
    repeat (first | exact endA | refine wkP ?_ | refine opB (fun b => ?_) | refine opA (fun a' c' hc1 hc2 => ?_) | (apply GJ.and; exact rfl; intro hg) | (apply GJ.or; exact rfl; intro hg))
    exact Wk.outS Sup.auto (.refl _) hk2
end
end Go.Proofs.YtnapjcnfgdkmcaaGreatDoor
end
section
/- Contracts of the reader: how many of something; what is counted. -/
namespace Go.E
open Go
theorem OpOk.after {P : Program} {op : Op} {ty : TypeId} {env : Env} {ro : Ro} {own : Chs} {K : Value → Ro → Chs → Prop} (h : OpOk P op ty env ro own (fun v ro1 own1 => ∃ c r, Take own1 c r ∧ ∀ ro', Le ro1 ro' → c.holds ro' → K v ro' r)) : OpOk P op ty env ro own K :=
  ⟨fun g hg d pos af gd => .mk fun ρ w hρ hw => by
    obtain ⟨v, w', h1, h2, ro2, own2, hl2, hs2, c, r, ht, hK⟩ := (h.run g hg d pos af gd).run ρ w hρ hw
    obtain ⟨ro3, hl3, hc, hs3⟩ := (hs2.perm ht.perm).freeze
    exact ⟨v, w', h1, h2, ro3, r, hl2.trans hl3, hs3, hK ro3 hl3 hc⟩⟩
/-- A slice put together that lasts at once. -/
theorem OpOk.buildSliceF {P : Program} {T : TT} [hT : TTab P T] {ty : TypeId} {env : Env} {ro : Ro} {own : Chs} {K : Value → Ro → Chs → Prop} {t e n : Nat} {ps : List (Nat × Operand)} {vs : List Value} {s : Nat} (hv : evs env (ps.map (·.2)) = some vs) (hp : ps.map (·.1) = List.range n) (ht : elemOf T t = some (e, s))
    (hn : Nat.ble (n * s) 1048576 = true) (h1 : vs.all (fun v => Nat.beq v.cells.size s) = true) (hk : ∀ ro' b, Le ro ro' → Rs ro' (some ⟨b, 0, none⟩) n n s (flat vs) → K (.slice (some ⟨b, 0, none⟩) n n) ro' own) :
    OpOk P (.buildSlice t n ps.toArray) ty env ro own K :=
  OpOk.after (OpOk.buildSlice hv hp ht hn h1 (fun b => ⟨_, _, Take.hit _ _, fun ro' hl hc => hk ro' b hl (Rs.last hc)⟩))
end Go.E
namespace Go.Proofs.YtnapjcnfgdkmcaaGreatDoor
open Go Go.E
set_option linter.unusedVariables false
set_option linter.unusedSectionVars false
set_option linter.unusedSimpArgs false
set_option maxRecDepth 10000
def exprV (x : List UInt8 × Nat × Nat) : List Value := [str x.1, .int .u64 (x.2.1 : Int), .int .u64 (x.2.2 : Int)]
section
variable {ro : Ro} {own q q1 q2 : Chs} {K : Value → Ro → Chs → Prop} {l : List TokD} {s : PS} {a : SpecA} {la : Option Addr} {lc r : Nat}
set_option maxHeartbeats 4000000 in
theorem rexpr_ok (hM : MaxOk ro) (hT : ToksOk ro la lc l) (h : RdOk ro l s a) (t1 : Take own (rdC r la lc l s a) q1) (t2 : Take q1 (ndC s a) q2) (t3 : Take q2 (dfC s a) q)
    (hk : RdOk ro l (exprP numD (listE l) s).2 a → K (.agg (exprV (exprP numD (listE l) s).1).toArray) ro (rdC r la lc l (exprP numD (listE l) s).2 a :: ndC (exprP numD (listE l) s).2 a :: dfC (exprP numD (listE l) s).2 a :: q)) :
    CallOk Tryz.prog 136 #[ptr' r] ro own K := by
  refine CallOk.perm (three t1 t2 t3) ?_
  unfold exprP at hk
  dsimp only at hk
  refine CallOk.intro (args := [_]) (rs := [_]) T_ok Tryz.func136 Tryz.call136 rfl rfl (by kernel_rfl) rfl rfl ?_
  repeat (first | exact endA | refine wkP ?_ | refine opB (fun b => ?_) | refine opA (fun a' c' hc1 hc2 => ?_) | (apply GJ.and; exact rfl; intro hg) | (apply GJ.or; exact rfl; intro hg))
  refine must3 (t := [91]) hT h Take.auto Take.auto Take.auto (fun h1 => ?_)
  generalize mustP (listE l) [91] s = s1 at *
  repeat (first | exact endA | refine wkP ?_ | refine opB (fun b => ?_) | refine opA (fun a' c' hc1 hc2 => ?_) | (apply GJ.and; exact rfl; intro hg) | (apply GJ.or; exact rfl; intro hg))
  refine rpeek_ok hT h1 Take.auto ?_
  generalize hz : peekP (listE l) s1 = z at *
  obtain ⟨tk, ta, tt⟩ := z
  dsimp only [TokD.v] at hk ⊢
  by_cases h2 : tk = 2
  · subst h2
    rw [if_pos rfl] at hk
    repeat (first | exact endA | refine wkP ?_ | refine opB (fun b => ?_) | refine opA (fun a' c' hc1 hc2 => ?_) | (apply GJ.and; exact rfl; intro hg) | (apply GJ.or; exact rfl; intro hg))
    refine num3 hT h1 Take.auto Take.auto Take.auto (fun h2 => ?_)
    generalize numP numD (listE l) s1 = r1 at *
    obtain ⟨n1, s2⟩ := r1
    dsimp only at h2 hk ⊢
    repeat (first | exact endA | refine wkP ?_ | refine opB (fun b => ?_) | refine opA (fun a' c' hc1 hc2 => ?_) | (apply GJ.and; exact rfl; intro hg) | (apply GJ.or; exact rfl; intro hg))
    refine sign3 (t := [42]) hT h2 Take.auto Take.auto Take.auto (fun h3 => ?_)
    generalize signP (listE l) [42] s2 = m at *
    obtain ⟨mb, s3⟩ := m
    dsimp only at h3 hk ⊢
    cases mb with
    | false =>
      rw [if_pos rfl] at hk
      repeat (first | exact endA | refine wkP ?_ | refine opB (fun b => ?_) | refine opA (fun a' c' hc1 hc2 => ?_) | (apply GJ.and; exact rfl; intro hg) | (apply GJ.or; exact rfl; intro hg))
      refine must3 (t := [93]) hT h3 Take.auto Take.auto Take.auto (fun g4 => ?_)
      have hk2 := hk g4
      repeat (first | exact endA | refine wkP ?_ | refine opB (fun b => ?_) | refine opA (fun a' c' hc1 hc2 => ?_) | (apply GJ.and; exact rfl; intro hg) | (apply GJ.or; exact rfl; intro hg))
      exact Wk.outS Sup.auto (.refl _) hk2
    | true =>
      rw [if_neg (by decide)] at hk
      by_cases h0 : n1 = 0
      · subst h0
        rw [if_pos rfl] at hk
        repeat (first | exact endA | refine wkP ?_ | refine opB (fun b => ?_) | refine opA (fun a' c' hc1 hc2 => ?_) | (apply GJ.and; exact rfl; intro hg) | (apply GJ.or; exact rfl; intro hg))
        refine wrong3 (e := 1) (by decide) (by decide) hT h3 Take.auto Take.auto Take.auto (fun h4 => ?_)
        generalize wrongP 1 s3 = s4 at *
        repeat (first | exact endA | refine wkP ?_ | refine opB (fun b => ?_) | refine opA (fun a' c' hc1 hc2 => ?_) | (apply GJ.and; exact rfl; intro hg) | (apply GJ.or; exact rfl; intro hg))
        refine name3 hM hT h4 Take.auto Take.auto Take.auto (fun g1 => ?_)
        generalize nameP (listE l) s4 = x at *
        obtain ⟨xr, s5⟩ := x
        dsimp only at g1 hk ⊢
        repeat (first | exact endA | refine wkP ?_ | refine opB (fun b => ?_) | refine opA (fun a' c' hc1 hc2 => ?_) | (apply GJ.and; exact rfl; intro hg) | (apply GJ.or; exact rfl; intro hg))
        refine sign3 (t := [43]) hT g1 Take.auto Take.auto Take.auto (fun g2 => ?_)
        generalize signP (listE l) [43] s5 = p at *
        obtain ⟨pb, s6⟩ := p
        dsimp only at g2 hk ⊢
        cases pb with
        | true =>
          rw [if_pos rfl] at hk
          repeat (first | exact endA | refine wkP ?_ | refine opB (fun b => ?_) | refine opA (fun a' c' hc1 hc2 => ?_) | (apply GJ.and; exact rfl; intro hg) | (apply GJ.or; exact rfl; intro hg))
          refine num3 hT g2 Take.auto Take.auto Take.auto (fun g3 => ?_)
          generalize numP numD (listE l) s6 = a3 at *
          obtain ⟨n3, s7⟩ := a3
          dsimp only at g3 hk ⊢
          repeat (first | exact endA | refine wkP ?_ | refine opB (fun b => ?_) | refine opA (fun a' c' hc1 hc2 => ?_) | (apply GJ.and; exact rfl; intro hg) | (apply GJ.or; exact rfl; intro hg))
          refine must3 (t := [93]) hT g3 Take.auto Take.auto Take.auto (fun g4 => ?_)
          have hk2 := hk g4
          repeat (first | exact endA | refine wkP ?_ | refine opB (fun b => ?_) | refine opA (fun a' c' hc1 hc2 => ?_) | (apply GJ.and; exact rfl; intro hg) | (apply GJ.or; exact rfl; intro hg))
          exact Wk.outS Sup.auto (.refl _) hk2
        | false =>
          rw [if_neg (by decide)] at hk
          repeat (first | exact endA | refine wkP ?_ | refine opB (fun b => ?_) | refine opA (fun a' c' hc1 hc2 => ?_) | (apply GJ.and; exact rfl; intro hg) | (apply GJ.or; exact rfl; intro hg))
          refine must3 (t := [93]) hT g2 Take.auto Take.auto Take.auto (fun g4 => ?_)
          have hk2 := hk g4
          repeat (first | exact endA | refine wkP ?_ | refine opB (fun b => ?_) | refine opA (fun a' c' hc1 hc2 => ?_) | (apply GJ.and; exact rfl; intro hg) | (apply GJ.or; exact rfl; intro hg))
          exact Wk.outS Sup.auto (.refl _) hk2
      · rw [if_neg h0] at hk
        have h0' : ¬ ((n1 : Int) = 0) := by omega
        repeat (first | exact endA | refine wkP ?_ | refine opB (fun b => ?_) | refine opA (fun a' c' hc1 hc2 => ?_) | (apply GJ.and; exact rfl; intro hg) | (apply GJ.or; exact rfl; intro hg))
        refine name3 hM hT h3 Take.auto Take.auto Take.auto (fun g1 => ?_)
        generalize nameP (listE l) s3 = x at *
        obtain ⟨xr, s5⟩ := x
        dsimp only at g1 hk ⊢
        repeat (first | exact endA | refine wkP ?_ | refine opB (fun b => ?_) | refine opA (fun a' c' hc1 hc2 => ?_) | (apply GJ.and; exact rfl; intro hg) | (apply GJ.or; exact rfl; intro hg))
        refine sign3 (t := [43]) hT g1 Take.auto Take.auto Take.auto (fun g2 => ?_)
        generalize signP (listE l) [43] s5 = p at *
        obtain ⟨pb, s6⟩ := p
        dsimp only at g2 hk ⊢
        cases pb with
        | true =>
          rw [if_pos rfl] at hk
          repeat (first | exact endA | refine wkP ?_ | refine opB (fun b => ?_) | refine opA (fun a' c' hc1 hc2 => ?_) | (apply GJ.and; exact rfl; intro hg) | (apply GJ.or; exact rfl; intro hg))
          refine num3 hT g2 Take.auto Take.auto Take.auto (fun g3 => ?_)
          generalize numP numD (listE l) s6 = a3 at *
          obtain ⟨n3, s7⟩ := a3
          dsimp only at g3 hk ⊢
          repeat (first | exact endA | refine wkP ?_ | refine opB (fun b => ?_) | refine opA (fun a' c' hc1 hc2 => ?_) | (apply GJ.and; exact rfl; intro hg) | (apply GJ.or; exact rfl; intro hg))
          refine must3 (t := [93]) hT g3 Take.auto Take.auto Take.auto (fun g4 => ?_)
          have hk2 := hk g4
          repeat (first | exact endA | refine wkP ?_ | refine opB (fun b => ?_) | refine opA (fun a' c' hc1 hc2 => ?_) | (apply GJ.and; exact rfl; intro hg) | (apply GJ.or; exact rfl; intro hg))
          exact Wk.outS Sup.auto (.refl _) hk2
        | false =>
          rw [if_neg (by decide)] at hk
          repeat (first | exact endA | refine wkP ?_ | refine opB (fun b => ?_) | refine opA (fun a' c' hc1 hc2 => ?_) | (apply GJ.and; exact rfl; intro hg) | (apply GJ.or; exact rfl; intro hg))
          refine must3 (t := [93]) hT g2 Take.auto Take.auto Take.auto (fun g4 => ?_)
          have hk2 := hk g4
          repeat (first | exact endA | refine wkP ?_ | refine opB (fun b => ?_) | refine opA (fun a' c' hc1 hc2 => ?_) | (apply GJ.and; exact rfl; intro hg) | (apply GJ.or; exact rfl; intro hg))
          exact Wk.outS Sup.auto (.refl _) hk2
  · rw [if_neg h2] at hk
    repeat (first | exact endA | refine wkP ?_ | refine opB (fun b => ?_) | refine opA (fun a' c' hc1 hc2 => ?_) | (apply GJ.and; exact rfl; intro hg) | (apply GJ.or; exact rfl; intro hg))
    refine name3 hM hT h1 Take.auto Take.auto Take.auto (fun g1 => ?_)
    generalize nameP (listE l) s1 = x at *
    obtain ⟨xr, s5⟩ := x
    dsimp only at g1 hk ⊢
    repeat (first | exact endA | refine wkP ?_ | refine opB (fun b => ?_) | refine opA (fun a' c' hc1 hc2 => ?_) | (apply GJ.and; exact rfl; intro hg) | (apply GJ.or; exact rfl; intro hg))
    refine sign3 (t := [43]) hT g1 Take.auto Take.auto Take.auto (fun g2 => ?_)
    generalize signP (listE l) [43] s5 = p at *
    obtain ⟨pb, s6⟩ := p
    dsimp only at g2 hk ⊢
    cases pb with
    | true =>
      rw [if_pos rfl] at hk
      repeat (first | exact endA | refine wkP ?_ | refine opB (fun b => ?_) | refine opA (fun a' c' hc1 hc2 => ?_) | (apply GJ.and; exact rfl; intro hg) | (apply GJ.or; exact rfl; intro hg))
      refine num3 hT g2 Take.auto Take.auto Take.auto (fun g3 => ?_)
      generalize numP numD (listE l) s6 = a3 at *
      obtain ⟨n3, s7⟩ := a3
      dsimp only at g3 hk ⊢
      repeat (first | exact endA | refine wkP ?_ | refine opB (fun b => ?_) | refine opA (fun a' c' hc1 hc2 => ?_) | (apply GJ.and; exact rfl; intro hg) | (apply GJ.or; exact rfl; intro hg))
      refine must3 (t := [93]) hT g3 Take.auto Take.auto Take.auto (fun g4 => ?_)
      have hk2 := hk g4
      repeat (first | exact endA | refine wkP ?_ | refine opB (fun b => ?_) | refine opA (fun a' c' hc1 hc2 => ?_) | (apply GJ.and; exact rfl; intro hg) | (apply GJ.or; exact rfl; intro hg))
      exact Wk.outS Sup.auto (.refl _) hk2
    | false =>
      rw [if_neg (by decide)] at hk
      repeat (first | exact endA | refine wkP ?_ | refine opB (fun b => ?_) | refine opA (fun a' c' hc1 hc2 => ?_) | (apply GJ.and; exact rfl; intro hg) | (apply GJ.or; exact rfl; intro hg))
      refine must3 (t := [93]) hT g2 Take.auto Take.auto Take.auto (fun g4 => ?_)
      have hk2 := hk g4
      repeat (first | exact endA | refine wkP ?_ | refine opB (fun b => ?_) | refine opA (fun a' c' hc1 hc2 => ?_) | (apply GJ.and; exact rfl; intro hg) | (apply GJ.or; exact rfl; intro hg))
      exact Wk.outS Sup.auto (.refl _) hk2
end
/-- What the reader of a type does, so deep. -/
structure KOk (la : Option Addr) (lc r : Nat) (l : List TokD) (deep : Int) (F : PS → Nat × PS) : Prop where
  run : ∀ {ro : Ro} {own q q1 q2 : Chs} {K : Value → Ro → Chs → Prop} {s : PS} {a : SpecA}, MaxOk ro → ToksOk ro la lc l → RdOk ro l s a → Take own (rdC r la lc l s a) q1 → Take q1 (ndC s a) q2 → Take q2 (dfC s a) q →
    (∀ ro' a', Le ro ro' → RdOk ro' l (F s).2 a' → K (.int .i64 ((F s).1 : Int)) ro' (rdC r la lc l (F s).2 a' :: ndC (F s).2 a' :: dfC (F s).2 a' :: q)) → CallOk Tryz.prog 87 #[ptr' r, .int .i64 deep] ro own K
section
variable {ro : Ro} {own q q1 q2 : Chs} {K : Value → Ro → Chs → Prop} {l : List TokD} {s : PS} {a : SpecA} {la : Option Addr} {lc r : Nat} {deep : Nat} {F : PS → Nat × PS}
set_option maxHeartbeats 4000000 in
theorem rcounted_ok {kd : Int} (hF : KOk la lc r l ((deep : Int) + 1) F) (hd : deep ≤ 100) (hM : MaxOk ro) (hT : ToksOk ro la lc l) (h : RdOk ro l s a) (t1 : Take own (rdC r la lc l s a) q1) (t2 : Take q1 (ndC s a) q2) (t3 : Take q2 (dfC s a) q)
    (hk : ∀ ro' a', Le ro ro' → RdOk ro' l (countedP numD (listE l) F kd s).2 a' → K (.int .i64 ((countedP numD (listE l) F kd s).1 : Int)) ro' (rdC r la lc l (countedP numD (listE l) F kd s).2 a' :: ndC (countedP numD (listE l) F kd s).2 a' :: dfC (countedP numD (listE l) F kd s).2 a' :: q)) :
    CallOk Tryz.prog 137 #[ptr' r, .int .i64 kd, .int .i64 (deep : Int)] ro own K := by
  refine CallOk.perm (three t1 t2 t3) ?_
  unfold countedP at hk
  dsimp only at hk
  refine CallOk.intro (args := [_, _, _]) (rs := [_]) T_ok Tryz.func137 Tryz.call137 rfl rfl (by kernel_rfl) rfl rfl ?_
  repeat (first | exact endA | refine wkP ?_ | refine opB (fun b => ?_) | refine opA (fun a' c' hc1 hc2 => ?_) | (apply GJ.and; exact rfl; intro hg) | (apply GJ.or; exact rfl; intro hg))
  refine rexpr_ok hM hT h Take.auto Take.auto Take.auto (fun h1 => ?_)
  generalize exprP numD (listE l) s = x at *
  obtain ⟨⟨xr, xm, xa⟩, s1⟩ := x
  dsimp only [exprV] at h1 hk ⊢
  repeat (first | exact endA | refine wkP ?_ | refine opB (fun b => ?_) | refine opA (fun a' c' hc1 hc2 => ?_) | (apply GJ.and; exact rfl; intro hg) | (apply GJ.or; exact rfl; intro hg))
  refine hF.run hM hT h1 Take.auto Take.auto Take.auto (fun ro2 a2 hl2 h2 => ?_)
  generalize F s1 = k at *
  obtain ⟨kn, s2⟩ := k
  dsimp only at h2 hk ⊢
  repeat (first | exact endA | refine wkP ?_)
  refine OpOk.buildSliceF rfAuto rfAuto rfAuto rfAuto rfAuto (fun ro3 b3 hl3 hb3 => ?_)
  repeat (first | exact endA | refine wkP ?_)
  have h3 := h2.up hl3
  refine radd_ok (d := { node0 with kind := kd, ereg := xr, emul := xm, eadd := xa, kids := [(kn : Int)] }) (x := { nodeZ with ka := some ⟨b3, 0, none⟩, kc := 1 }) ((hT.up hl2).up hl3) h3 ⟨hb3, Rs.nil _ 1, Rs.nil _ 5, Rs.nil _ 2⟩ ⟨by simp, by simp [node0], by simp [node0], by simp [node0]⟩ Take.auto Take.auto Take.auto (fun ro4 a4 hl4 h4 => ?_)
  have hk2 := hk ro4 a4 ((hl2.trans hl3).trans hl4) h4
  repeat (first | exact endA | refine wkP ?_ | refine opB (fun b => ?_) | refine opA (fun a' c' hc1 hc2 => ?_) | (apply GJ.and; exact rfl; intro hg) | (apply GJ.or; exact rfl; intro hg))
  exact Wk.outS Sup.auto (.refl _) hk2
end
end Go.Proofs.YtnapjcnfgdkmcaaGreatDoor
end
section
/- Contracts of the reader: a field. -/
namespace Go.Proofs.YtnapjcnfgdkmcaaGreatDoor
open Go Go.E
set_option linter.unusedVariables false
set_option linter.unusedSectionVars false
set_option linter.unusedSimpArgs false
set_option maxRecDepth 10000
theorem eat_no {E : PE} {k : Nat} {t : List UInt8} {s : PS} (h : (eatP E k t s).1 = false) : s = (eatP E k t s).2 := by
  unfold eatP at h ⊢
  split
  · rename_i hi; rw [if_pos hi] at h; cases h
  · rfl
theorem kw_no {E : PE} {t : List UInt8} {s : PS} (h : (kwP E t s).1 = false) : s = (kwP E t s).2 := eat_no h
section
variable {ro : Ro} {own q q1 q2 : Chs} {K : Value → Ro → Chs → Prop} {l : List TokD} {s : PS} {a : SpecA} {la : Option Addr} {lc r : Nat} {deep : Nat} {F : PS → Nat × PS}
set_option maxHeartbeats 8000000 in
theorem rfield_ok (hF : KOk la lc r l ((deep : Int) + 1) F) (hd : deep ≤ 100) (hM : MaxOk ro) (hT : ToksOk ro la lc l) (h : RdOk ro l s a) (t1 : Take own (rdC r la lc l s a) q1) (t2 : Take q1 (ndC s a) q2) (t3 : Take q2 (dfC s a) q)
    (hk : ∀ ro' a', Le ro ro' → RdOk ro' l (fieldP (listE l) F s).2 a' → K (.agg (fieldV (fieldP (listE l) F s).1).toArray) ro' (rdC r la lc l (fieldP (listE l) F s).2 a' :: ndC (fieldP (listE l) F s).2 a' :: dfC (fieldP (listE l) F s).2 a' :: q)) :
    CallOk Tryz.prog 133 #[ptr' r, .int .i64 (deep : Int)] ro own K := by
  refine CallOk.perm (three t1 t2 t3) ?_
  unfold fieldP deriveP at hk
  dsimp only at hk
  refine CallOk.intro (args := [_, _]) (rs := [_]) T_ok Tryz.func133 Tryz.call133 rfl rfl (by kernel_rfl) rfl rfl ?_
  repeat (first | exact endA | refine wkP ?_ | refine opB (fun b => ?_) | refine opA (fun a' c' hc1 hc2 => ?_) | (apply GJ.and; exact rfl; intro hg) | (apply GJ.or; exact rfl; intro hg))
  refine name3 hM hT h Take.auto Take.auto Take.auto (fun h1 => ?_)
  generalize nameP (listE l) s = x at *
  obtain ⟨xn, s1⟩ := x
  dsimp only at h1 hk ⊢
  repeat (first | exact endA | refine wkP ?_ | refine opB (fun b => ?_) | refine opA (fun a' c' hc1 hc2 => ?_) | (apply GJ.and; exact rfl; intro hg) | (apply GJ.or; exact rfl; intro hg))
  refine must3 (t := [58]) hT h1 Take.auto Take.auto Take.auto (fun h2 => ?_)
  generalize mustP (listE l) [58] s1 = s2 at *
  repeat (first | exact endA | refine wkP ?_ | refine opB (fun b => ?_) | refine opA (fun a' c' hc1 hc2 => ?_) | (apply GJ.and; exact rfl; intro hg) | (apply GJ.or; exact rfl; intro hg))
  refine hF.run hM hT h2 Take.auto Take.auto Take.auto (fun ro2 a2 hl2 h3 => ?_)
  generalize F s2 = k at *
  obtain ⟨kn, s3⟩ := k
  dsimp only at h3 hk ⊢
  have hM2 := hM.le hl2
  have hT2 := hT.up hl2
  repeat (first | exact endA | refine wkP ?_ | refine opB (fun b => ?_) | refine opA (fun a' c' hc1 hc2 => ?_) | (apply GJ.and; exact rfl; intro hg) | (apply GJ.or; exact rfl; intro hg))
  refine sign3 (t := [61]) hT2 h3 Take.auto Take.auto Take.auto (fun h4 => ?_)
  generalize signP (listE l) [61] s3 = e at *
  obtain ⟨eb, s4⟩ := e
  dsimp only at h4 hk ⊢
  cases eb with
  | false =>
    rw [if_neg (by decide)] at hk
    repeat (first | exact endA | refine wkP ?_ | refine opB (fun b => ?_) | refine opA (fun a' c' hc1 hc2 => ?_) | (apply GJ.and; exact rfl; intro hg) | (apply GJ.or; exact rfl; intro hg))
    refine must3 (t := [59]) hT2 h4 Take.auto Take.auto Take.auto (fun g4 => ?_)
    have hk2 := hk ro2 a2 hl2 g4
    repeat (first | exact endA | refine wkP ?_ | refine opB (fun b => ?_) | refine opA (fun a' c' hc1 hc2 => ?_) | (apply GJ.and; exact rfl; intro hg) | (apply GJ.or; exact rfl; intro hg))
    exact Wk.outS Sup.auto (.refl _) hk2
  | true =>
    rw [if_pos rfl] at hk
    repeat (first | exact endA | refine wkP ?_ | refine opB (fun b => ?_) | refine opA (fun a' c' hc1 hc2 => ?_) | (apply GJ.and; exact rfl; intro hg) | (apply GJ.or; exact rfl; intro hg))
    refine word3 (t := [115, 105, 122, 101]) hT2 h4 Take.auto Take.auto Take.auto (fun h5 => ?_)
    have hn1 := kw_no (E := listE l) (t := [115, 105, 122, 101]) (s := s4)
    generalize kwP (listE l) [115, 105, 122, 101] s4 = w1 at *
    obtain ⟨b1, v1⟩ := w1
    dsimp only at h5 hn1 hk ⊢
    cases b1 with
    | true =>
      simp only [↓reduceIte] at hk
      repeat (first | exact endA | refine wkP ?_ | refine opB (fun b => ?_) | refine opA (fun a' c' hc1 hc2 => ?_) | (apply GJ.and; exact rfl; intro hg) | (apply GJ.or; exact rfl; intro hg))
      refine must3 (t := [40]) hT2 h5 Take.auto Take.auto Take.auto (fun g1 => ?_)
      generalize mustP (listE l) [40] v1 = u1 at *
      repeat (first | exact endA | refine wkP ?_ | refine opB (fun b => ?_) | refine opA (fun a' c' hc1 hc2 => ?_) | (apply GJ.and; exact rfl; intro hg) | (apply GJ.or; exact rfl; intro hg))
      refine name3 hM2 hT2 g1 Take.auto Take.auto Take.auto (fun g2 => ?_)
      generalize nameP (listE l) u1 = o at *
      obtain ⟨on, u2⟩ := o
      dsimp only at g2 hk ⊢
      rw [if_neg (by decide)] at hk
      repeat (first | exact endA | refine wkP ?_ | refine opB (fun b => ?_) | refine opA (fun a' c' hc1 hc2 => ?_) | (apply GJ.and; exact rfl; intro hg) | (apply GJ.or; exact rfl; intro hg))
      refine must3 (t := [41]) hT2 g2 Take.auto Take.auto Take.auto (fun g3 => ?_)
      generalize mustP (listE l) [41] u2 = u3 at *
      repeat (first | exact endA | refine wkP ?_ | refine opB (fun b => ?_) | refine opA (fun a' c' hc1 hc2 => ?_) | (apply GJ.and; exact rfl; intro hg) | (apply GJ.or; exact rfl; intro hg))
      refine must3 (t := [59]) hT2 g3 Take.auto Take.auto Take.auto (fun g4 => ?_)
      have hk2 := hk ro2 a2 hl2 g4
      repeat (first | exact endA | refine wkP ?_ | refine opB (fun b => ?_) | refine opA (fun a' c' hc1 hc2 => ?_) | (apply GJ.and; exact rfl; intro hg) | (apply GJ.or; exact rfl; intro hg))
      exact Wk.outS Sup.auto (.refl _) hk2
    | false =>
      obtain rfl := hn1 rfl
      simp only [Bool.false_eq_true, ↓reduceIte] at hk
      repeat (first | exact endA | refine wkP ?_ | refine opB (fun b => ?_) | refine opA (fun a' c' hc1 hc2 => ?_) | (apply GJ.and; exact rfl; intro hg) | (apply GJ.or; exact rfl; intro hg))
      refine word3 (t := [99, 111, 117, 110, 116]) hT2 h4 Take.auto Take.auto Take.auto (fun h5 => ?_)
      have hn1 := kw_no (E := listE l) (t := [99, 111, 117, 110, 116]) (s := s4)
      generalize kwP (listE l) [99, 111, 117, 110, 116] s4 = w1 at *
      obtain ⟨b1, v1⟩ := w1
      dsimp only at h5 hn1 hk ⊢
      cases b1 with
      | true =>
        simp only [↓reduceIte] at hk
        repeat (first | exact endA | refine wkP ?_ | refine opB (fun b => ?_) | refine opA (fun a' c' hc1 hc2 => ?_) | (apply GJ.and; exact rfl; intro hg) | (apply GJ.or; exact rfl; intro hg))
        refine must3 (t := [40]) hT2 h5 Take.auto Take.auto Take.auto (fun g1 => ?_)
        generalize mustP (listE l) [40] v1 = u1 at *
        repeat (first | exact endA | refine wkP ?_ | refine opB (fun b => ?_) | refine opA (fun a' c' hc1 hc2 => ?_) | (apply GJ.and; exact rfl; intro hg) | (apply GJ.or; exact rfl; intro hg))
        refine name3 hM2 hT2 g1 Take.auto Take.auto Take.auto (fun g2 => ?_)
        generalize nameP (listE l) u1 = o at *
        obtain ⟨on, u2⟩ := o
        dsimp only at g2 hk ⊢
        rw [if_neg (by decide)] at hk
        repeat (first | exact endA | refine wkP ?_ | refine opB (fun b => ?_) | refine opA (fun a' c' hc1 hc2 => ?_) | (apply GJ.and; exact rfl; intro hg) | (apply GJ.or; exact rfl; intro hg))
        refine must3 (t := [41]) hT2 g2 Take.auto Take.auto Take.auto (fun g3 => ?_)
        generalize mustP (listE l) [41] u2 = u3 at *
        repeat (first | exact endA | refine wkP ?_ | refine opB (fun b => ?_) | refine opA (fun a' c' hc1 hc2 => ?_) | (apply GJ.and; exact rfl; intro hg) | (apply GJ.or; exact rfl; intro hg))
        refine must3 (t := [59]) hT2 g3 Take.auto Take.auto Take.auto (fun g4 => ?_)
        have hk2 := hk ro2 a2 hl2 g4
        repeat (first | exact endA | refine wkP ?_ | refine opB (fun b => ?_) | refine opA (fun a' c' hc1 hc2 => ?_) | (apply GJ.and; exact rfl; intro hg) | (apply GJ.or; exact rfl; intro hg))
        exact Wk.outS Sup.auto (.refl _) hk2
      | false =>
        obtain rfl := hn1 rfl
        simp only [Bool.false_eq_true, ↓reduceIte] at hk
        repeat (first | exact endA | refine wkP ?_ | refine opB (fun b => ?_) | refine opA (fun a' c' hc1 hc2 => ?_) | (apply GJ.and; exact rfl; intro hg) | (apply GJ.or; exact rfl; intro hg))
        refine word3 (t := [99, 114, 99]) hT2 h4 Take.auto Take.auto Take.auto (fun h5 => ?_)
        have hn1 := kw_no (E := listE l) (t := [99, 114, 99]) (s := s4)
        generalize kwP (listE l) [99, 114, 99] s4 = w1 at *
        obtain ⟨b1, v1⟩ := w1
        dsimp only at h5 hn1 hk ⊢
        cases b1 with
        | true =>
          simp only [↓reduceIte] at hk
          repeat (first | exact endA | refine wkP ?_ | refine opB (fun b => ?_) | refine opA (fun a' c' hc1 hc2 => ?_) | (apply GJ.and; exact rfl; intro hg) | (apply GJ.or; exact rfl; intro hg))
          refine must3 (t := [40]) hT2 h5 Take.auto Take.auto Take.auto (fun g1 => ?_)
          generalize mustP (listE l) [40] v1 = u1 at *
          repeat (first | exact endA | refine wkP ?_ | refine opB (fun b => ?_) | refine opA (fun a' c' hc1 hc2 => ?_) | (apply GJ.and; exact rfl; intro hg) | (apply GJ.or; exact rfl; intro hg))
          refine name3 hM2 hT2 g1 Take.auto Take.auto Take.auto (fun g2 => ?_)
          generalize nameP (listE l) u1 = o at *
          obtain ⟨on, u2⟩ := o
          dsimp only at g2 hk ⊢
          repeat (first | exact endA | refine wkP ?_ | refine opB (fun b => ?_) | refine opA (fun a' c' hc1 hc2 => ?_) | (apply GJ.and; exact rfl; intro hg) | (apply GJ.or; exact rfl; intro hg))
          refine must3 (t := [46, 46]) hT2 g2 Take.auto Take.auto Take.auto (fun g3 => ?_)
          generalize mustP (listE l) [46, 46] u2 = u3 at *
          repeat (first | exact endA | refine wkP ?_ | refine opB (fun b => ?_) | refine opA (fun a' c' hc1 hc2 => ?_) | (apply GJ.and; exact rfl; intro hg) | (apply GJ.or; exact rfl; intro hg))
          refine name3 hM2 hT2 g3 Take.auto Take.auto Take.auto (fun g4 => ?_)
          generalize nameP (listE l) u3 = o at *
          obtain ⟨tn, u4⟩ := o
          dsimp only at g4 hk ⊢
          repeat (first | exact endA | refine wkP ?_ | refine opB (fun b => ?_) | refine opA (fun a' c' hc1 hc2 => ?_) | (apply GJ.and; exact rfl; intro hg) | (apply GJ.or; exact rfl; intro hg))
          refine must3 (t := [41]) hT2 g4 Take.auto Take.auto Take.auto (fun g5 => ?_)
          generalize mustP (listE l) [41] u4 = u5 at *
          repeat (first | exact endA | refine wkP ?_ | refine opB (fun b => ?_) | refine opA (fun a' c' hc1 hc2 => ?_) | (apply GJ.and; exact rfl; intro hg) | (apply GJ.or; exact rfl; intro hg))
          refine must3 (t := [59]) hT2 g5 Take.auto Take.auto Take.auto (fun g6 => ?_)
          have hk2 := hk ro2 a2 hl2 g6
          repeat (first | exact endA | refine wkP ?_ | refine opB (fun b => ?_) | refine opA (fun a' c' hc1 hc2 => ?_) | (apply GJ.and; exact rfl; intro hg) | (apply GJ.or; exact rfl; intro hg))
          exact Wk.outS Sup.auto (.refl _) hk2
        | false =>
          obtain rfl := hn1 rfl
          simp only [Bool.false_eq_true, ↓reduceIte] at hk
          repeat (first | exact endA | refine wkP ?_ | refine opB (fun b => ?_) | refine opA (fun a' c' hc1 hc2 => ?_) | (apply GJ.and; exact rfl; intro hg) | (apply GJ.or; exact rfl; intro hg))
          refine wrong3 (e := 5) (by decide) (by decide) hT2 h4 Take.auto Take.auto Take.auto (fun h5 => ?_)
          generalize wrongP 5 s4 = v1 at *
          repeat (first | exact endA | refine wkP ?_ | refine opB (fun b => ?_) | refine opA (fun a' c' hc1 hc2 => ?_) | (apply GJ.and; exact rfl; intro hg) | (apply GJ.or; exact rfl; intro hg))
          refine must3 (t := [40]) hT2 h5 Take.auto Take.auto Take.auto (fun g1 => ?_)
          generalize mustP (listE l) [40] v1 = u1 at *
          repeat (first | exact endA | refine wkP ?_ | refine opB (fun b => ?_) | refine opA (fun a' c' hc1 hc2 => ?_) | (apply GJ.and; exact rfl; intro hg) | (apply GJ.or; exact rfl; intro hg))
          refine name3 hM2 hT2 g1 Take.auto Take.auto Take.auto (fun g2 => ?_)
          generalize nameP (listE l) u1 = o at *
          obtain ⟨on, u2⟩ := o
          dsimp only at g2 hk ⊢
          rw [if_neg (by decide)] at hk
          repeat (first | exact endA | refine wkP ?_ | refine opB (fun b => ?_) | refine opA (fun a' c' hc1 hc2 => ?_) | (apply GJ.and; exact rfl; intro hg) | (apply GJ.or; exact rfl; intro hg))
          refine must3 (t := [41]) hT2 g2 Take.auto Take.auto Take.auto (fun g3 => ?_)
          generalize mustP (listE l) [41] u2 = u3 at *
          repeat (first | exact endA | refine wkP ?_ | refine opB (fun b => ?_) | refine opA (fun a' c' hc1 hc2 => ?_) | (apply GJ.and; exact rfl; intro hg) | (apply GJ.or; exact rfl; intro hg))
          refine must3 (t := [59]) hT2 g3 Take.auto Take.auto Take.auto (fun g4 => ?_)
          have hk2 := hk ro2 a2 hl2 g4
          repeat (first | exact endA | refine wkP ?_ | refine opB (fun b => ?_) | refine opA (fun a' c' hc1 hc2 => ?_) | (apply GJ.and; exact rfl; intro hg) | (apply GJ.or; exact rfl; intro hg))
          exact Wk.outS Sup.auto (.refl _) hk2
end
end Go.Proofs.YtnapjcnfgdkmcaaGreatDoor
end
