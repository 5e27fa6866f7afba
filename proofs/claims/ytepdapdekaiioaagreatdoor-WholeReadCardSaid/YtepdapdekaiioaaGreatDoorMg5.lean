/- Texts of a walk, one behind the other. -/
import Derived.Shelf.Bits.Mul64
import Derived.Ground.NamesProg
import Derived.Shelf.Strconv.Itoa3
import Derived.Shelf.Strings.Search3
import Derived.Test.YtepdapdekaiioaaGreatDoorMg2
import Derived.Test.YtepdapdekaiioaaGreatDoorMg3
import Derived.Test.YtepdapdekaiioaaGreatDoorMg4
section
/- Contracts of spec: lists and nodes of one's own. -/
namespace Go.Proofs.YtepdapdekaiioaaGreatDoor
open Go Go.E
set_option linter.unusedVariables false
set_option maxRecDepth 10000
section
variable {ro : Ro} {own r : Chs} {K : Value → Ro → Chs → Prop} {g : Chunk → Chs}
theorem listI_ok {a : Option Addr} {n c : Nat} {cs : List Value} (hr : Rs ro a n c 1 cs) (h1 : ∀ u ∈ cs, u.oneCell' = true) (hn : n ≤ 100000000) (hk : ∀ a' c', n ≤ c' → c' ≤ maxLen → K (.slice a' n n) ro (.sl a' n c' 3 1 cs :: own)) :
    CallOk Tryz.prog 56 #[.slice a n c] ro own K := by
  refine CallOk.intro (args := [_]) (rs := [_]) T_ok Tryz.func56 Tryz.call56 rfl rfl (by kernel_rfl) rfl rfl ?_
  repeat (first | exact endA | refine wkG ?_ | refine opB (fun b => ?_) | refine opA (fun a' c' hc1 hc2 => ?_) | (show GJ _ _ _ _ _ _ _; first | (apply GJ.and; exact rfl; intro hg) | (apply GJ.or; exact rfl; intro hg) | refine GJ.t omAuto ?_ | refine GJ.f omAuto ?_ | refine GJ.ft omAuto ?_ | refine GJ.ff omAuto ?_))
  refine cloneI_ok hr h1 hn (fun a1 c1 h2 h3 => ?_)
  repeat (first | exact endA | refine wkG ?_ | refine opB (fun b => ?_) | refine opA (fun a' c' hc1 hc2 => ?_) | (show GJ _ _ _ _ _ _ _; first | (apply GJ.and; exact rfl; intro hg) | (apply GJ.or; exact rfl; intro hg) | refine GJ.t omAuto ?_ | refine GJ.f omAuto ?_ | refine GJ.ft omAuto ?_ | refine GJ.ff omAuto ?_))
  refine CallOk.intro (args := [_]) (rs := [_]) T_ok Tryz.func78 Tryz.call78 rfl rfl (by kernel_rfl) rfl rfl ?_
  repeat (first | exact endA | refine wkG ?_ | refine opB (fun b => ?_) | refine opA (fun a' c' hc1 hc2 => ?_) | (show GJ _ _ _ _ _ _ _; first | (apply GJ.and; exact rfl; intro hg) | (apply GJ.or; exact rfl; intro hg) | refine GJ.t omAuto ?_ | refine GJ.f omAuto ?_ | refine GJ.ft omAuto ?_ | refine GJ.ff omAuto ?_))
  refine Wk.id ?_
  repeat (first | exact endA | refine wkG ?_ | refine opB (fun b => ?_) | refine opA (fun a' c' hc1 hc2 => ?_) | (show GJ _ _ _ _ _ _ _; first | (apply GJ.and; exact rfl; intro hg) | (apply GJ.or; exact rfl; intro hg) | refine GJ.t omAuto ?_ | refine GJ.f omAuto ?_ | refine GJ.ft omAuto ?_ | refine GJ.ff omAuto ?_))
  exact Wk.id (hk _ _ h2 h3)
theorem listB_ok {a : Option Addr} {n c : Nat} {cs : List Value} (hr : Rs ro a n c 1 cs) (h1 : ∀ u ∈ cs, u.oneCell' = true) (hn : n ≤ 100000000) (hk : ∀ a' c', n ≤ c' → c' ≤ maxLen → K (.slice a' n n) ro (.sl a' n c' 4 1 cs :: own)) :
    CallOk Tryz.prog 57 #[.slice a n c] ro own K := by
  refine CallOk.intro (args := [_]) (rs := [_]) T_ok Tryz.func57 Tryz.call57 rfl rfl (by kernel_rfl) rfl rfl ?_
  repeat (first | exact endA | refine wkG ?_ | refine opB (fun b => ?_) | refine opA (fun a' c' hc1 hc2 => ?_) | (show GJ _ _ _ _ _ _ _; first | (apply GJ.and; exact rfl; intro hg) | (apply GJ.or; exact rfl; intro hg) | refine GJ.t omAuto ?_ | refine GJ.f omAuto ?_ | refine GJ.ft omAuto ?_ | refine GJ.ff omAuto ?_))
  refine cloneB_ok hr h1 hn (fun a1 c1 h2 h3 => ?_)
  repeat (first | exact endA | refine wkG ?_ | refine opB (fun b => ?_) | refine opA (fun a' c' hc1 hc2 => ?_) | (show GJ _ _ _ _ _ _ _; first | (apply GJ.and; exact rfl; intro hg) | (apply GJ.or; exact rfl; intro hg) | refine GJ.t omAuto ?_ | refine GJ.f omAuto ?_ | refine GJ.ft omAuto ?_ | refine GJ.ff omAuto ?_))
  refine CallOk.intro (args := [_]) (rs := [_]) T_ok Tryz.func79 Tryz.call79 rfl rfl (by kernel_rfl) rfl rfl ?_
  repeat (first | exact endA | refine wkG ?_ | refine opB (fun b => ?_) | refine opA (fun a' c' hc1 hc2 => ?_) | (show GJ _ _ _ _ _ _ _; first | (apply GJ.and; exact rfl; intro hg) | (apply GJ.or; exact rfl; intro hg) | refine GJ.t omAuto ?_ | refine GJ.f omAuto ?_ | refine GJ.ft omAuto ?_ | refine GJ.ff omAuto ?_))
  refine Wk.id ?_
  repeat (first | exact endA | refine wkG ?_ | refine opB (fun b => ?_) | refine opA (fun a' c' hc1 hc2 => ?_) | (show GJ _ _ _ _ _ _ _; first | (apply GJ.and; exact rfl; intro hg) | (apply GJ.or; exact rfl; intro hg) | refine GJ.t omAuto ?_ | refine GJ.f omAuto ?_ | refine GJ.ft omAuto ?_ | refine GJ.ff omAuto ?_))
  exact Wk.id (hk _ _ h2 h3)
theorem listF_ok {a : Option Addr} {n c : Nat} {cs : List Value} (hr : Rs ro a n c 5 cs) (h1 : ∀ u ∈ cs, u.oneCell' = true) (hn : n ≤ 100000000) (hk : ∀ a' c', n ≤ c' → c' ≤ maxLen → K (.slice a' n n) ro (.sl a' n c' 66 5 cs :: own)) :
    CallOk Tryz.prog 58 #[.slice a n c] ro own K := by
  refine CallOk.intro (args := [_]) (rs := [_]) T_ok Tryz.func58 Tryz.call58 rfl rfl (by kernel_rfl) rfl rfl ?_
  repeat (first | exact endA | refine wkG ?_ | refine opB (fun b => ?_) | refine opA (fun a' c' hc1 hc2 => ?_) | (show GJ _ _ _ _ _ _ _; first | (apply GJ.and; exact rfl; intro hg) | (apply GJ.or; exact rfl; intro hg) | refine GJ.t omAuto ?_ | refine GJ.f omAuto ?_ | refine GJ.ft omAuto ?_ | refine GJ.ff omAuto ?_))
  refine cloneF_ok hr h1 hn (fun a1 c1 h2 h3 => ?_)
  repeat (first | exact endA | refine wkG ?_ | refine opB (fun b => ?_) | refine opA (fun a' c' hc1 hc2 => ?_) | (show GJ _ _ _ _ _ _ _; first | (apply GJ.and; exact rfl; intro hg) | (apply GJ.or; exact rfl; intro hg) | refine GJ.t omAuto ?_ | refine GJ.f omAuto ?_ | refine GJ.ft omAuto ?_ | refine GJ.ff omAuto ?_))
  refine CallOk.intro (args := [_]) (rs := [_]) T_ok Tryz.func81 Tryz.call81 rfl rfl (by kernel_rfl) rfl rfl ?_
  repeat (first | exact endA | refine wkG ?_ | refine opB (fun b => ?_) | refine opA (fun a' c' hc1 hc2 => ?_) | (show GJ _ _ _ _ _ _ _; first | (apply GJ.and; exact rfl; intro hg) | (apply GJ.or; exact rfl; intro hg) | refine GJ.t omAuto ?_ | refine GJ.f omAuto ?_ | refine GJ.ft omAuto ?_ | refine GJ.ff omAuto ?_))
  refine Wk.id ?_
  repeat (first | exact endA | refine wkG ?_ | refine opB (fun b => ?_) | refine opA (fun a' c' hc1 hc2 => ?_) | (show GJ _ _ _ _ _ _ _; first | (apply GJ.and; exact rfl; intro hg) | (apply GJ.or; exact rfl; intro hg) | refine GJ.t omAuto ?_ | refine GJ.f omAuto ?_ | refine GJ.ft omAuto ?_ | refine GJ.ff omAuto ?_))
  exact Wk.id (hk _ _ h2 h3)
theorem listC_ok {a : Option Addr} {n c : Nat} {cs : List Value} (hr : Rs ro a n c 2 cs) (h1 : ∀ u ∈ cs, u.oneCell' = true) (hn : n ≤ 100000000) (hk : ∀ a' c', n ≤ c' → c' ≤ maxLen → K (.slice a' n n) ro (.sl a' n c' 97 2 cs :: own)) :
    CallOk Tryz.prog 59 #[.slice a n c] ro own K := by
  refine CallOk.intro (args := [_]) (rs := [_]) T_ok Tryz.func59 Tryz.call59 rfl rfl (by kernel_rfl) rfl rfl ?_
  repeat (first | exact endA | refine wkG ?_ | refine opB (fun b => ?_) | refine opA (fun a' c' hc1 hc2 => ?_) | (show GJ _ _ _ _ _ _ _; first | (apply GJ.and; exact rfl; intro hg) | (apply GJ.or; exact rfl; intro hg) | refine GJ.t omAuto ?_ | refine GJ.f omAuto ?_ | refine GJ.ft omAuto ?_ | refine GJ.ff omAuto ?_))
  refine cloneC_ok hr h1 hn (fun a1 c1 h2 h3 => ?_)
  repeat (first | exact endA | refine wkG ?_ | refine opB (fun b => ?_) | refine opA (fun a' c' hc1 hc2 => ?_) | (show GJ _ _ _ _ _ _ _; first | (apply GJ.and; exact rfl; intro hg) | (apply GJ.or; exact rfl; intro hg) | refine GJ.t omAuto ?_ | refine GJ.f omAuto ?_ | refine GJ.ft omAuto ?_ | refine GJ.ff omAuto ?_))
  refine CallOk.intro (args := [_]) (rs := [_]) T_ok Tryz.func83 Tryz.call83 rfl rfl (by kernel_rfl) rfl rfl ?_
  repeat (first | exact endA | refine wkG ?_ | refine opB (fun b => ?_) | refine opA (fun a' c' hc1 hc2 => ?_) | (show GJ _ _ _ _ _ _ _; first | (apply GJ.and; exact rfl; intro hg) | (apply GJ.or; exact rfl; intro hg) | refine GJ.t omAuto ?_ | refine GJ.f omAuto ?_ | refine GJ.ft omAuto ?_ | refine GJ.ff omAuto ?_))
  refine Wk.id ?_
  repeat (first | exact endA | refine wkG ?_ | refine opB (fun b => ?_) | refine opA (fun a' c' hc1 hc2 => ?_) | (show GJ _ _ _ _ _ _ _; first | (apply GJ.and; exact rfl; intro hg) | (apply GJ.or; exact rfl; intro hg) | refine GJ.t omAuto ?_ | refine GJ.f omAuto ?_ | refine GJ.ft omAuto ?_ | refine GJ.ff omAuto ?_))
  exact Wk.id (hk _ _ h2 h3)
/-- A node's slices as parts of one's own: how much room each has. -/
def nodeC (d : NodeD) (a : NodeA) (k : Nat × Nat × Nat × Nat) : Chs := [.sl a.ka d.kids.length k.1 3 1 (kidsV d.kids), .sl a.la d.last.length k.2.1 4 1 (lastV d.last), .sl a.fa d.fields.length k.2.2.1 66 5 (fieldsV d.fields), .sl a.ca d.cases.length k.2.2.2 97 2 (casesV d.cases)]
/-- Its slices have no room behind. -/
structure ClipA (d : NodeD) (a : NodeA) : Prop where
  kids : a.kc = d.kids.length
  last : a.lc = d.last.length
  fields : a.fc = d.fields.length
  cases : a.cc = d.cases.length
theorem own_ok {d : NodeD} {a : NodeA} (ho : NodeOk ro d a) (hn : d.kids.length ≤ 100000000 ∧ d.last.length ≤ 100000000 ∧ d.fields.length ≤ 100000000 ∧ d.cases.length ≤ 100000000)
    (hk : ∀ a' k, ClipA d a' → K (.agg (nodeV d a').toArray) ro (nodeC d a' k ++ own)) : CallOk Tryz.prog 33 #[.agg (nodeV d a).toArray] ro own K := by
  have hr1 := ho.kids
  have hr2 := ho.last
  have hr3 := ho.fields
  have hr4 := ho.cases
  refine CallOk.intro (args := [_]) (rs := [_]) T_ok Tryz.func33 Tryz.call33 rfl rfl (by kernel_rfl) rfl rfl ?_
  repeat (first | exact endA | refine wkG ?_ | refine opB (fun b => ?_) | refine opA (fun a' c' hc1 hc2 => ?_) | (show GJ _ _ _ _ _ _ _; first | (apply GJ.and; exact rfl; intro hg) | (apply GJ.or; exact rfl; intro hg) | refine GJ.t omAuto ?_ | refine GJ.f omAuto ?_ | refine GJ.ft omAuto ?_ | refine GJ.ff omAuto ?_))
  refine Bs.all ?_
  repeat (first | exact endA | refine wkG ?_ | refine opB (fun b => ?_) | refine opA (fun a' c' hc1 hc2 => ?_) | (show GJ _ _ _ _ _ _ _; first | (apply GJ.and; exact rfl; intro hg) | (apply GJ.or; exact rfl; intro hg) | refine GJ.t omAuto ?_ | refine GJ.f omAuto ?_ | refine GJ.ft omAuto ?_ | refine GJ.ff omAuto ?_))
  refine listI_ok hr1 (kidsV_one _) (by omega) (fun a1 c1 h1 h2 => ?_)
  repeat (first | exact endA | refine wkG ?_ | refine opB (fun b => ?_) | refine opA (fun a' c' hc1 hc2 => ?_) | (show GJ _ _ _ _ _ _ _; first | (apply GJ.and; exact rfl; intro hg) | (apply GJ.or; exact rfl; intro hg) | refine GJ.t omAuto ?_ | refine GJ.f omAuto ?_ | refine GJ.ft omAuto ?_ | refine GJ.ff omAuto ?_))
  refine listB_ok hr2 (lastV_one _) (by omega) (fun a2 c2 h3 h4 => ?_)
  repeat (first | exact endA | refine wkG ?_ | refine opB (fun b => ?_) | refine opA (fun a' c' hc1 hc2 => ?_) | (show GJ _ _ _ _ _ _ _; first | (apply GJ.and; exact rfl; intro hg) | (apply GJ.or; exact rfl; intro hg) | refine GJ.t omAuto ?_ | refine GJ.f omAuto ?_ | refine GJ.ft omAuto ?_ | refine GJ.ff omAuto ?_))
  refine Bs.all ?_
  repeat (first | exact endA | refine wkG ?_ | refine opB (fun b => ?_) | refine opA (fun a' c' hc1 hc2 => ?_) | (show GJ _ _ _ _ _ _ _; first | (apply GJ.and; exact rfl; intro hg) | (apply GJ.or; exact rfl; intro hg) | refine GJ.t omAuto ?_ | refine GJ.f omAuto ?_ | refine GJ.ft omAuto ?_ | refine GJ.ff omAuto ?_))
  refine listF_ok hr3 (fieldsV_one _) (by omega) (fun a3 c3 h5 h6 => ?_)
  repeat (first | exact endA | refine wkG ?_ | refine opB (fun b => ?_) | refine opA (fun a' c' hc1 hc2 => ?_) | (show GJ _ _ _ _ _ _ _; first | (apply GJ.and; exact rfl; intro hg) | (apply GJ.or; exact rfl; intro hg) | refine GJ.t omAuto ?_ | refine GJ.f omAuto ?_ | refine GJ.ft omAuto ?_ | refine GJ.ff omAuto ?_))
  refine listC_ok hr4 (casesV_one _) (by omega) (fun a4 c4 h7 h8 => ?_)
  repeat (first | exact endA | refine wkG ?_ | refine opB (fun b => ?_) | refine opA (fun a' c' hc1 hc2 => ?_) | (show GJ _ _ _ _ _ _ _; first | (apply GJ.and; exact rfl; intro hg) | (apply GJ.or; exact rfl; intro hg) | refine GJ.t omAuto ?_ | refine GJ.f omAuto ?_ | refine GJ.ft omAuto ?_ | refine GJ.ff omAuto ?_))
  exact Wk.outS Sup.auto ((Take.perm (.miss _ (.miss _ (.miss _ (.hit _ _))))).trans ((Take.perm (.miss _ (.miss _ (.hit _ _)))).cons _ |>.trans (((Take.perm (.miss _ (.hit _ _))).cons _).cons _))) (hk ⟨a1, d.kids.length, a2, d.last.length, a3, d.fields.length, a4, d.cases.length⟩ (c1, c2, c3, c4) ⟨rfl, rfl, rfl, rfl⟩)
end
end Go.Proofs.YtepdapdekaiioaaGreatDoor
end
section
/- Contracts of spec: Clone, a builder. -/
namespace Go.Proofs.YtepdapdekaiioaaGreatDoor
open Go Go.E
set_option linter.unusedVariables false
set_option maxRecDepth 10000
def nodesC : List NodeD → List NodeA → List (Nat × Nat × Nat × Nat) → Chs
  | d :: ds, a :: xs, k :: ks => nodeC d a k ++ nodesC ds xs ks
  | _, _, _ => []
def NodesClip (ds : List NodeD) (xs : List NodeA) : Prop := ∀ (i : Nat) (d : NodeD) (x : NodeA), ds[i]? = some d → xs[i]? = some x → ClipA d x
theorem NodesClip.snoc {ds : List NodeD} {xs : List NodeA} {d : NodeD} {x : NodeA} (h : NodesClip ds xs) (hl : xs.length = ds.length) (hx : ClipA d x) : NodesClip (ds ++ [d]) (xs ++ [x]) := fun i d' x' h1 h2 => by
  rcases Nat.lt_or_ge i ds.length with hi | hi
  · rw [List.getElem?_append_left hi] at h1
    rw [List.getElem?_append_left (by omega)] at h2
    exact h i d' x' h1 h2
  · rw [List.getElem?_append_right hi] at h1
    rw [List.getElem?_append_right (by omega)] at h2
    have h3 : i - ds.length = 0 := by have := (List.getElem?_eq_some_iff.1 h1).1; simp at this; omega
    rw [h3] at h1
    rw [hl, h3] at h2
    simp at h1 h2
    subst h1; subst h2; exact hx
def specC (s : SpecD) (a : SpecA) (ks : List (Nat × Nat × Nat × Nat)) : Chs :=
  .sl a.na s.nodes.length a.nc 56 18 (nodesV s.nodes a.xs) :: .sl a.da s.defs.length a.dc 36 2 (defsV s.defs) :: nodesC s.nodes a.xs ks
theorem nodesC_snoc {d : NodeD} {x : NodeA} {k : Nat × Nat × Nat × Nat} (ds : List NodeD) : ∀ (xs : List NodeA) (ks : List (Nat × Nat × Nat × Nat)), xs.length = ds.length → ks.length = ds.length → nodesC (ds ++ [d]) (xs ++ [x]) (ks ++ [k]) = nodesC ds xs ks ++ nodeC d x k := by
  induction ds with
  | nil =>
    intro xs ks h1 h2
    obtain rfl := List.eq_nil_of_length_eq_zero h1
    obtain rfl := List.eq_nil_of_length_eq_zero h2
    show nodeC d x k ++ [] = [] ++ nodeC d x k
    rw [List.append_nil, List.nil_append]
  | cons d0 ds ih =>
    intro xs ks h1 h2
    cases xs with
    | nil => simp at h1
    | cons x0 xs =>
      cases ks with
      | nil => simp at h2
      | cons k0 ks =>
        show nodeC d0 x0 k0 ++ nodesC (ds ++ [d]) (xs ++ [x]) (ks ++ [k]) = nodeC d0 x0 k0 ++ nodesC ds xs ks ++ nodeC d x k
        rw [ih xs ks (by simpa using h1) (by simpa using h2), List.append_assoc]
theorem nodesV_snoc {d : NodeD} {x : NodeA} (ds : List NodeD) : ∀ (xs : List NodeA), xs.length = ds.length → nodesV (ds ++ [d]) (xs ++ [x]) = nodesV ds xs ++ nodeV d x := by
  induction ds with
  | nil =>
    intro xs h1
    obtain rfl := List.eq_nil_of_length_eq_zero h1
    show nodeV d x ++ [] = [] ++ nodeV d x
    rw [List.append_nil, List.nil_append]
  | cons d0 ds ih =>
    intro xs h1
    cases xs with
    | nil => simp at h1
    | cons x0 xs =>
      show nodeV d0 x0 ++ nodesV (ds ++ [d]) (xs ++ [x]) = nodeV d0 x0 ++ nodesV ds xs ++ nodeV d x
      rw [ih xs (by simpa using h1), List.append_assoc]
/-- So many that nothing is too great. -/
structure NodeSm (d : NodeD) : Prop where
  kids : d.kids.length ≤ 100000000
  last : d.last.length ≤ 100000000
  fields : d.fields.length ≤ 100000000
  cases : d.cases.length ≤ 100000000
section
variable {ro : Ro} {own r : Chs} {K : Value → Ro → Chs → Prop} {g : Chunk → Chs}
set_option maxHeartbeats 1000000 in
theorem sclone_ok {s : SpecD} {a : SpecA} (ho : SpecOk ro s a) (hn : s.nodes.length ≤ 100000 ∧ s.defs.length ≤ 100000) (hs : ∀ d ∈ s.nodes, NodeSm d)
    (hk : ∀ a' ks, a'.xs.length = s.nodes.length → ks.length = s.nodes.length → NodesClip s.nodes a'.xs → a'.nc ≤ maxLen → a'.dc ≤ maxLen → K (.agg (specV s a').toArray) ro (specC s a' ks ++ own)) : CallOk Tryz.prog 34 #[.agg (specV s a).toArray] ro own K := by
  have hr1 := ho.nodes
  have hr2 := ho.defs
  have hlen := ho.len
  refine CallOk.intro (args := [_]) (rs := [_]) T_ok Tryz.func34 Tryz.call34 rfl rfl (by kernel_rfl) rfl rfl ?_
  repeat (first | exact endA | refine wkG ?_ | refine opB (fun b => ?_) | refine opA (fun a' c' hc1 hc2 => ?_) | (show GJ _ _ _ _ _ _ _; first | (apply GJ.and; exact rfl; intro hg) | (apply GJ.or; exact rfl; intro hg) | refine GJ.t omAuto ?_ | refine GJ.f omAuto ?_ | refine GJ.ft omAuto ?_ | refine GJ.ff omAuto ?_))
  refine cloneD_ok hr2 (defsV_one _) (by omega) (fun da dc h1 h2 => ?_)
  repeat (first | exact endA | refine wkG ?_ | refine opB (fun b => ?_) | refine opA (fun a' c' hc1 hc2 => ?_) | (show GJ _ _ _ _ _ _ _; first | (apply GJ.and; exact rfl; intro hg) | (apply GJ.or; exact rfl; intro hg) | refine GJ.t omAuto ?_ | refine GJ.f omAuto ?_ | refine GJ.ft omAuto ?_ | refine GJ.ff omAuto ?_))
  rename_i b0 b1
  refine LoopOk.at (ι := Nat × List NodeA × List (Nat × Nat × Nat × Nat) × Option Addr × Nat × Nat × List Value × Chs) Keep.auto (fun (i, xs, ks, na, n1, nc, cs, cl) => [(13, .int .i64 (i : Int))]) (fun (i, xs, ks, na, n1, nc, cs, cl) => .blk b 26 [.slice na n1 nc, .slice da s.defs.length dc] :: .sl na n1 nc 56 18 cs :: .sl da s.defs.length dc 36 2 (defsV s.defs) :: .blk b1 26 [.slice none 0 0, .slice none 0 0] :: .blk b0 26 (specV s a) :: (cl ++ own)) (fun (i, xs, ks, na, n1, nc, cs, cl) => i ≤ s.nodes.length ∧ n1 = i ∧ xs.length = i ∧ ks.length = i ∧ n1 ≤ nc ∧ nc ≤ maxLen ∧ cs = nodesV (s.nodes.take i) xs ∧ cl.Perm (nodesC (s.nodes.take i) xs ks) ∧ NodesClip (s.nodes.take i) xs) (fun (i, xs, ks, na, n1, nc, cs, cl) => s.nodes.length - i) (0, [], [], none, 0, 0, [], []) ?_ Sub.auto Sup.auto ?_
  · exact ⟨by omega, rfl, rfl, rfl, by omega, by omega, by simp [nodesV], by simp [nodesC], fun i d x h => by simp at h⟩
  rintro ⟨i, xs, ks, na, n1, nc, cs, cl⟩ ⟨i1, rfl, i3, i4, i5, i6, rfl, i8, i9⟩
  dsimp only [List.cons_append, List.nil_append] at i1 i3 i4 i5 i6 i8 i9 ⊢
  repeat (first | exact endA | refine wkG ?_ | refine opB (fun b => ?_) | refine opA (fun a' c' hc1 hc2 => ?_) | (show GJ _ _ _ _ _ _ _; first | (apply GJ.and; exact rfl; intro hg) | (apply GJ.or; exact rfl; intro hg) | refine GJ.t omAuto ?_ | refine GJ.f omAuto ?_ | refine GJ.ft omAuto ?_ | refine GJ.ff omAuto ?_))
  refine Br.cases (fun hd => ?_) (fun hd => ?_)
  · obtain ⟨d, hd1⟩ : ∃ d, s.nodes[n1]? = some d := ⟨_, List.getElem?_eq_getElem (by omega)⟩
    obtain ⟨x, hx1⟩ : ∃ x, a.xs[n1]? = some x := ⟨_, List.getElem?_eq_getElem (by omega)⟩
    have hno := ho.each _ d x hd1 hx1
    have hdrop := nodesV_drop _ _ _ _ _ hd1 hx1
    have hsm := hs d (List.mem_of_getElem? hd1)
    have htk : s.nodes.take (n1 + 1) = s.nodes.take n1 ++ [d] := by rw [List.take_add_one, hd1]; rfl
    have hsm1 := hsm.kids
    have hsm2 := hsm.last
    have hsm3 := hsm.fields
    have hsm4 := hsm.cases
    repeat (first | exact endA | refine wkG ?_ | refine opB (fun b => ?_) | refine opA (fun a' c' hc1 hc2 => ?_) | (show GJ _ _ _ _ _ _ _; first | (apply GJ.and; exact rfl; intro hg) | (apply GJ.or; exact rfl; intro hg) | refine GJ.t omAuto ?_ | refine GJ.f omAuto ?_ | refine GJ.ft omAuto ?_ | refine GJ.ff omAuto ?_))
    rw [Int.toNat_natCast]
    refine OpOk.loadRow rfl rfl (LdN.at hr1 hdrop) rfl ?_
    repeat (first | exact endA | refine wkG ?_ | refine opB (fun b => ?_) | refine opA (fun a' c' hc1 hc2 => ?_) | (show GJ _ _ _ _ _ _ _; first | (apply GJ.and; exact rfl; intro hg) | (apply GJ.or; exact rfl; intro hg) | refine GJ.t omAuto ?_ | refine GJ.f omAuto ?_ | refine GJ.ft omAuto ?_ | refine GJ.ff omAuto ?_))
    refine Bs.all ?_
    repeat (first | exact endA | refine wkG ?_ | refine opB (fun b => ?_) | refine opA (fun a' c' hc1 hc2 => ?_) | (show GJ _ _ _ _ _ _ _; first | (apply GJ.and; exact rfl; intro hg) | (apply GJ.or; exact rfl; intro hg) | refine GJ.t omAuto ?_ | refine GJ.f omAuto ?_ | refine GJ.ft omAuto ?_ | refine GJ.ff omAuto ?_))
    refine own_ok hno ⟨hsm1, hsm2, hsm3, hsm4⟩ (fun x' k hcl => ?_)
    dsimp only [nodeC, List.cons_append, List.nil_append]
    repeat (first | exact endA | refine wkG ?_ | refine opB (fun b => ?_) | refine opA (fun a' c' hc1 hc2 => ?_) | (show GJ _ _ _ _ _ _ _; first | (apply GJ.and; exact rfl; intro hg) | (apply GJ.or; exact rfl; intro hg) | refine GJ.t omAuto ?_ | refine GJ.f omAuto ?_ | refine GJ.ft omAuto ?_ | refine GJ.ff omAuto ?_))
    refine Wk.id ⟨(n1 + 1, xs ++ [x'], ks ++ [k], _, _, _, _, nodeC d x' k ++ cl), ⟨rfl, ?_⟩, ?_, Sub.auto, Sup.auto⟩
    all_goals try dsimp only
    · refine ⟨by omega, rfl, by simp [i3], by simp [i4], by omega, by omega, ?_, ?_, ?_⟩
      · rw [htk, nodesV_snoc _ _ (by simp; omega)]; rfl
      · rw [htk, nodesC_snoc _ _ _ (by simp; omega) (by simp; omega)]
        exact ((i8.append_left _).trans List.perm_append_comm)
      · rw [htk]; exact i9.snoc (by simp; omega) hcl
    · omega
  · obtain rfl : n1 = s.nodes.length := by omega
    rw [List.take_length] at i8 i9 ⊢
    repeat (first | exact endA | refine wkG ?_ | refine opB (fun b => ?_) | refine opA (fun a' c' hc1 hc2 => ?_) | (show GJ _ _ _ _ _ _ _; first | (apply GJ.and; exact rfl; intro hg) | (apply GJ.or; exact rfl; intro hg) | refine GJ.t omAuto ?_ | refine GJ.f omAuto ?_ | refine GJ.ft omAuto ?_ | refine GJ.ff omAuto ?_))
    refine Wk.outS (own1 := .sl na s.nodes.length nc 56 18 (nodesV s.nodes xs) :: .sl da s.defs.length dc 36 2 (defsV s.defs) :: (cl ++ own)) Sup.auto ?_ (hk ⟨na, nc, da, dc, xs⟩ ks i3 i4 i9 i6 h2)
    exact ((i8.append_right own).cons _).cons _
end
end Go.Proofs.YtepdapdekaiioaaGreatDoor
end
section
/- Contracts of spec: what is made, and lasts; a builder. -/
namespace Go.Proofs.YtepdapdekaiioaaGreatDoor
open Go Go.E
set_option linter.unusedVariables false
set_option maxRecDepth 10000
theorem NodeOk.made {ro : Ro} {d : NodeD} {a : NodeA} {k : Nat × Nat × Nat × Nat} (hc : ClipA d a) (h : ∀ c ∈ nodeC d a k, c.holds ro) : NodeOk ro d a := by
  have h1 := Rs.last (h (.sl a.ka d.kids.length k.1 3 1 (kidsV d.kids)) (by simp [nodeC]))
  have h2 := Rs.last (h (.sl a.la d.last.length k.2.1 4 1 (lastV d.last)) (by simp [nodeC]))
  have h3 := Rs.last (h (.sl a.fa d.fields.length k.2.2.1 66 5 (fieldsV d.fields)) (by simp [nodeC]))
  have h4 := Rs.last (h (.sl a.ca d.cases.length k.2.2.2 97 2 (casesV d.cases)) (by simp [nodeC]))
  exact ⟨hc.kids ▸ h1.clip, hc.last ▸ h2.clip, hc.fields ▸ h3.clip, hc.cases ▸ h4.clip⟩
theorem NodeOk.le {ro ro' : Ro} {d : NodeD} {a : NodeA} (h : NodeOk ro d a) (hl : Le ro ro') : NodeOk ro' d a := ⟨h.kids.up, h.last.up, h.fields.up, h.cases.up⟩
theorem nodesC_mem : ∀ (ds : List NodeD) (xs : List NodeA) (ks : List (Nat × Nat × Nat × Nat)) (i : Nat) (d : NodeD) (x : NodeA), ks.length = ds.length → ds[i]? = some d → xs[i]? = some x → ∃ k, ∀ c ∈ nodeC d x k, c ∈ nodesC ds xs ks := by
  intro ds
  induction ds with
  | nil => intro xs ks i d x _ h; simp at h
  | cons d0 ds ih =>
    intro xs ks i d x hl h1 h2
    cases xs with
    | nil => simp at h2
    | cons x0 xs =>
      cases ks with
      | nil => simp at hl
      | cons k0 ks =>
        cases i with
        | zero =>
          simp at h1 h2; subst h1; subst h2
          exact ⟨k0, fun c hc => List.mem_append.2 (.inl hc)⟩
        | succ i =>
          obtain ⟨k, hk⟩ := ih xs ks i d x (by simpa using hl) (by simpa using h1) (by simpa using h2)
          exact ⟨k, fun c hc => List.mem_append.2 (.inr (hk c hc))⟩
theorem SpecOk.made {ro : Ro} {s : SpecD} {a : SpecA} {ks : List (Nat × Nat × Nat × Nat)} (h1 : a.xs.length = s.nodes.length) (h2 : ks.length = s.nodes.length) (hc : NodesClip s.nodes a.xs) (h : ∀ c ∈ specC s a ks, c.holds ro) : SpecOk ro s a :=
  ⟨h1, Rs.last (h (.sl a.na s.nodes.length a.nc 56 18 (nodesV s.nodes a.xs)) (by simp [specC])), fun i d x g1 g2 => by
    obtain ⟨k, hk⟩ := nodesC_mem _ _ _ i d x h2 g1 g2
    exact NodeOk.made (k := k) (hc i d x g1 g2) (fun c hc => h c (by simp [specC, hk c hc])), Rs.last (h (.sl a.da s.defs.length a.dc 36 2 (defsV s.defs)) (by simp [specC]))⟩
section
variable {ro : Ro} {own r : Chs} {K : Value → Ro → Chs → Prop} {g : Chunk → Chs}
theorem own_last {d : NodeD} {a : NodeA} (ho : NodeOk ro d a) (hs : NodeSm d) (hk : ∀ ro' a', Le ro ro' → NodeOk ro' d a' → K (.agg (nodeV d a').toArray) ro' own) : CallOk Tryz.prog 33 #[.agg (nodeV d a).toArray] ro own K :=
  CallOk.lastly (Q := fun v l => ∃ a' k, ClipA d a' ∧ v = .agg (nodeV d a').toArray ∧ l = nodeC d a' k) (own_ok ho ⟨hs.kids, hs.last, hs.fields, hs.cases⟩ (fun a' k hc => ⟨rfl, _, rfl, a', k, hc, rfl, rfl⟩)) (fun ro' v l hl hh ⟨a', k, hc, hv, he⟩ => by
    subst hv; subst he
    exact hk ro' a' hl (NodeOk.made hc hh))
theorem sclone_last {s : SpecD} {a : SpecA} (ho : SpecOk ro s a) (hn : s.nodes.length ≤ 100000 ∧ s.defs.length ≤ 100000) (hs : ∀ d ∈ s.nodes, NodeSm d) (hk : ∀ ro' a', Le ro ro' → SpecOk ro' s a' → K (.agg (specV s a').toArray) ro' own) :
    CallOk Tryz.prog 34 #[.agg (specV s a).toArray] ro own K :=
  CallOk.lastly (Q := fun v l => ∃ a' ks, a'.xs.length = s.nodes.length ∧ ks.length = s.nodes.length ∧ NodesClip s.nodes a'.xs ∧ v = .agg (specV s a').toArray ∧ l = specC s a' ks) (sclone_ok ho hn hs (fun a' ks h1 h2 h3 _ _ => ⟨rfl, _, rfl, a', ks, h1, h2, h3, rfl, rfl⟩)) (fun ro' v l hl hh ⟨a', ks, h1, h2, h3, hv, he⟩ => by
    subst hv; subst he
    exact hk ro' a' hl (SpecOk.made h1 h2 h3 hh))
/-- A builder's parts, what it has put together. -/
structure BuildOk (ro : Ro) (s : SpecD) (a : SpecA) : Prop where
  len : a.xs.length = s.nodes.length
  each : ∀ (i : Nat) (d : NodeD) (x : NodeA), s.nodes[i]? = some d → a.xs[i]? = some x → NodeOk ro d x
  nc : s.nodes.length ≤ a.nc ∧ a.nc ≤ maxLen
  dc : s.defs.length ≤ a.dc ∧ a.dc ≤ maxLen
theorem badd_ok {p : Nat} {s : SpecD} {a : SpecA} {d : NodeD} {x : NodeA} (hb : BuildOk ro s a) (hx : NodeOk ro d x) (hs : NodeSm d) (hn : s.nodes.length < 2048)
    (hk : ∀ ro' na' nc' x', Le ro ro' → BuildOk ro' ⟨s.nodes ++ [d], s.defs⟩ ⟨na', nc', a.da, a.dc, a.xs ++ [x']⟩ → K (.tuple #[.int .i64 (s.nodes.length : Nat), .int .i64 0]) ro' (.blk p 45 (specV ⟨s.nodes ++ [d], s.defs⟩ ⟨na', nc', a.da, a.dc, a.xs ++ [x']⟩) :: .sl na' (s.nodes ++ [d]).length nc' 56 18 (nodesV (s.nodes ++ [d]) (a.xs ++ [x'])) :: .sl a.da s.defs.length a.dc 36 2 (defsV s.defs) :: r)) :
    CallOk Tryz.prog 16 #[ptr' p, .agg (nodeV d x).toArray] ro (.blk p 45 (specV s a) :: .sl a.na s.nodes.length a.nc 56 18 (nodesV s.nodes a.xs) :: .sl a.da s.defs.length a.dc 36 2 (defsV s.defs) :: r) K := by
  refine CallOk.intro (args := [_, _]) (rs := [_, _]) T_ok Tryz.func16 Tryz.call16 rfl rfl (by kernel_rfl) rfl rfl ?_
  repeat (first | exact endA | refine wkG ?_ | refine opB (fun b => ?_) | refine opA (fun a' c' hc1 hc2 => ?_) | (show GJ _ _ _ _ _ _ _; first | (apply GJ.and; exact rfl; intro hg) | (apply GJ.or; exact rfl; intro hg) | refine GJ.t omAuto ?_ | refine GJ.f omAuto ?_ | refine GJ.ft omAuto ?_ | refine GJ.ff omAuto ?_))
  refine Bs.mk ⟨[.blk b 56 (nodeV d x), .blk p 45 (specV s a)], Sup.auto, ?_⟩
  repeat (first | exact endA | refine wkG ?_ | refine opB (fun b => ?_) | refine opA (fun a' c' hc1 hc2 => ?_) | (show GJ _ _ _ _ _ _ _; first | (apply GJ.and; exact rfl; intro hg) | (apply GJ.or; exact rfl; intro hg) | refine GJ.t omAuto ?_ | refine GJ.f omAuto ?_ | refine GJ.ft omAuto ?_ | refine GJ.ff omAuto ?_))
  refine own_last hx hs (fun ro1 x1 hl1 ho1 => ?_)
  refine wkS ?_
  refine opB (fun b2 => ?_)
  refine wkS ?_
  repeat (first | exact endA | refine wkG ?_ | refine opB (fun b => ?_) | refine opA (fun a' c' hc1 hc2 => ?_) | (show GJ _ _ _ _ _ _ _; first | (apply GJ.and; exact rfl; intro hg) | (apply GJ.or; exact rfl; intro hg) | refine GJ.t omAuto ?_ | refine GJ.f omAuto ?_ | refine GJ.ft omAuto ?_ | refine GJ.ff omAuto ?_))
  have e1 : (s.nodes ++ [d]).length = s.nodes.length + 1 := by simp
  have e2 : nodesV s.nodes a.xs ++ flat [.agg (nodeV d x1).toArray] = nodesV (s.nodes ++ [d]) (a.xs ++ [x1]) := by rw [nodesV_snoc _ _ hb.len]; rfl
  have hk2 := hk ro1 a' c' x1 hl1 ⟨by simp [hb.len], fun i d' x' g1 g2 => ?_, ⟨by rw [e1]; exact hc1, hc2⟩, hb.dc⟩
  · rw [e2]
    simp only [specV, e1] at hk2
    exact Wk.outV Sup.auto hk2 (congrArg (fun z => Value.tuple #[.int .i64 z, .int .i64 0]) (by omega))
  · rcases Nat.lt_or_ge i s.nodes.length with hi | hi
    · rw [List.getElem?_append_left hi] at g1
      rw [List.getElem?_append_left (by rw [hb.len]; exact hi)] at g2
      exact (hb.each i d' x' g1 g2).le hl1
    · rw [List.getElem?_append_right hi] at g1
      rw [List.getElem?_append_right (by rw [hb.len]; exact hi)] at g2
      have h3 : i - s.nodes.length = 0 := by have := (List.getElem?_eq_some_iff.1 g1).1; simp at this; omega
      rw [h3] at g1
      rw [hb.len, h3] at g2
      simp at g1 g2
      subst g1; subst g2; exact ho1
theorem bname_ok {p : Nat} {s : SpecD} {a : SpecA} {d : DefD} (hb : BuildOk ro s a) (hn : s.defs.length < 64)
    (hk : ∀ da' dc', BuildOk ro ⟨s.nodes, s.defs ++ [d]⟩ ⟨a.na, a.nc, da', dc', a.xs⟩ → K (.int .i64 0) ro (.blk p 45 (specV ⟨s.nodes, s.defs ++ [d]⟩ ⟨a.na, a.nc, da', dc', a.xs⟩) :: .sl a.na s.nodes.length a.nc 56 18 (nodesV s.nodes a.xs) :: .sl da' (s.defs ++ [d]).length dc' 36 2 (defsV (s.defs ++ [d])) :: r)) :
    CallOk Tryz.prog 17 #[ptr' p, str d.name, .int .i64 d.type] ro (.blk p 45 (specV s a) :: .sl a.na s.nodes.length a.nc 56 18 (nodesV s.nodes a.xs) :: .sl a.da s.defs.length a.dc 36 2 (defsV s.defs) :: r) K := by
  refine CallOk.intro (args := [_, _, _]) (rs := [_]) T_ok Tryz.func17 Tryz.call17 rfl rfl (by kernel_rfl) rfl rfl ?_
  repeat (first | exact endA | refine wkG ?_ | refine opB (fun b => ?_) | refine opA (fun a' c' hc1 hc2 => ?_) | (show GJ _ _ _ _ _ _ _; first | (apply GJ.and; exact rfl; intro hg) | (apply GJ.or; exact rfl; intro hg) | refine GJ.t omAuto ?_ | refine GJ.f omAuto ?_ | refine GJ.ft omAuto ?_ | refine GJ.ff omAuto ?_))
  have e1 : (s.defs ++ [d]).length = s.defs.length + 1 := by simp
  have e2 : defsV s.defs ++ flat [.agg #[str d.name, .int .i64 d.type]] = defsV (s.defs ++ [d]) := by simp [defsV, defV, flat, Value.cells]
  have hk2 := hk a' c' ⟨hb.len, hb.each, hb.nc, ⟨by rw [e1]; exact hc1, hc2⟩⟩
  simp only [specV, e1] at hk2
  rw [e2]
  exact Wk.outS Sup.auto (.refl _) hk2
/-- Its two slices. -/
def buildC (s : SpecD) (a : SpecA) : Chs := [.sl a.na s.nodes.length a.nc 56 18 (nodesV s.nodes a.xs), .sl a.da s.defs.length a.dc 36 2 (defsV s.defs)]
theorem BuildOk.spec {ro' : Ro} {s : SpecD} {a : SpecA} (hb : BuildOk ro s a) (hl : Le ro ro') (h : ∀ c ∈ buildC s a, c.holds ro') : SpecOk ro' s a :=
  ⟨hb.len, Rs.last (h (.sl a.na s.nodes.length a.nc 56 18 (nodesV s.nodes a.xs)) (by simp [buildC])), fun i d x g1 g2 => (hb.each i d x g1 g2).le hl, Rs.last (h (.sl a.da s.defs.length a.dc 36 2 (defsV s.defs)) (by simp [buildC]))⟩
theorem bspec_ok {p : Nat} {s : SpecD} {a : SpecA} (hb : BuildOk ro s a) (hn : s.nodes.length ≤ 100000 ∧ s.defs.length ≤ 100000) (hs : ∀ d ∈ s.nodes, NodeSm d)
    (h1 : checkD s ≠ 0 → K (.tuple #[.agg #[.slice none 0 0, .slice none 0 0], .int .i64 (checkD s)]) ro (.blk p 45 (specV s a) :: .sl a.na s.nodes.length a.nc 56 18 (nodesV s.nodes a.xs) :: .sl a.da s.defs.length a.dc 36 2 (defsV s.defs) :: r))
    (h2 : checkD s = 0 → ∀ a' ks, a'.xs.length = s.nodes.length → ks.length = s.nodes.length → NodesClip s.nodes a'.xs → a'.nc ≤ maxLen → a'.dc ≤ maxLen → K (.tuple #[.agg (specV s a').toArray, .int .i64 0]) ro (specC s a' ks ++ .blk p 45 (specV s a) :: .sl a.na s.nodes.length a.nc 56 18 (nodesV s.nodes a.xs) :: .sl a.da s.defs.length a.dc 36 2 (defsV s.defs) :: r)) :
    CallOk Tryz.prog 18 #[ptr' p] ro (.blk p 45 (specV s a) :: .sl a.na s.nodes.length a.nc 56 18 (nodesV s.nodes a.xs) :: .sl a.da s.defs.length a.dc 36 2 (defsV s.defs) :: r) K := by
  refine CallOk.intro (args := [_]) (rs := [_, _]) T_ok Tryz.func18 Tryz.call18 rfl rfl (by kernel_rfl) rfl rfl ?_
  repeat (first | exact endA | refine wkG ?_ | refine opB (fun b => ?_) | refine opA (fun a' c' hc1 hc2 => ?_) | (show GJ _ _ _ _ _ _ _; first | (apply GJ.and; exact rfl; intro hg) | (apply GJ.or; exact rfl; intro hg) | refine GJ.t omAuto ?_ | refine GJ.f omAuto ?_ | refine GJ.ft omAuto ?_ | refine GJ.ff omAuto ?_))
  refine CallOk.borrow (l := buildC s a) (u := .int .i64 (checkD s)) ((Take.two (.miss _ (.miss _ (.hit _ _))) (.miss _ (.miss _ (.hit _ _))))) (fun ro' hl hh => check_ok (hb.spec hl hh) ⟨rfl, rfl⟩) ?_
  repeat (first | exact endA | refine wkG ?_ | refine opB (fun b => ?_) | refine opA (fun a' c' hc1 hc2 => ?_) | (show GJ _ _ _ _ _ _ _; first | (apply GJ.and; exact rfl; intro hg) | (apply GJ.or; exact rfl; intro hg) | refine GJ.t omAuto ?_ | refine GJ.f omAuto ?_ | refine GJ.ft omAuto ?_ | refine GJ.ff omAuto ?_))
  refine Br.cases (fun hc => ?_) (fun hc => ?_)
  · repeat (first | exact endA | refine wkG ?_ | refine opB (fun b => ?_) | refine opA (fun a' c' hc1 hc2 => ?_) | (show GJ _ _ _ _ _ _ _; first | (apply GJ.and; exact rfl; intro hg) | (apply GJ.or; exact rfl; intro hg) | refine GJ.t omAuto ?_ | refine GJ.f omAuto ?_ | refine GJ.ft omAuto ?_ | refine GJ.ff omAuto ?_))
    exact Wk.outS Sup.auto (.refl _) (h1 hc)
  · repeat (first | exact endA | refine wkG ?_ | refine opB (fun b => ?_) | refine opA (fun a' c' hc1 hc2 => ?_) | (show GJ _ _ _ _ _ _ _; first | (apply GJ.and; exact rfl; intro hg) | (apply GJ.or; exact rfl; intro hg) | refine GJ.t omAuto ?_ | refine GJ.f omAuto ?_ | refine GJ.ft omAuto ?_ | refine GJ.ff omAuto ?_))
    refine CallOk.borrowN (l := buildC s a) (Q := fun v l => ∃ a' ks, a'.xs.length = s.nodes.length ∧ ks.length = s.nodes.length ∧ NodesClip s.nodes a'.xs ∧ a'.nc ≤ maxLen ∧ a'.dc ≤ maxLen ∧ v = .agg (specV s a').toArray ∧ l = specC s a' ks) ((Take.two (.miss _ (.miss _ (.hit _ _))) (.miss _ (.miss _ (.hit _ _))))) (fun ro' hl hh => sclone_ok (hb.spec hl hh) hn hs (fun a' ks g1 g2 g3 g4 g5 => ⟨rfl, _, rfl, a', ks, g1, g2, g3, g4, g5, rfl, rfl⟩)) (fun v l ⟨a', ks, g1, g2, g3, g4, g5, hv, he⟩ => ?_)
    subst hv; subst he
    have h3 := h2 (by omega) a' ks g1 g2 g3 g4 g5
    repeat (first | exact endA | refine wkG ?_ | refine opB (fun b => ?_) | refine opA (fun a' c' hc1 hc2 => ?_) | (show GJ _ _ _ _ _ _ _; first | (apply GJ.and; exact rfl; intro hg) | (apply GJ.or; exact rfl; intro hg) | refine GJ.t omAuto ?_ | refine GJ.f omAuto ?_ | refine GJ.ft omAuto ?_ | refine GJ.ff omAuto ?_))
    refine OpOk.perm List.perm_middle ?_
    repeat (first | exact endA | refine wkG ?_ | refine opB (fun b => ?_) | refine opA (fun a' c' hc1 hc2 => ?_) | (show GJ _ _ _ _ _ _ _; first | (apply GJ.and; exact rfl; intro hg) | (apply GJ.or; exact rfl; intro hg) | refine GJ.t omAuto ?_ | refine GJ.f omAuto ?_ | refine GJ.ft omAuto ?_ | refine GJ.ff omAuto ?_))
    exact Wk.outS (.drop _ (.all _)) (.refl _) h3
end
end Go.Proofs.YtepdapdekaiioaaGreatDoor
end
section
/- Contracts of spec: Same, of two that say the same. -/
namespace Go.Proofs.YtepdapdekaiioaaGreatDoor
open Go Go.E
set_option linter.unusedVariables false
set_option maxRecDepth 10000
/-- Two new variables, in whatever order they are made. -/
def both (x y : Nat) (t u : TypeId) (v w : List Value) (env : Env) (ro : Ro) (own : Chs) : Kt := fun env' ro' own' => ro' = ro ∧ ∃ b c : Nat, Sub2 ((x, .pointer (some ⟨b, 0, none⟩)) :: (y, .pointer (some ⟨c, 0, none⟩)) :: env) env' ∧ Sup own' (.blk b t v :: .blk c u w :: own)
theorem both.ok {P : Program} {T : TT} {all : List Oper} {B : Chs} {fo : Fo} {k : Kt} {env : Env} {ro : Ro} {own : Chs} (x y : Nat) (t u : TypeId) (v w : List Value)
    (h : vFo P T all B (both x y t u v w env ro own) fo env ro own) (hk : ∀ b c : Nat, k ((x, .pointer (some ⟨b, 0, none⟩)) :: (y, .pointer (some ⟨c, 0, none⟩)) :: env) ro (.blk b t v :: .blk c u w :: own)) : AllOk (fun Φ => vFo P T all B Φ fo env ro own) k ro :=
  ⟨_, h, fun env' ro' own' _ ⟨e, b, c, h1, h2⟩ => ⟨_, _, h1, h2, by rw [e]; exact hk b c⟩⟩
theorem both.a {P : Program} {T : TT} {all : List Oper} {B : Chs} {env : Env} {ro : Ro} {own own' : Chs} {x y b c : Nat} {t u : TypeId} {v w : List Value} (h : Sup own' (.blk b t v :: .blk c u w :: own)) : vFo P T all B (both x y t u v w env ro own) .leaf ((x, .pointer (some ⟨b, 0, none⟩)) :: (y, .pointer (some ⟨c, 0, none⟩)) :: env) ro own' :=
  ⟨rfl, b, c, fun _ _ h => h, h⟩
theorem both.b {P : Program} {T : TT} {all : List Oper} {B : Chs} {env : Env} {ro : Ro} {own own' : Chs} {x y b c : Nat} {t u : TypeId} {v w : List Value} (h : Sup own' (.blk b t v :: .blk c u w :: own)) (hxy : Nat.beq x y = false) : vFo P T all B (both x y t u v w env ro own) .leaf ((y, .pointer (some ⟨c, 0, none⟩)) :: (x, .pointer (some ⟨b, 0, none⟩)) :: env) ro own' :=
  ⟨rfl, b, c, fun k z hz => by
    change (bif Nat.beq x k then some _ else bif Nat.beq y k then some _ else Go.E.look env k) = some z at hz
    change (bif Nat.beq y k then some _ else bif Nat.beq x k then some _ else Go.E.look env k) = some z
    cases hx : Nat.beq x k with
    | false => rw [hx] at hz; exact hz
    | true =>
      rw [hx] at hz
      have e := Nat.eq_of_beq_eq_true hx
      subst e
      cases hy : Nat.beq y x with
      | false => exact hz
      | true => exact absurd hxy (by rw [Nat.eq_of_beq_eq_true hy, Nat.beq_refl]; simp), h⟩
theorem vOne.at {P : Program} {T : TT} {all : List Oper} {i : Nat} {k : Kt} {env : Env} {ro : Ro} {own : Chs} {d : Option Nat} {op : Op} {ty : TypeId} {pos : String} {af : Array Edge} (hi : all[i]? = some ⟨d, op, ty, pos, af, none⟩) (h : vOp P T op ty d k env ro own) : vOne P T all i k env ro own := by
  unfold vOne; rw [hi]; exact h
theorem vFo.cons {P : Program} {T : TT} {all : List Oper} {B : Chs} {Φ : Kt} {i : Nat} {s b : Fo} {env : Env} {ro : Ro} {own : Chs} (h1 : vOne P T all i (fun env' ro' own' => Stop (Sup own' B ∧ vFo P T all B Φ s env' ro' own')) env ro own) (h2 : vFo P T all B Φ b env ro own) : vFo P T all B Φ (.cons i s b) env ro own := ⟨h1, h2⟩
theorem vFo.nil {P : Program} {T : TT} {all : List Oper} {B : Chs} {Φ : Kt} {env : Env} {ro : Ro} {own : Chs} : vFo P T all B Φ .nil env ro own := trivial
theorem vFo.stop {own B : Chs} {p : Prop} (h1 : Sup own B) (h2 : p) : Stop (Sup own B ∧ p) := ⟨⟨h1, h2⟩⟩
theorem GJ.neF {α : Type} {x : α} {chk : Bool} {A B : Prop} {S R : Bool → Prop} [Decidable (x ≠ x)] (k : A) : GJ (decide (x ≠ x)) false chk A B S R := .split (fun _ => k) (fun e => by simp at e)
theorem Br.ne {α : Type} {x : α} {A B : Prop} [Decidable (x ≠ x)] (k : B) : Br (decide (x ≠ x)) A B := ⟨fun e => by simp at e, fun _ => k⟩
/-- Each type may be, its parts are ahead of it. -/
def Ahead (s : SpecD) : Prop := ∀ (i : Nat) (d : NodeD), s.nodes[i]? = some d → formD d = 0 ∧ ∀ k ∈ kidsD d, 0 ≤ k ∧ k < (i : Int)
theorem ownAll_mem {lim : Nat} : ∀ {ks : List Int} {o o' : List Bool}, ownAll lim ks o = .ok o' → ∀ k ∈ ks, 0 ≤ k ∧ k < (lim : Int)
  | [], o, o', h, k, hk => by cases hk
  | k0 :: ks, o, o', h, k, hk => by
    unfold ownAll at h
    split at h
    · cases h
    · split at h
      · cases h
      · rcases List.mem_cons.1 hk with rfl | hk
        · omega
        · exact ownAll_mem h k hk
theorem nodesAll_ahead : ∀ (ds : List NodeD) (n : Nat) (o o' : List Bool), nodesAll n ds o = .ok o' → ∀ (i : Nat) (d : NodeD), ds[i]? = some d → formD d = 0 ∧ ∀ k ∈ kidsD d, 0 ≤ k ∧ k < ((n + i : Nat) : Int) := by
  intro ds
  induction ds with
  | nil => intro n o o' _ i d h; simp at h
  | cons d0 ds ih =>
    intro n o o' h i d hd
    rw [nodesAll] at h
    split at h
    · cases h
    · rename_i hf
      cases ho : ownAll n (kidsD d0) o with
      | error e => rw [ho] at h; cases h
      | ok o1 =>
        rw [ho] at h
        cases i with
        | zero =>
          simp at hd; subst hd
          exact ⟨by omega, fun k hk => by have := ownAll_mem ho k hk; omega⟩
        | succ i =>
          have := ih (n + 1) o1 o' h i d (by simpa using hd)
          refine ⟨this.1, fun k hk => ?_⟩
          have := this.2 k hk
          omega
theorem ownAll_err {lim : Nat} {e : Int} : ∀ {ks : List Int} {o : List Bool}, ownAll lim ks o = .error e → e ≠ 0
  | [], o, h => by cases h
  | k0 :: ks, o, h => by
    unfold ownAll at h
    split at h
    · cases h; decide
    · split at h
      · cases h; decide
      · exact ownAll_err h
theorem nodesAll_err {e : Int} : ∀ {ds : List NodeD} {n : Nat} {o : List Bool}, nodesAll n ds o = .error e → e ≠ 0
  | [], n, o, h => by cases h
  | d :: ds, n, o, h => by
    rw [nodesAll] at h
    split at h
    · rename_i hf; cases h; exact hf
    · cases ho : ownAll n (kidsD d) o with
      | error e2 => rw [ho] at h; cases h; exact ownAll_err ho
      | ok o1 => rw [ho] at h; exact nodesAll_err h
theorem checkD_ok {s : SpecD} (h : checkD s = 0) : ∃ o o', nodesAll 0 s.nodes (List.replicate s.nodes.length false) = .ok o ∧ ownAll s.nodes.length (s.defs.map (·.type)) o = .ok o' ∧ s.nodes.length ≤ 2048 ∧ s.defs.length ≤ 64 ∧ s.defs ≠ [] ∧ false ∉ o' := by
  unfold checkD at h
  split at h
  · cases h
  · rename_i h0
    unfold checkE at h
    cases h1 : nodesAll 0 s.nodes (List.replicate s.nodes.length false) with
    | error e => rw [h1] at h; exact absurd h (nodesAll_err h1)
    | ok o =>
      rw [h1] at h
      simp only at h
      cases h2 : ownAll s.nodes.length (s.defs.map (·.type)) o with
      | error e => rw [h2] at h; exact absurd h (ownAll_err h2)
      | ok o' =>
        rw [h2] at h
        simp only at h
        refine ⟨o, o', rfl, h2, by omega, by omega, fun e => by rw [e] at h0; simp at h0, fun hm => ?_⟩
        rw [if_pos hm] at h
        cases h
theorem Ahead.of {s : SpecD} (h : checkD s = 0) : Ahead s := by
  obtain ⟨o, o', h1, _⟩ := checkD_ok h
  intro i d hd
  have := nodesAll_ahead _ _ _ _ h1 i d hd
  simpa using this
section
variable {ro : Ro} {own r : Chs} {K : Value → Ro → Chs → Prop} {g : Chunk → Chs}
theorem equalB_ok {a a2 : Option Addr} {n c c2 : Nat} {l : List Bool} (hr : Rs ro a n c 1 (lastV l)) (hr2 : Rs ro a2 n c2 1 (lastV l)) (hk : K (.bool true) ro own) : CallOk Tryz.prog 52 #[.slice a n c, .slice a2 n c2] ro own K := by
  have hl : l.length = n := by have := hr.n1; simpa [lastV] using this
  have hm := hr.max
  have hle := hr.le
  unfold maxLen at hm
  refine CallOk.intro (args := [_, _]) (rs := [_]) T_ok Tryz.func52 Tryz.call52 rfl rfl (by kernel_rfl) rfl rfl ?_
  repeat (first | exact endA | refine wkG ?_ | refine opB (fun b => ?_) | refine opA (fun a' c' hc1 hc2 => ?_) | (show GJ _ _ _ _ _ _ _; first | (apply GJ.and; exact rfl; intro hg) | (apply GJ.or; exact rfl; intro hg) | refine GJ.t omAuto ?_ | refine GJ.f omAuto ?_ | refine GJ.ft omAuto ?_ | refine GJ.ff omAuto ?_))
  refine LoopOk.at (ι := Nat) Keep.auto (fun i => [(13, .int .i64 (i : Int))]) (fun i => own) (fun i => i ≤ n) (fun i => n - i) 0 ?_ Sub.auto Sup.auto ?_
  · omega
  rintro i i1
  dsimp only [List.cons_append, List.nil_append]
  repeat (first | exact endA | refine wkG ?_ | refine opB (fun b => ?_) | refine opA (fun a' c' hc1 hc2 => ?_) | (show GJ _ _ _ _ _ _ _; first | (apply GJ.and; exact rfl; intro hg) | (apply GJ.or; exact rfl; intro hg) | refine GJ.t omAuto ?_ | refine GJ.f omAuto ?_ | refine GJ.ft omAuto ?_ | refine GJ.ff omAuto ?_))
  refine Br.cases (fun hc => ?_) (fun hc => ?_)
  · repeat (first | exact endA | refine wkG ?_ | refine opB (fun b => ?_) | refine opA (fun a' c' hc1 hc2 => ?_) | (show GJ _ _ _ _ _ _ _; first | (apply GJ.and; exact rfl; intro hg) | (apply GJ.or; exact rfl; intro hg) | refine GJ.t omAuto ?_ | refine GJ.f omAuto ?_ | refine GJ.ft omAuto ?_ | refine GJ.ff omAuto ?_))
    refine Br.f (fun h => h rfl) ?_
    repeat (first | exact endA | refine wkG ?_ | refine opB (fun b => ?_) | refine opA (fun a' c' hc1 hc2 => ?_) | (show GJ _ _ _ _ _ _ _; first | (apply GJ.and; exact rfl; intro hg) | (apply GJ.or; exact rfl; intro hg) | refine GJ.t omAuto ?_ | refine GJ.f omAuto ?_ | refine GJ.ft omAuto ?_ | refine GJ.ff omAuto ?_))
    refine Wk.id ⟨i + 1, ⟨rfl, ?_⟩, ?_, Sub.auto, Sup.auto⟩
    all_goals try dsimp only
    · omega
    · omega
  · obtain rfl : i = n := by omega
    repeat (first | exact endA | refine wkG ?_ | refine opB (fun b => ?_) | refine opA (fun a' c' hc1 hc2 => ?_) | (show GJ _ _ _ _ _ _ _; first | (apply GJ.and; exact rfl; intro hg) | (apply GJ.or; exact rfl; intro hg) | refine GJ.t omAuto ?_ | refine GJ.f omAuto ?_ | refine GJ.ft omAuto ?_ | refine GJ.ff omAuto ?_))
    exact Wk.outS Sup.auto (.refl _) hk
set_option maxHeartbeats 2000000 in
theorem same_ok {s : SpecD} {a a2 : SpecA} (ho : SpecOk ro s a) (ho2 : SpecOk ro s a2) (hv : Ahead s) : ∀ (n i : Nat), i < n → i < s.nodes.length → ∀ (ro' : Ro) (own : Chs) (K : Value → Ro → Chs → Prop) [Leq ro ro'], K (.bool true) ro' own → CallOk Tryz.prog 30 #[.agg (specV s a).toArray, .agg (specV s a2).toArray, .int .i64 (i : Nat), .int .i64 (i : Nat)] ro' own K := by
  intro n
  induction n with
  | zero => intro i h; omega
  | succ n ih =>
    intro i hin hi ro' own K hle hk
    have hr1 : Rs ro' a.na s.nodes.length a.nc 18 (nodesV s.nodes a.xs) := ho.nodes.up
    have hr2 : Rs ro' a2.na s.nodes.length a2.nc 18 (nodesV s.nodes a2.xs) := ho2.nodes.up
    have hm := hr1.max
    have hm2 := hr1.le
    unfold maxLen at hm
    obtain ⟨d, hd⟩ : ∃ d, s.nodes[i]? = some d := ⟨_, List.getElem?_eq_getElem hi⟩
    obtain ⟨x, hx⟩ : ∃ x, a.xs[i]? = some x := ⟨_, List.getElem?_eq_getElem (by rw [ho.len]; exact hi)⟩
    obtain ⟨x2, hx2⟩ : ∃ x, a2.xs[i]? = some x := ⟨_, List.getElem?_eq_getElem (by rw [ho2.len]; exact hi)⟩
    have hn1 := ho.each i d x hd hx
    have hn2 := ho2.each i d x2 hd hx2
    have hN1 : NodeOk ro' d x := ⟨hn1.kids.up, hn1.last.up, hn1.fields.up, hn1.cases.up⟩
    have hN2 : NodeOk ro' d x2 := ⟨hn2.kids.up, hn2.last.up, hn2.fields.up, hn2.cases.up⟩
    have hdr1 := nodesV_drop _ _ _ _ _ hd hx
    have hdr2 := nodesV_drop _ _ _ _ _ hd hx2
    obtain ⟨hf, hks⟩ := hv i d hd
    have hsm := form_small hf
    refine CallOk.intro (args := [_, _, _, _]) (rs := [_]) T_ok Tryz.func30 Tryz.call30 rfl rfl (by kernel_rfl) rfl rfl ?_
    repeat (first | exact endA | refine wkG ?_ | refine opB (fun b => ?_) | refine opA (fun a' c' hc1 hc2 => ?_) | (show GJ _ _ _ _ _ _ _; first | (apply GJ.and; exact rfl; intro hg) | (apply GJ.or; exact rfl; intro hg) | refine GJ.t omAuto ?_ | refine GJ.f omAuto ?_ | refine GJ.ft omAuto ?_ | refine GJ.ff omAuto ?_))
    refine Bs.all ?_
    repeat (first | exact endA | refine wkG ?_ | refine opB (fun b => ?_) | refine opA (fun a' c' hc1 hc2 => ?_) | (show GJ _ _ _ _ _ _ _; first | (apply GJ.and; exact rfl; intro hg) | (apply GJ.or; exact rfl; intro hg) | refine GJ.t omAuto ?_ | refine GJ.f omAuto ?_ | refine GJ.ft omAuto ?_ | refine GJ.ff omAuto ?_))
    rw [Int.toNat_natCast]
    refine QOk.loadRow rfl rfl (LdN.at hr1 hdr1) rfl ?_
    repeat (first | exact endA | refine wkG ?_ | refine opB (fun b => ?_) | refine opA (fun a' c' hc1 hc2 => ?_) | (show GJ _ _ _ _ _ _ _; first | (apply GJ.and; exact rfl; intro hg) | (apply GJ.or; exact rfl; intro hg) | refine GJ.t omAuto ?_ | refine GJ.f omAuto ?_ | refine GJ.ft omAuto ?_ | refine GJ.ff omAuto ?_))
    rw [Int.toNat_natCast]
    refine QOk.loadRow rfl rfl (LdN.at hr2 hdr2) rfl ?_
    repeat (first | exact endA | refine wkG ?_ | refine opB (fun b => ?_) | refine opA (fun a' c' hc1 hc2 => ?_) | (show GJ _ _ _ _ _ _ _; first | (apply GJ.and; exact rfl; intro hg) | (apply GJ.or; exact rfl; intro hg) | refine GJ.t omAuto ?_ | refine GJ.f omAuto ?_ | refine GJ.ft omAuto ?_ | refine GJ.ff omAuto ?_))
    refine both.ok 9 10 56 56 (nodeV d x) (nodeV d x2) ?_ (fun b3 b => ?_)
    · repeat' (first | exact vFo.nil | refine vFo.cons (vOne.at (by rfl) ?_) ?_ | exact both.a Sup.auto | exact both.b Sup.auto rfl | refine vFo.stop Sup.auto ?_ | (show Stop (OpOk _ _ _ _ _ _ _); refine Stop.mk ?_) | (show OpOk _ _ _ _ _ _ _; first | refine opB (fun b => ?_) | refine OpOk.storeRow rfl rfl rfl rfl (by rfl) rfl ?_))
    rename_i b1 b2
    repeat (first | exact endA | refine wkU ?_ | (show QOk _ _ _ _ _ _ _; refine QOk.build rfl rfl Nf.auto ?_) | (show GJ _ _ _ _ _ _ _; first | with_reducible refine GJ.neF ?_ | with_reducible refine GJ.neT ?_) | (show Br _ _ _; with_reducible refine Br.ne ?_) | refine opB (fun b => ?_) | refine opA (fun a' c' hc1 hc2 => ?_) | (apply GJ.and; exact rfl; intro hg) | (apply GJ.or; exact rfl; intro hg))
    refine OpOk.neqStruct rfl rfl rfl rfl (by kernel_rfl) (by kernel_rfl) (by kernel_rfl) ?_
    repeat (first | exact endA | refine wkU ?_ | (show QOk _ _ _ _ _ _ _; refine QOk.build rfl rfl Nf.auto ?_) | (show GJ _ _ _ _ _ _ _; first | with_reducible refine GJ.neF ?_ | with_reducible refine GJ.neT ?_) | (show Br _ _ _; with_reducible refine Br.ne ?_) | refine opB (fun b => ?_) | refine opA (fun a' c' hc1 hc2 => ?_) | (apply GJ.and; exact rfl; intro hg) | (apply GJ.or; exact rfl; intro hg))
    refine equalB_ok hn1.last.up hn2.last.up ?_
    repeat (first | exact endA | refine wkU ?_ | (show QOk _ _ _ _ _ _ _; refine QOk.build rfl rfl Nf.auto ?_) | (show GJ _ _ _ _ _ _ _; first | with_reducible refine GJ.neF ?_ | with_reducible refine GJ.neT ?_) | (show Br _ _ _; with_reducible refine Br.ne ?_) | refine opB (fun b => ?_) | refine opA (fun a' c' hc1 hc2 => ?_) | (apply GJ.and; exact rfl; intro hg) | (apply GJ.or; exact rfl; intro hg))
    refine Br.f (by simp) ?_
    repeat (first | exact endA | refine wkU ?_ | (show QOk _ _ _ _ _ _ _; refine QOk.build rfl rfl Nf.auto ?_) | (show GJ _ _ _ _ _ _ _; first | with_reducible refine GJ.neF ?_ | with_reducible refine GJ.neT ?_) | (show Br _ _ _; with_reducible refine Br.ne ?_) | refine opB (fun b => ?_) | refine opA (fun a' c' hc1 hc2 => ?_) | (apply GJ.and; exact rfl; intro hg) | (apply GJ.or; exact rfl; intro hg))
    refine Bs.mk ⟨[.blk b 56 (nodeV d x2), .blk b3 56 (nodeV d x)], Sup.auto, ?_⟩
    repeat (first | exact endA | refine wkU ?_ | (show QOk _ _ _ _ _ _ _; refine QOk.build rfl rfl Nf.auto ?_) | (show GJ _ _ _ _ _ _ _; first | with_reducible refine GJ.neF ?_ | with_reducible refine GJ.neT ?_) | (show Br _ _ _; with_reducible refine Br.ne ?_) | refine opB (fun b => ?_) | refine opA (fun a' c' hc1 hc2 => ?_) | (apply GJ.and; exact rfl; intro hg) | (apply GJ.or; exact rfl; intro hg))
    refine kids_ok hN1 (by omega) (fun k1 n1 c1 g1 g2 g3 => ?_)
    subst g1
    repeat (first | exact endA | refine wkU ?_ | (show QOk _ _ _ _ _ _ _; refine QOk.build rfl rfl Nf.auto ?_) | (show GJ _ _ _ _ _ _ _; first | with_reducible refine GJ.neF ?_ | with_reducible refine GJ.neT ?_) | (show Br _ _ _; with_reducible refine Br.ne ?_) | refine opB (fun b => ?_) | refine opA (fun a' c' hc1 hc2 => ?_) | (apply GJ.and; exact rfl; intro hg) | (apply GJ.or; exact rfl; intro hg))
    refine kids_ok hN2 (by omega) (fun k2 n2 c2 g4 g5 g6 => ?_)
    subst g4
    repeat (first | exact endA | refine wkU ?_ | (show QOk _ _ _ _ _ _ _; refine QOk.build rfl rfl Nf.auto ?_) | (show GJ _ _ _ _ _ _ _; first | with_reducible refine GJ.neF ?_ | with_reducible refine GJ.neT ?_) | (show Br _ _ _; with_reducible refine Br.ne ?_) | refine opB (fun b => ?_) | refine opA (fun a' c' hc1 hc2 => ?_) | (apply GJ.and; exact rfl; intro hg) | (apply GJ.or; exact rfl; intro hg))
    have hF1 := hN1.fields
    have hF2 := hN2.fields
    have hC1 := hN1.cases
    have hC2 := hN2.cases
    refine LoopOk.at (ι := Nat) Keep.auto (fun j => [(150, .int .i64 (j : Int))]) (fun j => .sl k2 (kidsD d).length c2 3 1 (kidsV (kidsD d)) :: .sl k1 (kidsD d).length c1 3 1 (kidsV (kidsD d)) :: .blk b 56 (nodeV d x2) :: .blk b3 56 (nodeV d x) :: .blk b2 26 (specV s a2) :: .blk b1 26 (specV s a) :: own) (fun j => j ≤ d.fields.length) (fun j => d.fields.length - j) 0 ?_ Sub.auto Sup.auto ?_
    · omega
    rintro j j1
    dsimp only [List.cons_append, List.nil_append]
    repeat (first | exact endA | refine wkG ?_ | refine opB (fun b => ?_) | refine opA (fun a' c' hc1 hc2 => ?_) | (show GJ _ _ _ _ _ _ _; first | (apply GJ.and; exact rfl; intro hg) | (apply GJ.or; exact rfl; intro hg) | refine GJ.t omAuto ?_ | refine GJ.f omAuto ?_ | refine GJ.ft omAuto ?_ | refine GJ.ff omAuto ?_))
    refine Br.cases (fun hc => ?_) (fun hc => ?_)
    · have hdf := fieldsV_drop d.fields (i := j) (by omega)
      generalize d.fields[j]'(by omega) = f at hdf
      repeat (first | exact endA | refine wkU ?_ | (show QOk _ _ _ _ _ _ _; refine QOk.build rfl rfl Nf.auto ?_) | (show GJ _ _ _ _ _ _ _; first | with_reducible refine GJ.neF ?_ | with_reducible refine GJ.neT ?_) | (show Br _ _ _; with_reducible refine Br.ne ?_) | refine opB (fun b => ?_) | refine opA (fun a' c' hc1 hc2 => ?_) | (apply GJ.and; exact rfl; intro hg) | (apply GJ.or; exact rfl; intro hg))
      refine Bs.mk ⟨[.blk b 56 (nodeV d x2), .blk b3 56 (nodeV d x)], Sup.auto, ?_⟩
      repeat (first | exact endA | refine wkU ?_ | (show QOk _ _ _ _ _ _ _; refine QOk.build rfl rfl Nf.auto ?_) | (show GJ _ _ _ _ _ _ _; first | with_reducible refine GJ.neF ?_ | with_reducible refine GJ.neT ?_) | (show Br _ _ _; with_reducible refine Br.ne ?_) | refine opB (fun b => ?_) | refine opA (fun a' c' hc1 hc2 => ?_) | (apply GJ.and; exact rfl; intro hg) | (apply GJ.or; exact rfl; intro hg))
      rw [Int.toNat_natCast]
      refine QOk.loadRow rfl rfl (LdN.at hF1 hdf) rfl ?_
      repeat (first | exact endA | refine wkU ?_ | (show QOk _ _ _ _ _ _ _; refine QOk.build rfl rfl Nf.auto ?_) | (show GJ _ _ _ _ _ _ _; first | with_reducible refine GJ.neF ?_ | with_reducible refine GJ.neT ?_) | (show Br _ _ _; with_reducible refine Br.ne ?_) | refine opB (fun b => ?_) | refine opA (fun a' c' hc1 hc2 => ?_) | (apply GJ.and; exact rfl; intro hg) | (apply GJ.or; exact rfl; intro hg))
      rw [Int.toNat_natCast]
      refine QOk.loadRow rfl rfl (LdN.at hF2 hdf) rfl ?_
      repeat (first | exact endA | refine wkU ?_ | (show QOk _ _ _ _ _ _ _; refine QOk.build rfl rfl Nf.auto ?_) | (show GJ _ _ _ _ _ _ _; first | with_reducible refine GJ.neF ?_ | with_reducible refine GJ.neT ?_) | (show Br _ _ _; with_reducible refine Br.ne ?_) | refine opB (fun b => ?_) | refine opA (fun a' c' hc1 hc2 => ?_) | (apply GJ.and; exact rfl; intro hg) | (apply GJ.or; exact rfl; intro hg))
      refine both.ok 14 15 66 66 (fieldV f) (fieldV f) ?_ (fun b5 b6 => ?_)
      · repeat' (first | exact vFo.nil | refine vFo.cons (vOne.at (by rfl) ?_) ?_ | exact both.a Sup.auto | exact both.b Sup.auto rfl | refine vFo.stop Sup.auto ?_ | (show Stop (OpOk _ _ _ _ _ _ _); refine Stop.mk ?_) | (show OpOk _ _ _ _ _ _ _; first | refine opB (fun b => ?_) | refine OpOk.storeRow rfl rfl rfl rfl (by rfl) rfl ?_))
      repeat (first | exact endA | refine wkU ?_ | (show QOk _ _ _ _ _ _ _; refine QOk.build rfl rfl Nf.auto ?_) | (show GJ _ _ _ _ _ _ _; first | with_reducible refine GJ.neF ?_ | with_reducible refine GJ.neT ?_) | (show Br _ _ _; with_reducible refine Br.ne ?_) | refine opB (fun b => ?_) | refine opA (fun a' c' hc1 hc2 => ?_) | (apply GJ.and; exact rfl; intro hg) | (apply GJ.or; exact rfl; intro hg))
      refine Wk.id ⟨j + 1, ⟨rfl, ?_⟩, ?_, Sub.auto, Sup.auto⟩
      all_goals try dsimp only
      · omega
      · omega
    · obtain rfl : j = d.fields.length := by omega
      repeat (first | exact endA | refine wkU ?_ | (show QOk _ _ _ _ _ _ _; refine QOk.build rfl rfl Nf.auto ?_) | (show GJ _ _ _ _ _ _ _; first | with_reducible refine GJ.neF ?_ | with_reducible refine GJ.neT ?_) | (show Br _ _ _; with_reducible refine Br.ne ?_) | refine opB (fun b => ?_) | refine opA (fun a' c' hc1 hc2 => ?_) | (apply GJ.and; exact rfl; intro hg) | (apply GJ.or; exact rfl; intro hg))
      refine LoopOk.at (ι := Nat) Keep.auto (fun j => [(193, .int .i64 (j : Int))]) (fun j => .sl k2 (kidsD d).length c2 3 1 (kidsV (kidsD d)) :: .sl k1 (kidsD d).length c1 3 1 (kidsV (kidsD d)) :: .blk b 56 (nodeV d x2) :: .blk b3 56 (nodeV d x) :: .blk b2 26 (specV s a2) :: .blk b1 26 (specV s a) :: own) (fun j => j ≤ d.cases.length) (fun j => d.cases.length - j) 0 ?_ Sub.auto Sup.auto ?_
      · omega
      rintro j j1
      dsimp only [List.cons_append, List.nil_append]
      repeat (first | exact endA | refine wkG ?_ | refine opB (fun b => ?_) | refine opA (fun a' c' hc1 hc2 => ?_) | (show GJ _ _ _ _ _ _ _; first | (apply GJ.and; exact rfl; intro hg) | (apply GJ.or; exact rfl; intro hg) | refine GJ.t omAuto ?_ | refine GJ.f omAuto ?_ | refine GJ.ft omAuto ?_ | refine GJ.ff omAuto ?_))
      refine Br.cases (fun hc => ?_) (fun hc => ?_)
      · have hdc := casesV_drop d.cases (i := j) (by omega)
        generalize d.cases[j]'(by omega) = f at hdc
        have hcell : (casesV d.cases)[j * 2 + 0]? = some (.int .u64 (f.value : Nat)) := by
          have := congrArg (·[0]?) hdc
          simpa [caseV, List.getElem?_take, List.getElem?_drop] using this
        repeat (first | exact endA | refine wkU ?_ | (show QOk _ _ _ _ _ _ _; refine QOk.build rfl rfl Nf.auto ?_) | (show GJ _ _ _ _ _ _ _; first | with_reducible refine GJ.neF ?_ | with_reducible refine GJ.neT ?_) | (show Br _ _ _; with_reducible refine Br.ne ?_) | refine opB (fun b => ?_) | refine opA (fun a' c' hc1 hc2 => ?_) | (apply GJ.and; exact rfl; intro hg) | (apply GJ.or; exact rfl; intro hg))
        rw [Int.toNat_natCast, Nat.add_assoc]
        refine QOk.load rfl rfl (Ld.rs hC1 hcell) ?_
        repeat (first | exact endA | refine wkU ?_ | (show QOk _ _ _ _ _ _ _; refine QOk.build rfl rfl Nf.auto ?_) | (show GJ _ _ _ _ _ _ _; first | with_reducible refine GJ.neF ?_ | with_reducible refine GJ.neT ?_) | (show Br _ _ _; with_reducible refine Br.ne ?_) | refine opB (fun b => ?_) | refine opA (fun a' c' hc1 hc2 => ?_) | (apply GJ.and; exact rfl; intro hg) | (apply GJ.or; exact rfl; intro hg))
        rw [Int.toNat_natCast, Nat.add_assoc]
        refine QOk.load rfl rfl (Ld.rs hC2 hcell) ?_
        repeat (first | exact endA | refine wkU ?_ | (show QOk _ _ _ _ _ _ _; refine QOk.build rfl rfl Nf.auto ?_) | (show GJ _ _ _ _ _ _ _; first | with_reducible refine GJ.neF ?_ | with_reducible refine GJ.neT ?_) | (show Br _ _ _; with_reducible refine Br.ne ?_) | refine opB (fun b => ?_) | refine opA (fun a' c' hc1 hc2 => ?_) | (apply GJ.and; exact rfl; intro hg) | (apply GJ.or; exact rfl; intro hg))
        refine Wk.id ⟨j + 1, ⟨rfl, ?_⟩, ?_, Sub.auto, Sup.auto⟩
        all_goals try dsimp only
        · omega
        · omega
      · obtain rfl : j = d.cases.length := by omega
        repeat (first | exact endA | refine wkU ?_ | (show QOk _ _ _ _ _ _ _; refine QOk.build rfl rfl Nf.auto ?_) | (show GJ _ _ _ _ _ _ _; first | with_reducible refine GJ.neF ?_ | with_reducible refine GJ.neT ?_) | (show Br _ _ _; with_reducible refine Br.ne ?_) | refine opB (fun b => ?_) | refine opA (fun a' c' hc1 hc2 => ?_) | (apply GJ.and; exact rfl; intro hg) | (apply GJ.or; exact rfl; intro hg))
        refine LoopOk.at (ι := Nat) Keep.auto (fun j => [(212, .int .i64 (j : Int))]) (fun j => .sl k2 (kidsD d).length c2 3 1 (kidsV (kidsD d)) :: .sl k1 (kidsD d).length c1 3 1 (kidsV (kidsD d)) :: .blk b 56 (nodeV d x2) :: .blk b3 56 (nodeV d x) :: .blk b2 26 (specV s a2) :: .blk b1 26 (specV s a) :: own) (fun j => j ≤ (kidsD d).length) (fun j => (kidsD d).length - j) 0 ?_ Sub.auto Sup.auto ?_
        · omega
        rintro j j1
        dsimp only [List.cons_append, List.nil_append]
        repeat (first | exact endA | refine wkG ?_ | refine opB (fun b => ?_) | refine opA (fun a' c' hc1 hc2 => ?_) | (show GJ _ _ _ _ _ _ _; first | (apply GJ.and; exact rfl; intro hg) | (apply GJ.or; exact rfl; intro hg) | refine GJ.t omAuto ?_ | refine GJ.f omAuto ?_ | refine GJ.ft omAuto ?_ | refine GJ.ff omAuto ?_))
        refine Br.cases (fun hc => ?_) (fun hc => ?_)
        · have hmem : (kidsD d)[j]! ∈ kidsD d := by rw [List.getElem!_eq_getElem?_getD, List.getElem?_eq_getElem (by omega)]; exact List.getElem_mem _
          have hkk := hks _ hmem
          obtain ⟨m, hm'⟩ : ∃ m : Nat, (kidsD d)[j]! = (m : Int) := ⟨((kidsD d)[j]!).toNat, by omega⟩
          repeat (first | exact endA | refine wkU ?_ | (show QOk _ _ _ _ _ _ _; refine QOk.build rfl rfl Nf.auto ?_) | (show GJ _ _ _ _ _ _ _; first | with_reducible refine GJ.neF ?_ | with_reducible refine GJ.neT ?_) | (show Br _ _ _; with_reducible refine Br.ne ?_) | refine opB (fun b => ?_) | refine opA (fun a' c' hc1 hc2 => ?_) | (apply GJ.and; exact rfl; intro hg) | (apply GJ.or; exact rfl; intro hg))
          rw [Int.toNat_natCast, hm']
          have g3' := g3
          unfold maxLen at g3'
          refine ih m (by omega) (by omega) ro' _ _ ?_
          repeat (first | exact endA | refine wkU ?_ | (show QOk _ _ _ _ _ _ _; refine QOk.build rfl rfl Nf.auto ?_) | (show GJ _ _ _ _ _ _ _; first | with_reducible refine GJ.neF ?_ | with_reducible refine GJ.neT ?_) | (show Br _ _ _; with_reducible refine Br.ne ?_) | refine opB (fun b => ?_) | refine opA (fun a' c' hc1 hc2 => ?_) | (apply GJ.and; exact rfl; intro hg) | (apply GJ.or; exact rfl; intro hg))
          refine Wk.id ⟨j + 1, ⟨rfl, ?_⟩, ?_, Sub.auto, Sup.auto⟩
          all_goals try dsimp only
          · omega
          · omega
        · obtain rfl : j = (kidsD d).length := by omega
          repeat (first | exact endA | refine wkU ?_ | (show QOk _ _ _ _ _ _ _; refine QOk.build rfl rfl Nf.auto ?_) | (show GJ _ _ _ _ _ _ _; first | with_reducible refine GJ.neF ?_ | with_reducible refine GJ.neT ?_) | (show Br _ _ _; with_reducible refine Br.ne ?_) | refine opB (fun b => ?_) | refine opA (fun a' c' hc1 hc2 => ?_) | (apply GJ.and; exact rfl; intro hg) | (apply GJ.or; exact rfl; intro hg))
          exact Wk.outS Sup.auto (.refl _) hk
end
end Go.Proofs.YtepdapdekaiioaaGreatDoor
end
section
/- Two lists of tokens read one behind the other. No program in sight. -/
namespace Go.Proofs.YtepdapdekaiioaaGreatDoor
open Go Go.E
set_option linter.unusedVariables false
set_option linter.unusedSimpArgs false
set_option linter.unusedSectionVars false
set_option maxRecDepth 10000
section
variable {wideP : List UInt8 → Nat × Nat} {E F : PE} {n m : Nat} {B : List NodeD} {D : List DefD} {s t : PS}
theorem must_is {x : List UInt8} (h : (mustP E x s).code = 0) : mustP E x s = stepP s := by
  unfold mustP signP eatP at h ⊢
  by_cases hi : isP E 4 x s = true
  · simp [hi]
  · simp only [hi, Bool.false_eq_true, if_false] at h
    exact absurd h (wrong_any (by decide))
/-- What a name's line adds. -/
theorem def_some (h : (defP wideP E s).code = 0) : ∃ s1 : PS, s1 = mustP E [59] (kindP wideP E 25 (mustP E [61] (nameP E s).2)).2 ∧ s1.code = 0 ∧ s1.defs.length ≠ E.limD ∧ s1.defs = s.defs ∧ Bak s s1 ∧
    defP wideP E s = { s1 with defs := s1.defs ++ [⟨(nameP E s).1, ((kindP wideP E 25 (mustP E [61] (nameP E s).2)).1 : Int)⟩] } := by
  have hb : Bak s (mustP E [59] (kindP wideP E 25 (mustP E [61] (nameP E s).2)).2) := (InP.must (InP.kind (wideP := wideP) 25 _ ((bkI E s).name.must [61])) [59]).get
  refine ⟨mustP E [59] (kindP wideP E 25 (mustP E [61] (nameP E s).2)).2, rfl, ?_⟩
  unfold defP at h ⊢
  dsimp only at h ⊢
  generalize mustP E [59] (kindP wideP E 25 (mustP E [61] (nameP E s).2)).2 = s1 at *
  by_cases hc : s1.code ≠ 0
  · rw [if_pos hc] at h; exact absurd h hc
  have hc0 : s1.code = 0 := Decidable.of_not_not hc
  rw [if_neg hc] at h ⊢
  by_cases hl : s1.defs.length = E.limD
  · rw [if_pos hl] at h; exact absurd h (wrong_any (by decide))
  · rw [if_neg hl]
    exact ⟨hc0, hl, (hb.get hc0).2.2.2.symm, hb, rfl⟩
/-- How many there are, without fault. -/
structure Bd (s t : PS) : Prop where
  code : s.code = 0
  nodes : s.nodes.length ≤ t.nodes.length
  defs : s.defs.length ≤ t.defs.length
theorem Bd.def' (h : (defP wideP E s).code = 0) : Bd s (defP wideP E s) ∧ (defP wideP E s).defs.length = s.defs.length + 1 := by
  obtain ⟨s1, _, h1, h2, h3, h4, h5⟩ := def_some h
  have := h4.get h1
  rw [h5]
  refine ⟨⟨this.1, this.2.2.1, ?_⟩, ?_⟩
  · show s.defs.length ≤ (s1.defs ++ _).length
    rw [List.length_append, h3]; omega
  · show (s1.defs ++ _).length = _
    rw [List.length_append, h3]; rfl
theorem defs_zero : defsP wideP E 0 s = s := by rw [defsP]
theorem defs_first {f : Nat} (h : (defsP wideP E (f + 1) s).code = 0) : (defP wideP E s).code = 0 := by
  rw [defsP] at h
  split at h
  · rename_i hx; exact hx.1
  · exact h
theorem Bd.all (f : Nat) : ∀ (s : PS), (defsP wideP E f s).code = 0 → Bd s (defsP wideP E f s) := by
  induction f with
  | zero =>
    intro s h
    rw [defs_zero] at h ⊢
    exact ⟨h, Nat.le_refl _, Nat.le_refl _⟩
  | succ f ih =>
    intro s h
    rw [defsP] at h ⊢
    split
    · rename_i hc
      rw [if_pos hc] at h
      have h1 := ih _ h
      have h2 := (Bd.def' hc.1).1
      exact ⟨h2.code, Nat.le_trans h2.nodes h1.nodes, Nat.le_trans h2.defs h1.defs⟩
    · rename_i hc
      rw [if_neg hc] at h
      exact (Bd.def' h).1
def OverD (F : PE) (B : List NodeD) (D : List DefD) (s : PS) : Prop := F.lim < B.length + s.nodes.length ∨ F.limD < D.length + s.defs.length
theorem OverD.up {s t : PS} (h : OverD F B D s) (k : Bd s t) : OverD F B D t := by
  have := k.nodes; have := k.defs
  unfold OverD at h ⊢; omega
set_option maxHeartbeats 4000000 in
theorem Sh.def' (A : Agr E F n m) (h : Sh n B D s t) (hc : (defP wideP E s).code = 0) (hm : (defP wideP E s).at' ≤ m) :
    ((defP wideP F t).code = 2 ∧ OverD F B D (defP wideP E s)) ∨ Sh n B D (defP wideP E s) (defP wideP F t) := by
  obtain ⟨s1, e1, h1, h2, h3, h4, h5⟩ := def_some hc
  have h6 := must_is (E := E) (s := (kindP wideP E 25 (mustP E [61] (nameP E s).2)).2) (x := [59]) (by rw [← e1]; exact h1)
  have b1 : Fin' m (kindP wideP E 25 (mustP E [61] (nameP E s).2)).2 := by
    have a1 : (defP wideP E s).at' = s1.at' := by rw [h5]
    have a2 : s1.at' = (kindP wideP E 25 (mustP E [61] (nameP E s).2)).2.at' + 1 := by rw [e1, h6]; rfl
    have a3 : s1.code = (kindP wideP E 25 (mustP E [61] (nameP E s).2)).2.code := by rw [e1, h6]; rfl
    exact ⟨a3 ▸ h1, by omega⟩
  have b2 := fin_of (InP.kind (wideP := wideP) 25 _ (bkI E _)) b1
  have b3 := fin_of ((bkI E _).must [61]) b2
  have b4 := fin_of ((bkI E _).name) b3
  obtain ⟨e2, g1⟩ := h.name A b4 b3.code
  have g2 := g1.must A b3 b2.code
  have R := Rd.kind (wideP := wideP) (B := B) (D := D) A 25
  rcases R.sim _ _ g2 b1 with ⟨h7, h8⟩ | ⟨h7, h8⟩
  · refine .inl ⟨?_, .inl ?_⟩
    · have ht := (InP.must (I := fun s => s.code = 2) (E := F) ⟨h7⟩ [59]).get
      unfold defP
      dsimp only
      rw [if_pos (by rw [ht]; decide)]
      exact ht
    · rw [h5, e1, h6]; exact h8
  · have g3 := h8.must A b1 (x := [59]) (by rw [← e1]; exact h1)
    rw [← e1] at g3
    have hk : (kindP wideP F 25 (mustP F [61] (nameP F t).2)).1 = (kindP wideP E 25 (mustP E [61] (nameP E s).2)).1 + B.length := h7
    rw [h5]
    unfold defP
    dsimp only
    rw [code_zero g3.ct]
    have hl : (mustP F [59] (kindP wideP F 25 (mustP F [61] (nameP F t).2)).2).defs.length = D.length + s1.defs.length := by rw [g3.defs, List.length_append, List.length_map]
    split
    · rename_i hlim
      refine .inl ⟨by unfold wrongP; rw [if_pos g3.ct], .inr ?_⟩
      show F.limD < D.length + (s1.defs ++ [_]).length
      rw [List.length_append, List.length_singleton]
      omega
    · refine .inr ⟨g3.cs, g3.ct, g3.at', g3.nodes, ?_⟩
      show _ ++ [_] = D ++ (s1.defs ++ [_]).map (mvN B.length)
      rw [g3.defs, e2, hk, List.map_append, List.append_assoc]
      congr 2
set_option maxHeartbeats 4000000 in
theorem Sh.defs' {l : List TokD} (hl : EndL l) (A : Agr (listE l) F n m) (hm : l.length ≤ m + 1) (hF : F.limD = 64) : ∀ (f : Nat) (s t : PS) (g : Nat), Sh n B D s t → BaseP l s → s.defs.length ≤ 64 → 65 ≤ f + s.defs.length → 65 ≤ g + t.defs.length → t.defs.length ≤ 64 → (defsP wideP (listE l) f s).code = 0 →
    ((defsP wideP F g t).code = 2 ∧ OverD F B D (defsP wideP (listE l) f s)) ∨
    ∃ g' t1, Sh n B D (defsP wideP (listE l) f s) t1 ∧ 65 ≤ g' + t1.defs.length ∧ t1.defs.length ≤ 64 ∧ BaseP l (defsP wideP (listE l) f s) ∧ (peekP (listE l) (defsP wideP (listE l) f s)).kind = 5 ∧ defsP wideP F g t = if t1.code = 0 ∧ (peekP F t1).kind ≠ 5 then defsP wideP F g' t1 else t1
  | 0, s, t, g, h, hb, h1, h2, h3, h4, hf => by omega
  | f + 1, s, t, 0, h, hb, h1, h2, h3, h4, hf => by omega
  | f + 1, s, t, g + 1, h, hb, h1, h2, h3, h4, hf => by
    have hb1 := hb.defs (wideP := wideP) hl
    have hc : (defP wideP (listE l) s).code = 0 := defs_first hf
    obtain ⟨d1, d2⟩ := Bd.def' hc
    have hat := hb1.at' hc
    have hlim : s.defs.length ≠ 64 := by
      obtain ⟨s1, _, _, q2, q3, _, _⟩ := def_some hc
      rw [q3] at q2; exact q2
    rw [defsP] at hf ⊢
    rw [defsP]
    rcases h.def' A hc (by omega) with ⟨h5, h6⟩ | h5
    · refine .inl ⟨?_, ?_⟩
      · rw [if_neg (fun hx => by rw [h5] at hx; cases hx.1)]; exact h5
      · split
        · rename_i hx
          rw [if_pos hx] at hf
          exact h6.up (Bd.all f _ hf)
        · exact h6
    · have htl : (defP wideP F t).defs.length = t.defs.length + 1 := by
        rw [h5.defs, h.defs, List.length_append, List.length_append, List.length_map, List.length_map, d2]; omega
      have htlim : t.defs.length ≠ 64 := by
        obtain ⟨s1, _, _, q2, q3, _, _⟩ := def_some h5.ct
        rw [q3, hF] at q2; exact q2
      by_cases hp : (defP wideP (listE l) s).code = 0 ∧ (peekP (listE l) (defP wideP (listE l) s)).kind ≠ 5
      · rw [if_pos hp] at hf ⊢
        have hk : (defP wideP (listE l) s).at' < m := by
          have hp2 := hp.2
          unfold peekP at hp2
          rw [if_pos hc] at hp2
          have hp2 : ((l[(defP wideP (listE l) s).at']?).getD endT).kind ≠ 5 := hp2
          have h3 := List.getElem?_eq_getElem hat
          rw [h3, Option.getD_some] at hp2
          have := mt (hl.last _ _ h3).2 hp2
          omega
        have hpk := h5.kind A ⟨hc, hk⟩
        rw [if_pos ⟨h5.ct, by rw [hpk]; exact hp.2⟩]
        exact Sh.defs' hl A hm hF f _ _ g h5 hb1 (by omega) (by omega) (by omega) (by omega) hf
      · rw [if_neg hp]
        exact .inr ⟨g, _, h5, by omega, by omega, hb1, Classical.byContradiction fun hk => hp ⟨hc, hk⟩, rfl⟩
end
theorem mvD_zero (d : NodeD) : mvD 0 d = d := by
  obtain ⟨_, _, _, _, _, _, _, _, _, _, _, kids, _, fields, _, _, cases', els⟩ := d
  have h1 : kids.map (fun k => k + ((0 : Nat) : Int)) = kids := by
    conv => rhs; rw [← List.map_id kids]
    exact List.map_congr_left fun x _ => by simp
  have h2 : fields.map (mvF 0) = fields := by
    conv => rhs; rw [← List.map_id fields]
    exact List.map_congr_left fun x _ => by simp [mvF]
  have h3 : cases'.map (mvC 0) = cases' := by
    conv => rhs; rw [← List.map_id cases']
    exact List.map_congr_left fun x _ => by simp [mvC]
  simp only [mvD, h1, h2, h3]
  split <;> simp
theorem mvN_zero (d : DefD) : mvN 0 d = d := by simp [mvN]
theorem map_zero_nodes (l : List NodeD) : l.map (mvD 0) = l := by
  conv => rhs; rw [← List.map_id l]
  exact List.map_congr_left fun x _ => mvD_zero x
theorem map_zero_defs (l : List DefD) : l.map (mvN 0) = l := by
  conv => rhs; rw [← List.map_id l]
  exact List.map_congr_left fun x _ => mvN_zero x
/-- Two specifications, one behind the other. -/
def joinS (x y : SpecD) : SpecD := ⟨x.nodes ++ y.nodes.map (mvD x.nodes.length), x.defs ++ y.defs.map (mvN x.nodes.length)⟩
theorem form_mv (N : Nat) {d : NodeD} (h : formD d = 0) : formD (mvD N d) = 0 := by
  have hp : plainD (mvD N d) = plainD d := rfl
  have e1 : (mvD N d).kids.length = d.kids.length := by simp [mvD]
  have e2 : (mvD N d).fields.length = d.fields.length := by simp [mvD]
  have e3 : (mvD N d).cases.length = d.cases.length := by simp [mvD]
  have e4 : (mvD N d).kind = d.kind := rfl
  have e5 : (mvD N d).last = d.last := rfl
  have e6 : (mvD N d).reg = d.reg := rfl
  have e7 : (mvD N d).mod = d.mod := rfl
  by_cases h9 : d.kind = 9 ∧ 0 ≤ d.els
  · have e8 : (mvD N d).els = d.els + N := by show (if d.kind = 9 ∧ 0 ≤ d.els then d.els + N else d.els) = _; rw [if_pos h9]
    have n1 : ¬ (d.els < -1) := by omega
    have n2 : ¬ (d.els + (N : Int) < -1) := by omega
    unfold formD at h ⊢
    simp only [e1, e2, e3, e4, e5, e6, e7, e8, hp, h9.1, n1, n2, ne_eq, not_true_eq_false, false_and, and_false] at h ⊢
    exact h
  · have e8 : (mvD N d).els = d.els := by show (if d.kind = 9 ∧ 0 ≤ d.els then d.els + N else d.els) = _; rw [if_neg h9]
    unfold formD at h ⊢
    simp only [e1, e2, e3, e4, e5, e6, e7, e8, hp] at h ⊢
    exact h
theorem kids_mv (N : Nat) (d : NodeD) : kidsD (mvD N d) = (kidsD d).map (fun k => k + (N : Int)) := by
  unfold kidsD
  have h4 : (if (mvD N d).kind = 9 ∧ 0 ≤ (mvD N d).els then [(mvD N d).els] else []) = (if d.kind = 9 ∧ 0 ≤ d.els then [d.els] else []).map (fun k => k + (N : Int)) := by
    show (if d.kind = 9 ∧ 0 ≤ (if d.kind = 9 ∧ 0 ≤ d.els then d.els + (N : Int) else d.els) then [(if d.kind = 9 ∧ 0 ≤ d.els then d.els + (N : Int) else d.els)] else []) = _
    by_cases h : d.kind = 9 ∧ 0 ≤ d.els
    · rw [if_pos h, if_pos h, if_pos ⟨h.1, by omega⟩]; rfl
    · rw [if_neg h, if_neg h]; rfl
  have h2 : (mvD N d).fields.map (·.type) = (d.fields.map (·.type)).map (fun k => k + (N : Int)) := by
    show List.map (·.type) (List.map (mvF N) d.fields) = _
    rw [List.map_map, List.map_map]; rfl
  have h3 : (mvD N d).cases.map (·.type) = (d.cases.map (·.type)).map (fun k => k + (N : Int)) := by
    show List.map (·.type) (List.map (mvC N) d.cases) = _
    rw [List.map_map, List.map_map]; rfl
  rw [h4, h2, h3]
  simp only [List.map_append]
  rfl
theorem ownAll_left {lim lim' : Nat} {p : List Bool} (hl : lim ≤ lim') : ∀ {ks : List Int} {o o' : List Bool}, lim ≤ o.length → ownAll lim ks o = .ok o' → ownAll lim' ks (o ++ p) = .ok (o' ++ p)
  | [], o, o', h0, h => by simp [ownAll] at h ⊢; rw [h]
  | k :: ks, o, o', h0, h => by
    unfold ownAll at h ⊢
    split at h
    · cases h
    · rename_i h1
      split at h
      · cases h
      · rename_i h2
        have hk : k.toNat < o.length := by omega
        rw [if_neg (by omega)]
        have e : (o ++ p)[k.toNat]! = o[k.toNat]! := by
          rw [List.getElem!_eq_getElem?_getD, List.getElem!_eq_getElem?_getD, List.getElem?_append_left hk]
        rw [e, if_neg h2, List.set_append_left _ _ hk]
        exact ownAll_left hl (by simpa using h0) h
theorem ownAll_right {lim N : Nat} {q : List Bool} (hq : q.length = N) : ∀ {ks : List Int} {o o' : List Bool}, ownAll lim ks o = .ok o' → ownAll (N + lim) (ks.map (fun k => k + (N : Int))) (q ++ o) = .ok (q ++ o')
  | [], o, o', h => by simp [ownAll] at h ⊢; rw [h]
  | k :: ks, o, o', h => by
    rw [List.map_cons]
    unfold ownAll at h ⊢
    split at h
    · cases h
    · rename_i h1
      split at h
      · cases h
      · rename_i h2
        rw [if_neg (by omega)]
        have ek : (k + (N : Int)).toNat = q.length + k.toNat := by omega
        have e : (q ++ o)[(k + (N : Int)).toNat]! = o[k.toNat]! := by
          rw [ek, List.getElem!_eq_getElem?_getD, List.getElem!_eq_getElem?_getD, List.getElem?_append_right (by omega), Nat.add_sub_cancel_left]
        rw [e, if_neg h2, ek, List.set_append_right _ _ (by omega), Nat.add_sub_cancel_left]
        exact ownAll_right hq h
theorem ownAll_append {lim : Nat} : ∀ {ks js : List Int} {o o1 o2 : List Bool}, ownAll lim ks o = .ok o1 → ownAll lim js o1 = .ok o2 → ownAll lim (ks ++ js) o = .ok o2
  | [], js, o, o1, o2, h, h2 => by simp [ownAll] at h; subst h; exact h2
  | k :: ks, js, o, o1, o2, h, h2 => by
    rw [List.cons_append]
    unfold ownAll at h ⊢
    split at h
    · cases h
    · rename_i g1
      split at h
      · cases h
      · rename_i g2
        rw [if_neg g1, if_neg g2]
        exact ownAll_append h h2
theorem nodesAll_len : ∀ {ds : List NodeD} {i : Nat} {o o' : List Bool}, nodesAll i ds o = .ok o' → o'.length = o.length
  | [], i, o, o', h => by simp [nodesAll] at h; rw [h]
  | d :: ds, i, o, o', h => by
    rw [nodesAll] at h
    split at h
    · cases h
    · cases ho : ownAll i (kidsD d) o with
      | error e => rw [ho] at h; cases h
      | ok o1 =>
        rw [ho] at h
        rw [nodesAll_len h, ownAll_len ho]
theorem nodesAll_left {p : List Bool} : ∀ {ds : List NodeD} {i : Nat} {o o' : List Bool}, i + ds.length ≤ o.length → nodesAll i ds o = .ok o' → nodesAll i ds (o ++ p) = .ok (o' ++ p)
  | [], i, o, o', h0, h => by simp [nodesAll] at h ⊢; rw [h]
  | d :: ds, i, o, o', h0, h => by
    rw [nodesAll] at h ⊢
    split at h
    · cases h
    · rename_i h1
      rw [if_neg h1]
      cases ho : ownAll i (kidsD d) o with
      | error e => rw [ho] at h; cases h
      | ok o1 =>
        rw [ho] at h
        simp only [List.length_cons] at h0
        rw [ownAll_left (Nat.le_refl i) (by omega) ho]
        exact nodesAll_left (by rw [ownAll_len ho]; omega) h
theorem nodesAll_right {N : Nat} {q : List Bool} (hq : q.length = N) : ∀ {ds : List NodeD} {i : Nat} {o o' : List Bool}, nodesAll i ds o = .ok o' → nodesAll (N + i) (ds.map (mvD N)) (q ++ o) = .ok (q ++ o')
  | [], i, o, o', h => by simp [nodesAll] at h ⊢; rw [h]
  | d :: ds, i, o, o', h => by
    rw [List.map_cons]
    rw [nodesAll] at h ⊢
    split at h
    · cases h
    · rename_i h1
      have h1 : formD d = 0 := Decidable.of_not_not h1
      rw [if_neg (fun h => h (form_mv N h1)), kids_mv]
      cases ho : ownAll i (kidsD d) o with
      | error e => rw [ho] at h; cases h
      | ok o1 =>
        rw [ho] at h
        rw [ownAll_right hq ho]
        exact nodesAll_right hq h
theorem nodesAll_append : ∀ {ds es : List NodeD} {i : Nat} {o o1 o2 : List Bool}, nodesAll i ds o = .ok o1 → nodesAll (i + ds.length) es o1 = .ok o2 → nodesAll i (ds ++ es) o = .ok o2
  | [], es, i, o, o1, o2, h, h2 => by simp [nodesAll] at h; subst h; exact h2
  | d :: ds, es, i, o, o1, o2, h, h2 => by
    rw [List.cons_append]
    rw [nodesAll] at h ⊢
    split at h
    · cases h
    · rename_i h1
      rw [if_neg h1]
      cases ho : ownAll i (kidsD d) o with
      | error e => rw [ho] at h; cases h
      | ok o3 =>
        rw [ho] at h
        refine nodesAll_append h ?_
        rw [show i + 1 + ds.length = i + (d :: ds).length by simp; omega]
        exact h2
theorem check_join {x y : SpecD} (hx : checkD x = 0) (hy : checkD y = 0) (h1 : x.nodes.length + y.nodes.length ≤ 2048) (h2 : x.defs.length + y.defs.length ≤ 64) : checkD (joinS x y) = 0 := by
  obtain ⟨o, o', a1, a2, _, _, a5, a6⟩ := checkD_ok hx
  obtain ⟨p, p', b1, b2, _, _, b5, b6⟩ := checkD_ok hy
  have lo := nodesAll_len a1
  have lp := nodesAll_len b1
  have lo' := ownAll_len a2
  rw [List.length_replicate] at lo lp
  have hd0 : (joinS x y).defs.length ≠ 0 := by
    show (x.defs ++ _).length ≠ 0
    rw [List.length_append]
    have : x.defs.length ≠ 0 := fun h => a5 (List.length_eq_zero_iff.1 h)
    omega
  have e1 : (joinS x y).nodes.length = x.nodes.length + y.nodes.length := by simp [joinS]
  have e2 : (joinS x y).defs.length = x.defs.length + y.defs.length := by simp [joinS]
  have n1 := nodesAll_left (p := List.replicate y.nodes.length false) (by simp) a1
  have n2 := nodesAll_right (q := o) (N := x.nodes.length) lo b1
  have n3 : nodesAll 0 (joinS x y).nodes (List.replicate (joinS x y).nodes.length false) = .ok (o ++ p) := by
    rw [e1, ← List.replicate_append_replicate]
    refine nodesAll_append n1 ?_
    rw [Nat.zero_add, ← Nat.add_zero x.nodes.length]
    exact n2
  have d1 := ownAll_left (p := p) (lim' := x.nodes.length + y.nodes.length) (by omega) (by omega) a2
  have d2 := ownAll_right (q := o') (N := x.nodes.length) (by omega) b2
  have d3 : ownAll (joinS x y).nodes.length ((joinS x y).defs.map (·.type)) (o ++ p) = .ok (o' ++ p') := by
    rw [e1]
    show ownAll _ ((x.defs ++ y.defs.map (mvN x.nodes.length)).map (·.type)) _ = _
    rw [List.map_append]
    refine ownAll_append d1 ?_
    rw [List.map_map]
    rw [List.map_map] at d2
    exact d2
  unfold checkD
  rw [if_neg (by omega)]
  unfold checkE
  rw [n3]
  dsimp only
  rw [d3]
  dsimp only
  rw [if_neg]
  intro h
  rcases List.mem_append.1 h with h | h
  · exact a6 h
  · exact b6 h
section
variable {wideP : List UInt8 → Nat × Nat}
theorem read_zero {l : List TokD} (h : (readP wideP l).2.1 = 0) : (defsP wideP (listE l) 70 startP).code = 0 ∧ (readP wideP l).1 = ⟨(defsP wideP (listE l) 70 startP).nodes, (defsP wideP (listE l) 70 startP).defs⟩ ∧ checkD ⟨(defsP wideP (listE l) 70 startP).nodes, (defsP wideP (listE l) 70 startP).defs⟩ = 0 := by
  unfold readP at h ⊢
  dsimp only at h ⊢
  generalize defsP wideP (listE l) 70 startP = S at *
  by_cases hc : S.code ≠ 0
  · rw [if_pos hc] at h
    exact absurd (Int.ofNat.inj h) hc
  · rw [if_neg hc] at h ⊢
    split at h
    · rename_i hk; exact absurd h hk
    · rename_i hk
      rw [if_neg hk]
      exact ⟨Decidable.of_not_not hc, rfl, Decidable.of_not_not hk⟩
theorem first_name {l : List TokD} (h : (defsP wideP (listE l) 70 startP).code = 0) : ((l[0]?).getD endT).kind ≠ 5 := by
  intro h5
  have hd := defs_first (f := 69) h
  obtain ⟨s1, e1, h1, _, _, _, _⟩ := def_some hd
  have b1 : Fin' (s1.at' + 1) s1 := ⟨h1, Nat.lt_succ_self _⟩
  rw [e1] at b1
  have b2 := fin_of ((bkI (listE l) _).must [59]) b1
  have b3 := fin_of (InP.kind (wideP := wideP) 25 _ (bkI (listE l) _)) b2
  have b4 := fin_of ((bkI (listE l) _).must [61]) b3
  have hn := b4.code
  unfold nameP at hn
  have hk : (peekP (listE l) startP).kind = 5 := h5
  rw [if_pos (.inl (by rw [hk]; decide))] at hn
  exact absurd hn (wrong_any (by decide))
set_option maxHeartbeats 4000000 in
theorem join_read {la lb : List TokD} (ha : EndL la) (hb : EndL lb) (h1 : (readP wideP la).2.1 = 0) (h2 : (readP wideP lb).2.1 = 0) :
    ((2048 < (readP wideP la).1.nodes.length + (readP wideP lb).1.nodes.length ∨ 64 < (readP wideP la).1.defs.length + (readP wideP lb).1.defs.length) → (readP wideP (la.dropLast ++ lb)).2.1 = 2) ∧
    (¬ (2048 < (readP wideP la).1.nodes.length + (readP wideP lb).1.nodes.length ∨ 64 < (readP wideP la).1.defs.length + (readP wideP lb).1.defs.length) → (readP wideP (la.dropLast ++ lb)).2.1 = 0 ∧ (readP wideP (la.dropLast ++ lb)).1 = joinS (readP wideP la).1 (readP wideP lb).1) := by
  obtain ⟨a1, a2, a3⟩ := read_zero h1
  obtain ⟨b1, b2, b3⟩ := read_zero h2
  have hf := first_name b1
  rw [a2, b2]
  have la0 := ha.pos
  have lb0 := hb.pos
  have hdl : la.dropLast.length = la.length - 1 := List.length_dropLast
  have A1 : Agr (listE la) (listE (la.dropLast ++ lb)) 0 (la.length - 1) := by
    have key : ∀ i, i < la.length - 1 → (la.dropLast ++ lb)[i + 0]? = la[i]? := fun i hi => by
      rw [Nat.add_zero, List.getElem?_append_left (by omega), List.getElem?_dropLast, if_pos hi]
    exact ⟨fun i hi => congrArg (fun o => (Option.getD o endT).kind) (key i hi), fun i hi => congrArg (fun o => (Option.getD o endT).text) (key i hi), rfl, rfl⟩
  have A2 : Agr (listE lb) (listE (la.dropLast ++ lb)) (la.length - 1) lb.length := by
    have key : ∀ i, (la.dropLast ++ lb)[i + (la.length - 1)]? = lb[i]? := fun i => by
      rw [List.getElem?_append_right (by omega), hdl, Nat.add_sub_cancel]
    exact ⟨fun i _ => congrArg (fun o => (Option.getD o endT).kind) (key i), fun i _ => congrArg (fun o => (Option.getD o endT).text) (key i), rfl, rfl⟩
  have ca := checkD_ok a3
  have cb := checkD_ok b3
  obtain ⟨_, _, _, _, ca1, ca2, _, _⟩ := ca
  obtain ⟨_, _, _, _, cb1, cb2, _, _⟩ := cb
  have S0 : Sh 0 [] [] startP startP := ⟨rfl, rfl, rfl, rfl, rfl⟩
  have R1 := S0.defs' (wideP := wideP) ha A1 (by omega) rfl 70 startP startP 70 ⟨fun _ => la0, la0, fun d hd => by cases hd⟩ (by decide) (by decide) (by decide) (by decide) a1
  have hnum : ∀ x : SpecD, (if checkD x ≠ 0 then ((⟨[], []⟩ : SpecD), checkD x, (none : Option Nat)) else (x, 0, some 0)) = if checkD x ≠ 0 then (⟨[], []⟩, checkD x, none) else (x, 0, some 0) := fun x => rfl
  unfold readP
  dsimp only
  generalize defsP wideP (listE la) 70 startP = sA at *
  dsimp only at ca1 ca2
  rcases R1 with ⟨r1, r2⟩ | ⟨g', t1, r1, r2, r3, r4, r5, r6⟩
  · exfalso
    rcases r2 with r2 | r2
    · have r2 : 2048 < 0 + sA.nodes.length := r2
      omega
    · have r2 : 64 < 0 + sA.defs.length := r2
      omega
  have hpos : sA.at' = la.length - 1 := by
    have hat := r4.at' r1.cs
    have r5 : (if sA.code = 0 then (la[sA.at']?).getD endT else (listE la).last).kind = 5 := r5
    rw [if_pos r1.cs, List.getElem?_eq_getElem hat, Option.getD_some] at r5
    have := (ha.last _ _ (List.getElem?_eq_getElem hat)).1 r5
    omega
  have hN : t1.nodes = sA.nodes := by rw [r1.nodes]; exact (List.nil_append _).trans (map_zero_nodes _)
  have hD : t1.defs = sA.defs := by rw [r1.defs]; exact (List.nil_append _).trans (map_zero_defs _)
  have hat1 : t1.at' = la.length - 1 := by rw [r1.at', hpos, Nat.add_zero]
  have hpk : (peekP (listE (la.dropLast ++ lb)) t1).kind ≠ 5 := by
    unfold peekP
    rw [if_pos r1.ct, hat1]
    show (((la.dropLast ++ lb)[la.length - 1]?).getD endT).kind ≠ 5
    rw [List.getElem?_append_right (by omega), hdl, Nat.sub_self]
    exact hf
  rw [if_pos ⟨r1.ct, hpk⟩] at r6
  rw [r6]
  have S1 : Sh (la.length - 1) t1.nodes t1.defs startP t1 := ⟨rfl, r1.ct, by rw [hat1]; show _ = 0 + _; omega, by simp [startP], by simp [startP]⟩
  have R2 := S1.defs' (wideP := wideP) hb A2 (by omega) rfl 70 startP t1 g' ⟨fun _ => lb0, lb0, fun d hd => by cases hd⟩ (by decide) (by decide) r2 r3 b1
  generalize defsP wideP (listE lb) 70 startP = sB at *
  generalize defsP wideP (listE (la.dropLast ++ lb)) g' t1 = Z at *
  rcases R2 with ⟨q1, q2⟩ | ⟨g2, t2, q1, q2, q3, q4, q5, q6⟩
  · rw [if_pos (show Z.code ≠ 0 by rw [q1]; decide)]
    refine ⟨fun _ => by rw [q1]; rfl, fun hn => ?_⟩
    exfalso
    rcases q2 with q2 | q2
    · have q2 : 2048 < t1.nodes.length + sB.nodes.length := q2
      rw [hN] at q2
      exact hn (.inl q2)
    · have q2 : 64 < t1.defs.length + sB.defs.length := q2
      rw [hD] at q2
      exact hn (.inr q2)
  · have hat2 := q4.at' q1.cs
    have hpk2 : (peekP (listE (la.dropLast ++ lb)) t2).kind = 5 := by rw [q1.kind A2 ⟨q1.cs, hat2⟩]; exact q5
    rw [if_neg (fun h => h.2 hpk2)] at q6
    subst q6
    rw [if_neg (fun h => h q1.ct)]
    have hj : (⟨Z.nodes, Z.defs⟩ : SpecD) = joinS ⟨sA.nodes, sA.defs⟩ ⟨sB.nodes, sB.defs⟩ := by
      rw [q1.nodes, q1.defs, hN, hD]; rfl
    rw [hj]
    have e1 : (joinS ⟨sA.nodes, sA.defs⟩ ⟨sB.nodes, sB.defs⟩).nodes.length = sA.nodes.length + sB.nodes.length := by simp [joinS]
    have e2 : (joinS ⟨sA.nodes, sA.defs⟩ ⟨sB.nodes, sB.defs⟩).defs.length = sA.defs.length + sB.defs.length := by simp [joinS]
    refine ⟨fun hov => ?_, fun hn => ?_⟩
    · have hc2 : checkD (joinS ⟨sA.nodes, sA.defs⟩ ⟨sB.nodes, sB.defs⟩) = 2 := by
        unfold checkD
        rw [if_pos]
        rw [e1, e2]
        rcases hov with h | h
        · exact .inl h
        · exact .inr (.inl h)
      rw [hc2]; rfl
    · have hc0 := check_join a3 b3 (Nat.le_of_not_lt fun h => hn (.inl h)) (Nat.le_of_not_lt fun h => hn (.inr h))
      rw [hc0]; exact ⟨rfl, rfl⟩
end
end Go.Proofs.YtepdapdekaiioaaGreatDoor
end
section
/- Contracts of wide: Mul, Add, Line, Int, Parse, Digits. -/
namespace Go.Proofs
open Go.Shelf
def Tryz.laysMul_ren : Go.Shelf.Ren := ⟨fun | 264 => 121 | n => n, fun | 53 => 48 | 46 => 133 | n => n, fun | n => n⟩
theorem Tryz.laysMul : Go.Proofs.Lays.n264 Tryz.prog Tryz.laysMul_ren := {
  mixed := by kernel_rfl
  f264 := Tryz.func121.trans (congrArg some (by kernel_rfl))
  t46 := Tryz.underlying133
  a46 := Tryz.isAgg133
  z46 := Tryz.sizeOf133
  v46 := Tryz.zeroValue133
  t53 := Tryz.underlying48
  a53 := Tryz.isAgg48
  z53 := Tryz.sizeOf48
  v53 := Tryz.zeroValue48 }
end Go.Proofs
namespace Go.Proofs.YtepdapdekaiioaaGreatDoor
open Go Go.E
set_option linter.unusedVariables false
set_option linter.unusedSectionVars false
set_option linter.unusedSimpArgs false
set_option maxRecDepth 10000
def isDig (c : Nat) : Bool := decide (48 ≤ c) && decide (c ≤ 57)
def badNum (l : List UInt8) : Bool := l.isEmpty || (decide (1 < l.length) && decide (l.headD 0 = 48))
def valOf (l : List UInt8) : Nat := l.foldl (fun v c => 10 * v + (c.toNat - 48)) 0
section
variable {ro : Ro} {own r : Chs} {K : Value → Ro → Chs → Prop} {g : Chunk → Chs}
theorem mul64_ok {x y : Nat} (hx : x < 18446744073709551616) (hy : y < 18446744073709551616) (hk : K (.tuple #[.int .u64 ((x * y / 18446744073709551616 : Nat) : Int), .int .u64 ((x * y % 18446744073709551616 : Nat) : Int)]) ro own) :
    CallOk Tryz.prog 121 #[.int .u64 (x : Int), .int .u64 (y : Int)] ro own K := by
  refine CallOk.ofBelow Tryz.call121 (fun w => ?_) hk
  have h := Go.Proofs.Any.bits_Mul64 Tryz.laysMul x y hx hy w
  rw [show Tryz.laysMul_ren.f 264 = 121 by kernel_rfl] at h
  refine h.mono fun e w' ⟨he, hb⟩ => ⟨he, ?_⟩
  rw [hb]
  exact Go.RowKit.Below.refl _ _
theorem wmul_ok {x y : Nat} (hx : x < 18446744073709551616) (hy : y < 18446744073709551616) (h1 : x * y < 18446744073709551616 → K (.tuple #[.int .u64 ((x * y : Nat) : Int), .int .i64 0]) ro own) (h2 : 18446744073709551616 ≤ x * y → K (.tuple #[.int .u64 0, .int .i64 40]) ro own) :
    CallOk Tryz.prog 119 #[.int .u64 (x : Int), .int .u64 (y : Int)] ro own K := by
  refine CallOk.intro (args := [_, _]) (rs := [_, _]) T_ok Tryz.func119 Tryz.call119 rfl rfl (by kernel_rfl) rfl rfl ?_
  repeat (first | exact endA | refine wkP ?_ | refine opB (fun b => ?_) | refine opA (fun a' c' hc1 hc2 => ?_) | (apply GJ.and; exact rfl; intro hg) | (apply GJ.or; exact rfl; intro hg))
  refine mul64_ok hx hy ?_
  generalize x * y = z at h1 h2 ⊢
  repeat (first | exact endA | refine wkP ?_ | refine opB (fun b => ?_) | refine opA (fun a' c' hc1 hc2 => ?_) | (apply GJ.and; exact rfl; intro hg) | (apply GJ.or; exact rfl; intro hg))
  refine Br.cases (fun h => ?_) (fun h => ?_)
  · repeat (first | exact endA | refine wkP ?_ | refine opB (fun b => ?_) | refine opA (fun a' c' hc1 hc2 => ?_) | (apply GJ.and; exact rfl; intro hg) | (apply GJ.or; exact rfl; intro hg))
    exact Wk.outS Sup.auto (.refl _) (h2 (by omega))
  · have h3 : z < 18446744073709551616 := by omega
    rw [Nat.mod_eq_of_lt h3]
    repeat (first | exact endA | refine wkP ?_ | refine opB (fun b => ?_) | refine opA (fun a' c' hc1 hc2 => ?_) | (apply GJ.and; exact rfl; intro hg) | (apply GJ.or; exact rfl; intro hg))
    exact Wk.outS Sup.auto (.refl _) (h1 h3)
theorem wadd_ok {x y : Nat} (hx : x < 18446744073709551616) (hy : y < 18446744073709551616) (h1 : x + y < 18446744073709551616 → K (.tuple #[.int .u64 ((x + y : Nat) : Int), .int .i64 0]) ro own) (h2 : 18446744073709551616 ≤ x + y → K (.tuple #[.int .u64 0, .int .i64 40]) ro own) :
    CallOk Tryz.prog 120 #[.int .u64 (x : Int), .int .u64 (y : Int)] ro own K := by
  refine CallOk.intro (args := [_, _]) (rs := [_, _]) T_ok Tryz.func120 Tryz.call120 rfl rfl (by kernel_rfl) rfl rfl ?_
  repeat (first | exact endA | refine wkP ?_ | refine opB (fun b => ?_) | refine opA (fun a' c' hc1 hc2 => ?_) | (apply GJ.and; exact rfl; intro hg) | (apply GJ.or; exact rfl; intro hg))
  refine CallOk.add64 Tryz.func122 (by kernel_rfl) (by kernel_rfl) (by kernel_rfl) (by kernel_rfl) ?_
  generalize x + y = z at h1 h2 ⊢
  repeat (first | exact endA | refine wkP ?_ | refine opB (fun b => ?_) | refine opA (fun a' c' hc1 hc2 => ?_) | (apply GJ.and; exact rfl; intro hg) | (apply GJ.or; exact rfl; intro hg))
  refine Br.cases (fun h => ?_) (fun h => ?_)
  · repeat (first | exact endA | refine wkP ?_ | refine opB (fun b => ?_) | refine opA (fun a' c' hc1 hc2 => ?_) | (apply GJ.and; exact rfl; intro hg) | (apply GJ.or; exact rfl; intro hg))
    exact Wk.outS Sup.auto (.refl _) (h2 (by omega))
  · have h3 : z < 18446744073709551616 := by omega
    rw [Nat.mod_eq_of_lt h3]
    repeat (first | exact endA | refine wkP ?_ | refine opB (fun b => ?_) | refine opA (fun a' c' hc1 hc2 => ?_) | (apply GJ.and; exact rfl; intro hg) | (apply GJ.or; exact rfl; intro hg))
    exact Wk.outS Sup.auto (.refl _) (h1 h3)
theorem wline_ok {m x y : Nat} (hm : m < 18446744073709551616) (hx : x < 18446744073709551616) (hy : y < 18446744073709551616) (h1 : m * x + y < 18446744073709551616 → K (.tuple #[.int .u64 ((m * x + y : Nat) : Int), .int .i64 0]) ro own) (h2 : 18446744073709551616 ≤ m * x + y → K (.tuple #[.int .u64 0, .int .i64 40]) ro own) :
    CallOk Tryz.prog 116 #[.int .u64 (m : Int), .int .u64 (x : Int), .int .u64 (y : Int)] ro own K := by
  refine CallOk.intro (args := [_, _, _]) (rs := [_, _]) T_ok Tryz.func116 Tryz.call116 rfl rfl (by kernel_rfl) rfl rfl ?_
  repeat (first | exact endA | refine wkP ?_ | refine opB (fun b => ?_) | refine opA (fun a' c' hc1 hc2 => ?_) | (apply GJ.and; exact rfl; intro hg) | (apply GJ.or; exact rfl; intro hg))
  refine wmul_ok hm hx (fun h => ?_) (fun h => ?_)
  · repeat (first | exact endA | refine wkP ?_ | refine opB (fun b => ?_) | refine opA (fun a' c' hc1 hc2 => ?_) | (apply GJ.and; exact rfl; intro hg) | (apply GJ.or; exact rfl; intro hg))
    refine wadd_ok h hy (fun h3 => ?_) (fun h3 => ?_)
    · repeat (first | exact endA | refine wkP ?_ | refine opB (fun b => ?_) | refine opA (fun a' c' hc1 hc2 => ?_) | (apply GJ.and; exact rfl; intro hg) | (apply GJ.or; exact rfl; intro hg))
      exact Wk.outS Sup.auto (.refl _) (h1 h3)
    · repeat (first | exact endA | refine wkP ?_ | refine opB (fun b => ?_) | refine opA (fun a' c' hc1 hc2 => ?_) | (apply GJ.and; exact rfl; intro hg) | (apply GJ.or; exact rfl; intro hg))
      exact Wk.outS Sup.auto (.refl _) (h2 h3)
  · repeat (first | exact endA | refine wkP ?_ | refine opB (fun b => ?_) | refine opA (fun a' c' hc1 hc2 => ?_) | (apply GJ.and; exact rfl; intro hg) | (apply GJ.or; exact rfl; intro hg))
    exact Wk.outS Sup.auto (.refl _) (h2 (by omega))
theorem valOf_snoc (l : List UInt8) (c : UInt8) : valOf (l ++ [c]) = 10 * valOf l + (c.toNat - 48) := by simp [valOf]
def allDig (l : List UInt8) : Bool := l.all fun c => isDig c.toNat
def numD (l : List UInt8) : Nat × Nat := if badNum l = true ∨ allDig l = false then (0, 5) else if 18446744073709551616 ≤ valOf l then (0, 40) else (valOf l, 0)
set_option maxHeartbeats 4000000 in
theorem wparse_ok {l : List UInt8} (hl : l.length ≤ 100000) (hk : K (.tuple #[.int .u64 ((numD l).1 : Int), .int .i64 ((numD l).2 : Int)]) ro own) :
    CallOk Tryz.prog 106 #[str l] ro own K := by
  by_cases hb : badNum l = true
  · have hn : numD l = (0, 5) := by unfold numD; rw [if_pos (.inl hb)]
    rw [hn] at hk
    match l, hl, hb with
    | [], hl, hb =>
      refine CallOk.intro (args := [_]) (rs := [_, _]) T_ok Tryz.func106 Tryz.call106 rfl rfl (by kernel_rfl) rfl rfl ?_
      repeat (first | exact endA | refine wkP ?_ | refine opB (fun b => ?_) | refine opA (fun a' c' hc1 hc2 => ?_) | (apply GJ.and; exact rfl; intro hg) | (apply GJ.or; exact rfl; intro hg))
      exact Wk.outS Sup.auto (.refl _) hk
    | [c], hl, hb => simp [badNum] at hb
    | c :: d :: r, hl, hb =>
      have hc : c = 48 := by simpa [badNum] using hb
      subst hc
      have hlen : 1 < (48 :: d :: r : List UInt8).length := by simp
      have hne : ¬ (48 :: d :: r : List UInt8) = [] := by simp
      refine CallOk.intro (args := [_]) (rs := [_, _]) T_ok Tryz.func106 Tryz.call106 rfl rfl (by kernel_rfl) rfl rfl ?_
      repeat (first | exact endA | refine wkP ?_ | refine opB (fun b => ?_) | refine opA (fun a' c' hc1 hc2 => ?_) | (apply GJ.and; exact rfl; intro hg) | (apply GJ.or; exact rfl; intro hg))
      refine Br.t rfl ?_
      repeat (first | exact endA | refine wkP ?_ | refine opB (fun b => ?_) | refine opA (fun a' c' hc1 hc2 => ?_) | (apply GJ.and; exact rfl; intro hg) | (apply GJ.or; exact rfl; intro hg))
      exact Wk.outS Sup.auto (.refl _) hk
  · have hne : ¬ l = [] := by intro e; subst e; exact hb rfl
    have h0 : 1 < l.length → ¬ (l[0]!).toNat = 48 := by
      intro h e
      apply hb
      match l, h, e with
      | c :: d :: r, h, e =>
        have hc : c = 48 := UInt8.toNat_inj.1 e
        subst hc; rfl
    have hnum : numD l = if allDig l = false then (0, 5) else if 18446744073709551616 ≤ valOf l then (0, 40) else (valOf l, 0) := by
      unfold numD
      by_cases ha : allDig l = false
      · rw [if_pos (.inr ha), if_pos ha]
      · rw [if_neg (fun x => x.elim hb ha), if_neg ha]
    have rest : True := trivial
    have hz : (Int.toNat 0) = 0 := rfl
    refine CallOk.intro (args := [_]) (rs := [_, _]) T_ok Tryz.func106 Tryz.call106 rfl rfl (by kernel_rfl) rfl rfl ?_
    by_cases h1 : 1 < l.length
    · have h0 := h0 h1
      repeat (first | exact endA | refine wkP ?_ | refine opB (fun b => ?_) | refine opA (fun a' c' hc1 hc2 => ?_) | (apply GJ.and; exact rfl; intro hg) | (apply GJ.or; exact rfl; intro hg))
      refine Br.f (by rw [hz]; omega) ?_
      repeat (first | exact endA | refine wkP ?_ | refine opB (fun b => ?_) | refine opA (fun a' c' hc1 hc2 => ?_) | (apply GJ.and; exact rfl; intro hg) | (apply GJ.or; exact rfl; intro hg))
      refine LoopOk.at (ι := Nat × Nat × Bool) Keep.auto (fun (i, n, gr) => [(23, .int .i64 (i : Int)), (4, .int .u64 (n : Int)), (5, .bool gr)]) (fun (i, n, gr) => own) (fun (i, n, gr) => i ≤ l.length ∧ allDig (l.take i) = true ∧ n < 18446744073709551616 ∧ (gr = false → n = valOf (l.take i)) ∧ (gr = true → 18446744073709551616 ≤ valOf (l.take i))) (fun (i, n, gr) => l.length - i) (0, 0, false) ?_ Sub.auto Sup.auto ?_
      · exact ⟨Nat.zero_le _, rfl, by decide, fun _ => rfl, fun h => by cases h⟩
      rintro ⟨i, n, gr⟩ ⟨i1, i2, i3, i4, i5⟩
      dsimp only [List.cons_append, List.nil_append] at i1 i2 i3 i4 i5 ⊢
      repeat (first | exact endA | refine wkP ?_ | refine opB (fun b => ?_) | refine opA (fun a' c' hc1 hc2 => ?_) | (apply GJ.and; exact rfl; intro hg) | (apply GJ.or; exact rfl; intro hg))
      refine Br.cases (fun hg => ?_) (fun hg => ?_)
      · have hi : i < l.length := by omega
        obtain ⟨c, hc⟩ : ∃ c, l[i]? = some c := ⟨_, List.getElem?_eq_getElem hi⟩
        have htk : l.take (i + 1) = l.take i ++ [c] := by rw [List.take_add_one, hc]; rfl
        have hgc : l[(i : Int).toNat]! = c := by rw [Int.toNat_natCast, List.getElem!_eq_getElem?_getD, hc]; rfl
        have hcn := c.toNat_lt
        have hbad : isDig c.toNat = false → allDig l = false := fun h => by
          unfold allDig
          rw [List.all_eq_false]
          exact ⟨c, List.mem_of_getElem? hc, by rw [h]; decide⟩
        repeat (first | exact endA | refine wkP ?_ | refine opB (fun b => ?_) | refine opA (fun a' c' hc1 hc2 => ?_) | (apply GJ.and; exact rfl; intro hg) | (apply GJ.or; exact rfl; intro hg))
        try rw [hgc]
        by_cases hlo : c.toNat < 48
        · have hd := hbad (by simp [isDig]; omega)
          rw [hnum, if_pos hd] at hk
          repeat (first | exact endA | refine wkP ?_ | refine opB (fun b => ?_) | refine opA (fun a' c' hc1 hc2 => ?_) | (apply GJ.and; exact rfl; intro hg) | (apply GJ.or; exact rfl; intro hg))
          exact Wk.outS Sup.auto (.refl _) hk
        by_cases hhi : 57 < c.toNat
        · have hd := hbad (by simp [isDig]; omega)
          rw [hnum, if_pos hd] at hk
          repeat (first | exact endA | refine wkP ?_ | refine opB (fun b => ?_) | refine opA (fun a' c' hc1 hc2 => ?_) | (apply GJ.and; exact rfl; intro hg) | (apply GJ.or; exact rfl; intro hg))
          try rw [hgc]
          repeat (first | exact endA | refine wkP ?_ | refine opB (fun b => ?_) | refine opA (fun a' c' hc1 hc2 => ?_) | (apply GJ.and; exact rfl; intro hg) | (apply GJ.or; exact rfl; intro hg))
          exact Wk.outS Sup.auto (.refl _) hk
        have hdig : isDig c.toNat = true := by simp [isDig]; omega
        have hall : allDig (l.take (i + 1)) = true := by
          rw [htk]; unfold allDig at i2 ⊢; rw [List.all_append, i2]; simp [hdig]
        have hv : valOf (l.take (i + 1)) = 10 * valOf (l.take i) + (c.toNat - 48) := by rw [htk, valOf_snoc]
        repeat (first | exact endA | refine wkP ?_ | refine opB (fun b => ?_) | refine opA (fun a' c' hc1 hc2 => ?_) | (apply GJ.and; exact rfl; intro hg) | (apply GJ.or; exact rfl; intro hg))
        try rw [hgc]
        repeat (first | exact endA | refine wkP ?_ | refine opB (fun b => ?_) | refine opA (fun a' c' hc1 hc2 => ?_) | (apply GJ.and; exact rfl; intro hg) | (apply GJ.or; exact rfl; intro hg))
        try rw [hgc]
        repeat (first | exact endA | refine wkP ?_ | refine opB (fun b => ?_) | refine opA (fun a' c' hc1 hc2 => ?_) | (apply GJ.and; exact rfl; intro hg) | (apply GJ.or; exact rfl; intro hg))
        rw [show ((c.toNat : Int) - 48) % 256 = ((c.toNat - 48 : Nat) : Int) by omega]
        refine wline_ok (m := 10) (x := n) (y := c.toNat - 48) (by decide) i3 (by omega) (fun h => ?_) (fun h => ?_)
        · repeat (first | exact endA | refine wkP ?_ | refine opB (fun b => ?_) | refine opA (fun a' c' hc1 hc2 => ?_) | (apply GJ.and; exact rfl; intro hg) | (apply GJ.or; exact rfl; intro hg))
          refine Wk.id ⟨(i + 1, 10 * n + (c.toNat - 48), gr), ⟨rfl, ?_⟩, ?_, Sub.auto, Sup.auto⟩
          all_goals try dsimp only
          · exact ⟨by omega, hall, h, fun e => by rw [hv, i4 e], fun e => by have := i5 e; omega⟩
          · omega
        · repeat (first | exact endA | refine wkP ?_ | refine opB (fun b => ?_) | refine opA (fun a' c' hc1 hc2 => ?_) | (apply GJ.and; exact rfl; intro hg) | (apply GJ.or; exact rfl; intro hg))
          refine Wk.id ⟨(i + 1, 0, true), ⟨rfl, ?_⟩, ?_, Sub.auto, Sup.auto⟩
          all_goals try dsimp only
          · refine ⟨by omega, hall, by decide, fun e => (by cases e), fun _ => ?_⟩
            rw [hv]
            cases gr with
            | false => rw [← i4 rfl]; exact h
            | true => have := i5 rfl; omega
          · omega
      · obtain rfl : i = l.length := by omega
        rw [List.take_length] at i2 i4 i5
        rw [hnum, if_neg (by rw [i2]; decide)] at hk
        cases gr with
        | true =>
          rw [if_pos (i5 rfl)] at hk
          repeat (first | exact endA | refine wkP ?_ | refine opB (fun b => ?_) | refine opA (fun a' c' hc1 hc2 => ?_) | (apply GJ.and; exact rfl; intro hg) | (apply GJ.or; exact rfl; intro hg))
          exact Wk.outS Sup.auto (.refl _) hk
        | false =>
          rw [← i4 rfl, if_neg (by omega)] at hk
          repeat (first | exact endA | refine wkP ?_ | refine opB (fun b => ?_) | refine opA (fun a' c' hc1 hc2 => ?_) | (apply GJ.and; exact rfl; intro hg) | (apply GJ.or; exact rfl; intro hg))
          exact Wk.outS Sup.auto (.refl _) hk
    · repeat (first | exact endA | refine wkP ?_ | refine opB (fun b => ?_) | refine opA (fun a' c' hc1 hc2 => ?_) | (apply GJ.and; exact rfl; intro hg) | (apply GJ.or; exact rfl; intro hg))
      refine LoopOk.at (ι := Nat × Nat × Bool) Keep.auto (fun (i, n, gr) => [(23, .int .i64 (i : Int)), (4, .int .u64 (n : Int)), (5, .bool gr)]) (fun (i, n, gr) => own) (fun (i, n, gr) => i ≤ l.length ∧ allDig (l.take i) = true ∧ n < 18446744073709551616 ∧ (gr = false → n = valOf (l.take i)) ∧ (gr = true → 18446744073709551616 ≤ valOf (l.take i))) (fun (i, n, gr) => l.length - i) (0, 0, false) ?_ Sub.auto Sup.auto ?_
      · exact ⟨Nat.zero_le _, rfl, by decide, fun _ => rfl, fun h => by cases h⟩
      rintro ⟨i, n, gr⟩ ⟨i1, i2, i3, i4, i5⟩
      dsimp only [List.cons_append, List.nil_append] at i1 i2 i3 i4 i5 ⊢
      repeat (first | exact endA | refine wkP ?_ | refine opB (fun b => ?_) | refine opA (fun a' c' hc1 hc2 => ?_) | (apply GJ.and; exact rfl; intro hg) | (apply GJ.or; exact rfl; intro hg))
      refine Br.cases (fun hg => ?_) (fun hg => ?_)
      · have hi : i < l.length := by omega
        obtain ⟨c, hc⟩ : ∃ c, l[i]? = some c := ⟨_, List.getElem?_eq_getElem hi⟩
        have htk : l.take (i + 1) = l.take i ++ [c] := by rw [List.take_add_one, hc]; rfl
        have hgc : l[(i : Int).toNat]! = c := by rw [Int.toNat_natCast, List.getElem!_eq_getElem?_getD, hc]; rfl
        have hcn := c.toNat_lt
        have hbad : isDig c.toNat = false → allDig l = false := fun h => by
          unfold allDig
          rw [List.all_eq_false]
          exact ⟨c, List.mem_of_getElem? hc, by rw [h]; decide⟩
        repeat (first | exact endA | refine wkP ?_ | refine opB (fun b => ?_) | refine opA (fun a' c' hc1 hc2 => ?_) | (apply GJ.and; exact rfl; intro hg) | (apply GJ.or; exact rfl; intro hg))
        try rw [hgc]
        by_cases hlo : c.toNat < 48
        · have hd := hbad (by simp [isDig]; omega)
          rw [hnum, if_pos hd] at hk
          repeat (first | exact endA | refine wkP ?_ | refine opB (fun b => ?_) | refine opA (fun a' c' hc1 hc2 => ?_) | (apply GJ.and; exact rfl; intro hg) | (apply GJ.or; exact rfl; intro hg))
          exact Wk.outS Sup.auto (.refl _) hk
        by_cases hhi : 57 < c.toNat
        · have hd := hbad (by simp [isDig]; omega)
          rw [hnum, if_pos hd] at hk
          repeat (first | exact endA | refine wkP ?_ | refine opB (fun b => ?_) | refine opA (fun a' c' hc1 hc2 => ?_) | (apply GJ.and; exact rfl; intro hg) | (apply GJ.or; exact rfl; intro hg))
          try rw [hgc]
          repeat (first | exact endA | refine wkP ?_ | refine opB (fun b => ?_) | refine opA (fun a' c' hc1 hc2 => ?_) | (apply GJ.and; exact rfl; intro hg) | (apply GJ.or; exact rfl; intro hg))
          exact Wk.outS Sup.auto (.refl _) hk
        have hdig : isDig c.toNat = true := by simp [isDig]; omega
        have hall : allDig (l.take (i + 1)) = true := by
          rw [htk]; unfold allDig at i2 ⊢; rw [List.all_append, i2]; simp [hdig]
        have hv : valOf (l.take (i + 1)) = 10 * valOf (l.take i) + (c.toNat - 48) := by rw [htk, valOf_snoc]
        repeat (first | exact endA | refine wkP ?_ | refine opB (fun b => ?_) | refine opA (fun a' c' hc1 hc2 => ?_) | (apply GJ.and; exact rfl; intro hg) | (apply GJ.or; exact rfl; intro hg))
        try rw [hgc]
        repeat (first | exact endA | refine wkP ?_ | refine opB (fun b => ?_) | refine opA (fun a' c' hc1 hc2 => ?_) | (apply GJ.and; exact rfl; intro hg) | (apply GJ.or; exact rfl; intro hg))
        try rw [hgc]
        repeat (first | exact endA | refine wkP ?_ | refine opB (fun b => ?_) | refine opA (fun a' c' hc1 hc2 => ?_) | (apply GJ.and; exact rfl; intro hg) | (apply GJ.or; exact rfl; intro hg))
        rw [show ((c.toNat : Int) - 48) % 256 = ((c.toNat - 48 : Nat) : Int) by omega]
        refine wline_ok (m := 10) (x := n) (y := c.toNat - 48) (by decide) i3 (by omega) (fun h => ?_) (fun h => ?_)
        · repeat (first | exact endA | refine wkP ?_ | refine opB (fun b => ?_) | refine opA (fun a' c' hc1 hc2 => ?_) | (apply GJ.and; exact rfl; intro hg) | (apply GJ.or; exact rfl; intro hg))
          refine Wk.id ⟨(i + 1, 10 * n + (c.toNat - 48), gr), ⟨rfl, ?_⟩, ?_, Sub.auto, Sup.auto⟩
          all_goals try dsimp only
          · exact ⟨by omega, hall, h, fun e => by rw [hv, i4 e], fun e => by have := i5 e; omega⟩
          · omega
        · repeat (first | exact endA | refine wkP ?_ | refine opB (fun b => ?_) | refine opA (fun a' c' hc1 hc2 => ?_) | (apply GJ.and; exact rfl; intro hg) | (apply GJ.or; exact rfl; intro hg))
          refine Wk.id ⟨(i + 1, 0, true), ⟨rfl, ?_⟩, ?_, Sub.auto, Sup.auto⟩
          all_goals try dsimp only
          · refine ⟨by omega, hall, by decide, fun e => (by cases e), fun _ => ?_⟩
            rw [hv]
            cases gr with
            | false => rw [← i4 rfl]; exact h
            | true => have := i5 rfl; omega
          · omega
      · obtain rfl : i = l.length := by omega
        rw [List.take_length] at i2 i4 i5
        rw [hnum, if_neg (by rw [i2]; decide)] at hk
        cases gr with
        | true =>
          rw [if_pos (i5 rfl)] at hk
          repeat (first | exact endA | refine wkP ?_ | refine opB (fun b => ?_) | refine opA (fun a' c' hc1 hc2 => ?_) | (apply GJ.and; exact rfl; intro hg) | (apply GJ.or; exact rfl; intro hg))
          exact Wk.outS Sup.auto (.refl _) hk
        | false =>
          rw [← i4 rfl, if_neg (by omega)] at hk
          repeat (first | exact endA | refine wkP ?_ | refine opB (fun b => ?_) | refine opA (fun a' c' hc1 hc2 => ?_) | (apply GJ.and; exact rfl; intro hg) | (apply GJ.or; exact rfl; intro hg))
          exact Wk.outS Sup.auto (.refl _) hk
end
end Go.Proofs.YtepdapdekaiioaaGreatDoor
end
section
/- The reader of specifications in memory: its parts, and its first steps. -/
namespace Go.Proofs.YtepdapdekaiioaaGreatDoor
open Go Go.E
set_option linter.unusedVariables false
set_option linter.unusedSectionVars false
set_option linter.unusedSimpArgs false
set_option maxRecDepth 10000
def fatV (l : List TokD) (s : PS) : Nat := if s.code = 0 then 0 else (l[s.fat]?.getD endT).a
def readV (la : Option Addr) (lc : Nat) (l : List TokD) (s : PS) (a : SpecA) : List Value := [.slice la l.length lc, .int .i64 (s.at' : Int), .slice a.na s.nodes.length a.nc, .slice a.da s.defs.length a.dc, .int .i64 (s.code : Int), .int .i64 (fatV l s : Int)]
/-- Tokens that last, the last one of which, and no other one, is the end. -/
structure ToksOk (ro : Ro) (la : Option Addr) (lc : Nat) (l : List TokD) : Prop where
  rs : Rs ro la l.length lc 3 (toksV l)
  pos : 0 < l.length
  last : ∀ (i : Nat) (t : TokD), l[i]? = some t → (t.kind = 5 ↔ i + 1 = l.length)
  le : l.length ≤ 8193
  text : ∀ t ∈ l, t.text.length ≤ 65536
theorem ToksOk.up {ro ro' : Ro} {la : Option Addr} {lc : Nat} {l : List TokD} (h : ToksOk ro la lc l) (hl : Le ro ro') : ToksOk ro' la lc l := ⟨Rs.up h.rs, h.pos, h.last, h.le, h.text⟩
/-- Where the reader stands. -/
structure RdOk (ro : Ro) (l : List TokD) (s : PS) (a : SpecA) : Prop where
  at' : s.at' < l.length
  fat : s.fat < l.length
  code : s.code ≤ 1000
  build : BuildOk ro ⟨s.nodes, s.defs⟩ a
  sm : ∀ d ∈ s.nodes, NodeSm d
  nn : s.nodes.length ≤ 2048
  nd : s.defs.length ≤ 64
theorem Nf.self : ∀ l : List Value, Nf l l
  | [] => Nf.nil
  | x :: l => Nf.cons x (Nf.self l)
section
variable {ro ro' : Ro} {l : List TokD} {s : PS} {a : SpecA} {la : Option Addr} {lc : Nat}
theorem RdOk.up (h : RdOk ro l s a) (hl : Le ro ro') : RdOk ro' l s a := ⟨h.at', h.fat, h.code, ⟨h.build.len, fun i d x h1 h2 => (h.build.each i d x h1 h2).le hl, h.build.nc, h.build.dc⟩, h.sm, h.nn, h.nd⟩
theorem RdOk.wrong (h : RdOk ro l s a) (e : Nat) (he : e ≤ 1000) : RdOk ro l (wrongP e s) a := by
  unfold wrongP
  split
  · exact ⟨h.at', h.at', he, h.build, h.sm, h.nn, h.nd⟩
  · exact h
theorem peekT_at (ht : ToksOk ro la lc l) (h : RdOk ro l s a) : ∃ i, (if s.code = 0 then s.at' else l.length - 1) = i ∧ l[i]? = some (peekP (listE l) s) := by
  unfold peekP listE
  by_cases hc : s.code = 0
  · rw [if_pos hc, if_pos hc]
    refine ⟨_, rfl, ?_⟩
    dsimp only
    rw [List.getElem?_eq_getElem h.at']; rfl
  · rw [if_neg hc, if_neg hc]
    refine ⟨_, rfl, ?_⟩
    dsimp only
    have hp := ht.pos
    rw [List.getLast?_eq_getElem?, List.getElem?_eq_getElem (by omega)]; rfl
theorem peekT_mem (ht : ToksOk ro la lc l) (h : RdOk ro l s a) : peekP (listE l) s ∈ l := by
  obtain ⟨i, _, hi⟩ := peekT_at ht h
  exact List.mem_of_getElem? hi
/-- What isn't the end may be stepped over. -/
theorem RdOk.step (ht : ToksOk ro la lc l) (h : RdOk ro l s a) (hk : (peekP (listE l) s).kind ≠ 5) : RdOk ro l (stepP s) a := by
  obtain ⟨i, e, hi⟩ := peekT_at ht h
  have hl := (List.getElem?_eq_some_iff.1 hi).1
  have h5 := mt (ht.last i _ hi).2 hk
  refine ⟨?_, h.fat, h.code, h.build, h.sm, h.nn, h.nd⟩
  show s.at' + 1 < l.length
  have := h.at'
  split at e <;> omega
end
section
variable {ro : Ro} {own q : Chs} {K : Value → Ro → Chs → Prop} {l : List TokD} {s : PS} {a : SpecA} {la : Option Addr} {lc r : Nat}
abbrev rdC (r : Nat) (la : Option Addr) (lc : Nat) (l : List TokD) (s : PS) (a : SpecA) : Chunk := .blk r 69 (readV la lc l s a)
theorem rok_ok (h : RdOk ro l s a) (ht : Take own (rdC r la lc l s a) q) (hk : K (.bool (decide (s.code = 0))) ro (rdC r la lc l s a :: q)) : CallOk Tryz.prog 21 #[ptr' r] ro own K := by
  refine CallOk.perm ht.perm ?_
  have e : decide ((s.code : Int) = 0) = decide (s.code = 0) := decide_eq_decide.2 (by omega)
  refine CallOk.intro (args := [_]) (rs := [_]) T_ok Tryz.func21 Tryz.call21 rfl rfl (by kernel_rfl) rfl rfl ?_
  repeat (first | exact endA | refine wkP ?_ | refine opB (fun b => ?_) | refine opA (fun a' c' hc1 hc2 => ?_) | (apply GJ.and; exact rfl; intro hg) | (apply GJ.or; exact rfl; intro hg))
  rw [e]
  exact Wk.id hk
theorem rpeek_ok (hT : ToksOk ro la lc l) (h : RdOk ro l s a) (ht : Take own (rdC r la lc l s a) q) (hk : K (.agg (peekP (listE l) s).v.toArray) ro (rdC r la lc l s a :: q)) : CallOk Tryz.prog 22 #[ptr' r] ro own K := by
  refine CallOk.perm ht.perm ?_
  have hr := hT.rs
  have hle := hr.le
  have hmx := hr.max
  unfold maxLen at hmx
  have hp := hT.pos
  have hat := h.at'
  have hl2 := hT.le
  obtain ⟨i, hi, hti⟩ := peekT_at hT h
  generalize peekP (listE l) s = t at *
  have hdr := toksV_drop l i t hti
  obtain ⟨tk, ta, tt⟩ := t
  dsimp only [TokD.v] at hdr hk ⊢
  refine CallOk.intro (args := [_]) (rs := [_]) T_ok Tryz.func22 Tryz.call22 rfl rfl (by kernel_rfl) rfl rfl ?_
  repeat (first | exact endA | refine wkP ?_ | refine opB (fun b => ?_) | refine opA (fun a' c' hc1 hc2 => ?_) | (apply GJ.and; exact rfl; intro hg) | (apply GJ.or; exact rfl; intro hg))
  refine rok_ok h Take.auto ?_
  by_cases hc : s.code = 0
  · rw [if_pos hc] at hi
    subst hi
    repeat (first | exact endA | refine wkP ?_ | refine opB (fun b => ?_) | refine opA (fun a' c' hc1 hc2 => ?_) | (apply GJ.and; exact rfl; intro hg) | (apply GJ.or; exact rfl; intro hg))
    refine QOk.loadRow rfl rfl (LdN.atR (own := q) (Rs.rds (own := q) (ro' := ro) hr) hdr (by rw [Int.toNat_natCast])) rfl ?_
    repeat (first | exact endA | refine wkP ?_ | refine opB (fun b => ?_) | refine opA (fun a' c' hc1 hc2 => ?_) | (apply GJ.and; exact rfl; intro hg) | (apply GJ.or; exact rfl; intro hg))
    exact Wk.outS Sup.auto (.refl _) hk
  · rw [if_neg hc] at hi
    subst hi
    repeat (first | exact endA | refine wkP ?_ | refine opB (fun b => ?_) | refine opA (fun a' c' hc1 hc2 => ?_) | (apply GJ.and; exact rfl; intro hg) | (apply GJ.or; exact rfl; intro hg))
    refine QOk.loadRow rfl rfl (LdN.atR (own := q) (Rs.rds (own := q) (ro' := ro) hr) hdr (by rw [show ((l.length : Int) - 1).toNat = l.length - 1 by omega])) rfl ?_
    repeat (first | exact endA | refine wkP ?_ | refine opB (fun b => ?_) | refine opA (fun a' c' hc1 hc2 => ?_) | (apply GJ.and; exact rfl; intro hg) | (apply GJ.or; exact rfl; intro hg))
    exact Wk.outS Sup.auto (.refl _) hk
theorem rwrong_ok {e : Nat} (he : e ≠ 0) (hT : ToksOk ro la lc l) (h : RdOk ro l s a) (ht : Take own (rdC r la lc l s a) q) (hk : K (.tuple #[]) ro (rdC r la lc l (wrongP e s) a :: q)) : CallOk Tryz.prog 39 #[ptr' r, .int .i64 (e : Int)] ro own K := by
  refine CallOk.perm ht.perm ?_
  refine CallOk.intro (args := [_, _]) (rs := []) T_ok Tryz.func39 Tryz.call39 rfl rfl (by kernel_rfl) rfl rfl ?_
  by_cases hc : s.code = 0
  · have hw : readV la lc l (wrongP e s) a = [.slice la l.length lc, .int .i64 (s.at' : Int), .slice a.na s.nodes.length a.nc, .slice a.da s.defs.length a.dc, .int .i64 (e : Int), .int .i64 ((peekP (listE l) s).a : Int)] := by
      unfold wrongP peekP listE readV fatV
      rw [if_pos hc, if_pos hc]
      dsimp only
      rw [if_neg he]
    unfold rdC at hk
    rw [hw] at hk
    repeat (first | exact endA | refine wkP ?_ | refine opB (fun b => ?_) | refine opA (fun a' c' hc1 hc2 => ?_) | (apply GJ.and; exact rfl; intro hg) | (apply GJ.or; exact rfl; intro hg))
    refine rpeek_ok hT h Take.auto ?_
    generalize peekP (listE l) s = z at *
    obtain ⟨tk, ta, tt⟩ := z
    dsimp only [TokD.v] at hk ⊢
    unfold rdC readV
    repeat (first | exact endA | refine wkP ?_ | refine opB (fun b => ?_) | refine opA (fun a' c' hc1 hc2 => ?_) | (apply GJ.and; exact rfl; intro hg) | (apply GJ.or; exact rfl; intro hg))
    refine OpOk.storePart (o := 0 + 4) (vs := [.int .i64 (e : Int), .int .i64 (ta : Int)]) rfl rfl rfl rfl rfl (by show 0 + 4 + 2 ≤ 6; decide) (cs' := [.slice la l.length lc, .int .i64 (s.at' : Int), .slice a.na s.nodes.length a.nc, .slice a.da s.defs.length a.dc, .int .i64 (e : Int), .int .i64 (ta : Int)]) (Nf.self _) ?_
    repeat (first | exact endA | refine wkP ?_ | refine opB (fun b => ?_) | refine opA (fun a' c' hc1 hc2 => ?_) | (apply GJ.and; exact rfl; intro hg) | (apply GJ.or; exact rfl; intro hg))
    exact Wk.outS Sup.auto (.refl _) hk
  · have hw : wrongP e s = s := by unfold wrongP; rw [if_neg hc]
    rw [hw] at hk
    repeat (first | exact endA | refine wkP ?_ | refine opB (fun b => ?_) | refine opA (fun a' c' hc1 hc2 => ?_) | (apply GJ.and; exact rfl; intro hg) | (apply GJ.or; exact rfl; intro hg))
    exact Wk.outS Sup.auto (.refl _) hk
theorem ris_ok {k : Nat} {t : List UInt8} (hT : ToksOk ro la lc l) (h : RdOk ro l s a) (ht : Take own (rdC r la lc l s a) q) (hk : K (.bool (isP (listE l) k t s)) ro (rdC r la lc l s a :: q)) : CallOk Tryz.prog 64 #[ptr' r, .int .i64 (k : Int), str t] ro own K := by
  refine CallOk.perm ht.perm ?_
  refine CallOk.intro (args := [_, _, _]) (rs := [_]) T_ok Tryz.func64 Tryz.call64 rfl rfl (by kernel_rfl) rfl rfl ?_
  repeat (first | exact endA | refine wkP ?_ | refine opB (fun b => ?_) | refine opA (fun a' c' hc1 hc2 => ?_) | (apply GJ.and; exact rfl; intro hg) | (apply GJ.or; exact rfl; intro hg))
  refine rpeek_ok hT h Take.auto ?_
  unfold isP at hk
  generalize peekP (listE l) s = z at *
  obtain ⟨tk, ta, tt⟩ := z
  dsimp only [TokD.v] at hk ⊢
  rw [← show decide ((tk : Int) = (k : Int)) = decide (tk = k) from decide_eq_decide.2 (by omega)] at hk
  repeat (first | exact endA | refine wkP ?_ | refine opB (fun b => ?_) | refine opA (fun a' c' hc1 hc2 => ?_) | (apply GJ.and; exact rfl; intro hg) | (apply GJ.or; exact rfl; intro hg))
  exact Wk.outS Sup.auto (.refl _) hk
theorem stepC {r : Nat} : rdC r la lc l (stepP s) a = .blk r 69 [.slice la l.length lc, .int .i64 ((s.at' : Int) + 1), .slice a.na s.nodes.length a.nc, .slice a.da s.defs.length a.dc, .int .i64 (s.code : Int), .int .i64 (fatV l s : Int)] := rfl
theorem reat_ok {k : Nat} {t : List UInt8} (hk5 : k ≠ 5) (hT : ToksOk ro la lc l) (h : RdOk ro l s a) (ht : Take own (rdC r la lc l s a) q) (hk : RdOk ro l (eatP (listE l) k t s).2 a → K (.bool (eatP (listE l) k t s).1) ro (rdC r la lc l (eatP (listE l) k t s).2 a :: q)) : CallOk Tryz.prog 86 #[ptr' r, .int .i64 (k : Int), str t] ro own K := by
  refine CallOk.perm ht.perm ?_
  refine CallOk.intro (args := [_, _, _]) (rs := [_]) T_ok Tryz.func86 Tryz.call86 rfl rfl (by kernel_rfl) rfl rfl ?_
  repeat (first | exact endA | refine wkP ?_ | refine opB (fun b => ?_) | refine opA (fun a' c' hc1 hc2 => ?_) | (apply GJ.and; exact rfl; intro hg) | (apply GJ.or; exact rfl; intro hg))
  refine ris_ok hT h Take.auto ?_
  unfold eatP at hk
  have hstep := h.step hT
  have hi : isP (listE l) k t s = true → (peekP (listE l) s).kind = k := fun hi => by
    unfold isP at hi
    rw [Bool.and_eq_true, decide_eq_true_eq] at hi
    exact hi.1
  cases hc : isP (listE l) k t s with
  | false =>
    rw [hc, if_neg (by decide)] at hk
    repeat (first | exact endA | refine wkP ?_ | refine opB (fun b => ?_) | refine opA (fun a' c' hc1 hc2 => ?_) | (apply GJ.and; exact rfl; intro hg) | (apply GJ.or; exact rfl; intro hg))
    exact Wk.outS Sup.auto (.refl _) (hk h)
  | true =>
    rw [hc, if_pos rfl] at hk
    have hk := hk (hstep (by rw [hi hc]; exact hk5))
    dsimp only at hk
    rw [stepC] at hk
    have hat := h.at'
    have hl2 := hT.le
    unfold rdC readV
    repeat (first | exact endA | refine wkP ?_ | refine opB (fun b => ?_) | refine opA (fun a' c' hc1 hc2 => ?_) | (apply GJ.and; exact rfl; intro hg) | (apply GJ.or; exact rfl; intro hg))
    exact Wk.outS Sup.auto (.refl _) hk
theorem rsign_ok {t : List UInt8} (hT : ToksOk ro la lc l) (h : RdOk ro l s a) (ht : Take own (rdC r la lc l s a) q) (hk : RdOk ro l (signP (listE l) t s).2 a → K (.bool (signP (listE l) t s).1) ro (rdC r la lc l (signP (listE l) t s).2 a :: q)) : CallOk Tryz.prog 62 #[ptr' r, str t] ro own K := by
  refine CallOk.perm ht.perm ?_
  refine CallOk.intro (args := [_, _]) (rs := [_]) T_ok Tryz.func62 Tryz.call62 rfl rfl (by kernel_rfl) rfl rfl ?_
  repeat (first | exact endA | refine wkP ?_ | refine opB (fun b => ?_) | refine opA (fun a' c' hc1 hc2 => ?_) | (apply GJ.and; exact rfl; intro hg) | (apply GJ.or; exact rfl; intro hg))
  refine reat_ok (k := 4) (by decide) hT h Take.auto (fun h2 => ?_)
  repeat (first | exact endA | refine wkP ?_ | refine opB (fun b => ?_) | refine opA (fun a' c' hc1 hc2 => ?_) | (apply GJ.and; exact rfl; intro hg) | (apply GJ.or; exact rfl; intro hg))
  exact Wk.outS Sup.auto (.refl _) (hk h2)
theorem rword_ok {t : List UInt8} (hT : ToksOk ro la lc l) (h : RdOk ro l s a) (ht : Take own (rdC r la lc l s a) q) (hk : RdOk ro l (kwP (listE l) t s).2 a → K (.bool (kwP (listE l) t s).1) ro (rdC r la lc l (kwP (listE l) t s).2 a :: q)) : CallOk Tryz.prog 89 #[ptr' r, str t] ro own K := by
  refine CallOk.perm ht.perm ?_
  refine CallOk.intro (args := [_, _]) (rs := [_]) T_ok Tryz.func89 Tryz.call89 rfl rfl (by kernel_rfl) rfl rfl ?_
  repeat (first | exact endA | refine wkP ?_ | refine opB (fun b => ?_) | refine opA (fun a' c' hc1 hc2 => ?_) | (apply GJ.and; exact rfl; intro hg) | (apply GJ.or; exact rfl; intro hg))
  refine reat_ok (k := 1) (by decide) hT h Take.auto (fun h2 => ?_)
  repeat (first | exact endA | refine wkP ?_ | refine opB (fun b => ?_) | refine opA (fun a' c' hc1 hc2 => ?_) | (apply GJ.and; exact rfl; intro hg) | (apply GJ.or; exact rfl; intro hg))
  exact Wk.outS Sup.auto (.refl _) (hk h2)
theorem rmust_ok {t : List UInt8} (hT : ToksOk ro la lc l) (h : RdOk ro l s a) (ht : Take own (rdC r la lc l s a) q) (hk : RdOk ro l (mustP (listE l) t s) a → K (.tuple #[]) ro (rdC r la lc l (mustP (listE l) t s) a :: q)) : CallOk Tryz.prog 37 #[ptr' r, str t] ro own K := by
  refine CallOk.perm ht.perm ?_
  refine CallOk.intro (args := [_, _]) (rs := []) T_ok Tryz.func37 Tryz.call37 rfl rfl (by kernel_rfl) rfl rfl ?_
  repeat (first | exact endA | refine wkP ?_ | refine opB (fun b => ?_) | refine opA (fun a' c' hc1 hc2 => ?_) | (apply GJ.and; exact rfl; intro hg) | (apply GJ.or; exact rfl; intro hg))
  refine rsign_ok hT h Take.auto (fun h2 => ?_)
  unfold mustP at hk
  cases hc : (signP (listE l) t s).1 with
  | true =>
    rw [hc, if_pos rfl] at hk
    repeat (first | exact endA | refine wkP ?_ | refine opB (fun b => ?_) | refine opA (fun a' c' hc1 hc2 => ?_) | (apply GJ.and; exact rfl; intro hg) | (apply GJ.or; exact rfl; intro hg))
    exact Wk.outS Sup.auto (.refl _) (hk h2)
  | false =>
    rw [hc, if_neg (by decide)] at hk
    have hs : (signP (listE l) t s).2 = s := by
      unfold signP eatP at hc ⊢
      split at hc
      · cases hc
      · rename_i hn
        rw [if_neg hn]
    rw [hs]
    repeat (first | exact endA | refine wkP ?_ | refine opB (fun b => ?_) | refine opA (fun a' c' hc1 hc2 => ?_) | (apply GJ.and; exact rfl; intro hg) | (apply GJ.or; exact rfl; intro hg))
    refine rwrong_ok (e := 5) (by decide) hT h Take.auto ?_
    repeat (first | exact endA | refine wkP ?_ | refine opB (fun b => ?_) | refine opA (fun a' c' hc1 hc2 => ?_) | (apply GJ.and; exact rfl; intro hg) | (apply GJ.or; exact rfl; intro hg))
    exact Wk.outS Sup.auto (.refl _) (hk (h.wrong 5 (by decide)))
end
end Go.Proofs.YtepdapdekaiioaaGreatDoor
end
section
/- Contracts of parse: Word, Fixed; strings.Contains and strconv.Itoa off the shelf. -/
namespace Go.Proofs
open Go.Shelf
def Tryz.laysItoa_ren : Go.Shelf.Ren := ⟨fun | 171 => 35 | 243 => 61 | 246 => 85 | 283 => 102 | 284 => 103 | 285 => 104 | 286 => 105 | 129 => 112 | 317 => 111 | 318 => 113 | 319 => 114 | 320 => 115 | 337 => 117 | 338 => 118 | n => n, fun | 3 => 3 | 9 => 9 | 2 => 2 | 4 => 4 | 171 => 138 | 0 => 0 | 53 => 48 | 37 => 101 | 5 => 5 | 173 => 141 | 212 => 159 | 51 => 129 | 20 => 20 | 213 => 160 | 46 => 133 | 232 => 167 | 233 => 168 | n => n, fun | 17 => 3 | 18 => 4 | 19 => 5 | n => n⟩
theorem Tryz.laysItoa : Go.Proofs.Lays.n171 Tryz.prog Tryz.laysItoa_ren := {
  mixed := by kernel_rfl
  f129 := Tryz.func112.trans (congrArg some (by kernel_rfl))
  f171 := Tryz.func35.trans (congrArg some (by kernel_rfl))
  f243 := Tryz.func61.trans (congrArg some (by kernel_rfl))
  f246 := Tryz.func85.trans (congrArg some (by kernel_rfl))
  f283 := Tryz.func102.trans (congrArg some (by kernel_rfl))
  f284 := Tryz.func103.trans (congrArg some (by kernel_rfl))
  f285 := Tryz.func104.trans (congrArg some (by kernel_rfl))
  f286 := Tryz.func105.trans (congrArg some (by kernel_rfl))
  f317 := Tryz.func111.trans (congrArg some (by kernel_rfl))
  f318 := Tryz.func113.trans (congrArg some (by kernel_rfl))
  f319 := Tryz.func114.trans (congrArg some (by kernel_rfl))
  f320 := Tryz.func115.trans (congrArg some (by kernel_rfl))
  f337 := Tryz.func117.trans (congrArg some (by kernel_rfl))
  f338 := Tryz.func118.trans (congrArg some (by kernel_rfl))
  t0 := Tryz.underlying0
  a0 := Tryz.isAgg0
  z0 := Tryz.sizeOf0
  v0 := Tryz.zeroValue0
  t2 := Tryz.underlying2
  a2 := Tryz.isAgg2
  z2 := Tryz.sizeOf2
  v2 := Tryz.zeroValue2
  t3 := Tryz.underlying3
  a3 := Tryz.isAgg3
  z3 := Tryz.sizeOf3
  v3 := Tryz.zeroValue3
  t4 := Tryz.underlying4
  a4 := Tryz.isAgg4
  z4 := Tryz.sizeOf4
  v4 := Tryz.zeroValue4
  t5 := Tryz.underlying5
  a5 := Tryz.isAgg5
  z5 := Tryz.sizeOf5
  v5 := Tryz.zeroValue5
  t9 := Tryz.underlying9
  a9 := Tryz.isAgg9
  z9 := Tryz.sizeOf9
  v9 := Tryz.zeroValue9
  t20 := Tryz.underlying20
  a20 := Tryz.isAgg20
  z20 := Tryz.sizeOf20
  v20 := Tryz.zeroValue20
  t37 := Tryz.underlying101
  a37 := Tryz.isAgg101
  z37 := Tryz.sizeOf101
  v37 := Tryz.zeroValue101
  t46 := Tryz.underlying133
  a46 := Tryz.isAgg133
  z46 := Tryz.sizeOf133
  v46 := Tryz.zeroValue133
  t51 := Tryz.underlying129
  a51 := Tryz.isAgg129
  z51 := Tryz.sizeOf129
  v51 := Tryz.zeroValue129
  t53 := Tryz.underlying48
  a53 := Tryz.isAgg48
  z53 := Tryz.sizeOf48
  v53 := Tryz.zeroValue48
  t171 := Tryz.underlying138
  a171 := Tryz.isAgg138
  z171 := Tryz.sizeOf138
  v171 := Tryz.zeroValue138
  t173 := Tryz.underlying141
  a173 := Tryz.isAgg141
  z173 := Tryz.sizeOf141
  v173 := Tryz.zeroValue141
  t212 := Tryz.underlying159
  a212 := Tryz.isAgg159
  z212 := Tryz.sizeOf159
  v212 := Tryz.zeroValue159
  t213 := Tryz.underlying160
  a213 := Tryz.isAgg160
  z213 := Tryz.sizeOf160
  t232 := Tryz.underlying167
  a232 := Tryz.isAgg167
  z232 := Tryz.sizeOf167
  v232 := Tryz.zeroValue167
  t233 := Tryz.underlying168
  a233 := Tryz.isAgg168
  z233 := Tryz.sizeOf168
  v233 := Tryz.zeroValue168
  g17 := by kernel_rfl
  g18 := by kernel_rfl
  g19 := by kernel_rfl }
end Go.Proofs
namespace Go.Proofs
open Go.Shelf
def Tryz.laysContains_ren : Go.Shelf.Ren := ⟨fun | 143 => 48 | 144 => 26 | 217 => 95 | 219 => 72 | 224 => 97 | 225 => 96 | 266 => 109 | 267 => 98 | 314 => 110 | n => n, fun | 3 => 3 | 4 => 4 | 5 => 5 | 9 => 9 | 46 => 133 | 51 => 129 | 146 => 156 | n => n, fun | 1 => 2 | n => n⟩
theorem Tryz.laysContains : Go.Proofs.Lays.n144 Tryz.prog Tryz.laysContains_ren := {
  mixed := by kernel_rfl
  f143 := Tryz.func48.trans (congrArg some (by kernel_rfl))
  f144 := Tryz.func26.trans (congrArg some (by kernel_rfl))
  f217 := Tryz.func95.trans (congrArg some (by kernel_rfl))
  f219 := Tryz.func72.trans (congrArg some (by kernel_rfl))
  f224 := Tryz.func97.trans (congrArg some (by kernel_rfl))
  f225 := Tryz.func96.trans (congrArg some (by kernel_rfl))
  f266 := Tryz.func109.trans (congrArg some (by kernel_rfl))
  f267 := Tryz.func98.trans (congrArg some (by kernel_rfl))
  f314 := Tryz.func110.trans (congrArg some (by kernel_rfl))
  t3 := Tryz.underlying3
  a3 := Tryz.isAgg3
  z3 := Tryz.sizeOf3
  v3 := Tryz.zeroValue3
  t4 := Tryz.underlying4
  a4 := Tryz.isAgg4
  z4 := Tryz.sizeOf4
  v4 := Tryz.zeroValue4
  t5 := Tryz.underlying5
  a5 := Tryz.isAgg5
  z5 := Tryz.sizeOf5
  v5 := Tryz.zeroValue5
  t9 := Tryz.underlying9
  a9 := Tryz.isAgg9
  z9 := Tryz.sizeOf9
  v9 := Tryz.zeroValue9
  t46 := Tryz.underlying133
  a46 := Tryz.isAgg133
  z46 := Tryz.sizeOf133
  v46 := Tryz.zeroValue133
  t51 := Tryz.underlying129
  a51 := Tryz.isAgg129
  z51 := Tryz.sizeOf129
  v51 := Tryz.zeroValue129
  t146 := Tryz.underlying156
  a146 := Tryz.isAgg156
  z146 := Tryz.sizeOf156
  v146 := Tryz.zeroValue156
  g1 := by kernel_rfl }
end Go.Proofs
namespace Go.E
open Go
/-- A contract off the shelf that reads a cell that lasts. -/
theorem CallOk.ofCell {P : Program} {f : FuncId} {ro : Ro} {own : Chs} {K : Value → Ro → Chs → Prop} {args : Array Value} {v x : Value} {b : Nat} (enter : ∀ args w, (callFunc f args).run P w = .ok (.enter f args) w) (hl : Ld ro own b 0 x)
    (h : ∀ w : World, w.cell? ⟨b, 0, none⟩ = some x → Calls P f args w fun e w' => e = .returned v ∧ w' = w) (hk : K v ro own) : CallOk P f args ro own K :=
  CallOk.body enter fun h0 hs w hw => (h w (by subst hw; rw [cell_eq]; exact hl _ hs)).mono fun e w' ⟨he, hb⟩ => ⟨v, he, by subst hb; exact ⟨rfl, rfl, rfl, rfl⟩, ro, own, Le.refl _, by subst hb; rw [hw]; exact hs, hk⟩
end Go.E
namespace Go.Proofs.YtepdapdekaiioaaGreatDoor
open Go Go.E
set_option linter.unusedVariables false
set_option linter.unusedSectionVars false
set_option linter.unusedSimpArgs false
set_option maxRecDepth 10000
/-- What bytealg.MaxLen holds lasts. -/
def MaxOk (ro : Ro) : Prop := ∃ m : Int, ∀ own, Ld ro own 2 0 (.int .i64 m)
theorem MaxOk.le {ro ro' : Ro} (h : MaxOk ro) (hl : Le ro ro') : MaxOk ro' := by
  obtain ⟨m, hm⟩ := h
  exact ⟨m, fun own g hs => hm own g (hs.leq ⟨hl.le⟩)⟩
theorem itoa_ok {ro : Ro} {own : Chs} {K : Value → Ro → Chs → Prop} {z : Int} (hz : 0 ≤ z ∧ z < 100) (hk : K (str (Lib.itoa z)) ro own) : CallOk Tryz.prog 35 #[.int .i64 z] ro own K := by
  obtain ⟨n, rfl⟩ : ∃ n : Nat, z = (n : Int) := ⟨z.toNat, by omega⟩
  have e : Lib.itoa (n : Int) = Lib.decDigits n := by unfold Lib.itoa; rw [if_neg (by omega), Int.toNat_natCast]
  rw [e] at hk
  refine CallOk.ofBelow Tryz.call35 (fun w => ?_) hk
  have h := Go.Proofs.Any.strconv_Itoa_small Tryz.laysItoa n (by omega) w
  rw [show Tryz.laysItoa_ren.f 171 = 35 by kernel_rfl] at h
  refine h.mono fun e w' ⟨he, hb⟩ => ⟨he, ?_⟩
  rw [hb]
  exact Go.RowKit.Below.refl _ _
section
variable {ro : Ro} {own q : Chs} {K : Value → Ro → Chs → Prop}
theorem contains_ok {x y : List UInt8} (hM : MaxOk ro) (hx : x.length ≤ 1000000) (hk : K (.bool (Lib.contains x y)) ro own) : CallOk Tryz.prog 26 #[str x, str y] ro own K := by
  obtain ⟨m, hm⟩ := hM
  refine CallOk.ofCell Tryz.call26 (hm own) (fun w hw => ?_) hk
  have h := Go.Proofs.Any.strings_Contains Tryz.laysContains ⟨x.toArray⟩ ⟨y.toArray⟩ m w (by simp [ByteArray.size]; omega) hw
  rw [show Tryz.laysContains_ren.f 144 = 26 by kernel_rfl] at h
  exact h
end
end Go.Proofs.YtepdapdekaiioaaGreatDoor
end
