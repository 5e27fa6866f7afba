/- Texts of a walk, one behind the other. -/
import Derived.Lib.IndexMore
import Derived.Shelf.Bits.Mul64
import Derived.Ground.NamesProg
import Derived.Shelf.Strconv.Itoa3
import Derived.Shelf.Strings.Search3
import Derived.Test.YtefipginoakecaaGreatDoorMg2
import Derived.Test.YtefipginoakecaaGreatDoorMg3
section
/- Contracts of spec: form. -/
namespace Go.Proofs.YtefipginoakecaaGreatDoor
open Go Go.E
set_option linter.unusedVariables false
set_option maxRecDepth 10000
def plainD (d : NodeD) : Int :=
  if d.kind = 1 ∧ ¬ (1 ≤ d.width ∧ d.width ≤ 8) then 1
  else if (d.kind ≠ 1 ∧ (d.width ≠ 0 ∨ d.little = true)) ∨ (d.width = 1 ∧ d.little = true) ∨ (d.kind ≠ 2 ∧ (d.zig = true ∨ d.lenient = true)) then 5
  else if (d.kind = 1 ∨ d.kind = 2) ∧ (d.max < d.min ∨ mostD d < d.max) then 1
  else if ¬ (d.kind = 1 ∨ d.kind = 2) ∧ (d.min ≠ 0 ∨ d.max ≠ 0) then 5
  else if ¬ ((d.kind = 3 ∨ d.kind = 13) ↔ d.text ≠ []) then 5
  else if (¬ (d.kind = 4 ∨ d.kind = 6 ∨ d.kind = 8) ∧ (d.ereg ≠ [] ∨ d.emul ≠ 0 ∨ d.eadd ≠ 0)) ∨ (d.ereg = [] ∧ d.emul ≠ 0) ∨ (d.ereg ≠ [] ∧ d.emul = 0) then 5
  else 0
def formD (d : NodeD) : Int :=
  if d.kind < 1 ∨ 13 < d.kind then 5
  else if ((d.kind = 6 ∨ d.kind = 7 ∨ d.kind = 8) ∧ d.kids.length ≠ 1) ∨ ((d.kind = 10 ∨ d.kind = 11) ∧ d.kids.length < 1) ∨ (¬ (d.kind = 6 ∨ d.kind = 7 ∨ d.kind = 8) ∧ ¬ (d.kind = 10 ∨ d.kind = 11) ∧ 0 < d.kids.length) then 5
  else if (d.kind = 11 ∧ d.last.length ≠ d.kids.length) ∨ (d.kind ≠ 11 ∧ 0 < d.last.length) then 5
  else if ¬ (d.kind = 5 ↔ 0 < d.fields.length) ∨ (d.kind ≠ 9 ∧ 0 < d.cases.length) then 5
  else if (d.kind = 9 ∧ (d.reg = [] ∨ d.cases.length = 0)) ∨ (d.kind ≠ 9 ∧ (d.reg ≠ [] ∨ d.mod ≠ 0 ∨ d.els ≠ 0)) then 5
  else if d.kind = 9 ∧ d.els < -1 then 5
  else if 64 < d.kids.length ∨ 64 < d.fields.length ∨ 64 < d.cases.length then 2
  else plainD d
section
variable {ro : Ro} {own r : Chs} {K : Value → Ro → Chs → Prop} {g : Chunk → Chs}
theorem plain_ok {d : NodeD} {a : NodeA} (hk : K (.int .i64 (plainD d)) ro own) : CallOk Tryz.prog 88 #[.agg (nodeV d a).toArray] ro own K := by
  refine CallOk.intro (args := [_]) (rs := [_]) T_ok Tryz.func88 Tryz.call88 rfl rfl (by kernel_rfl) rfl rfl ?_
  repeat' (first | exact endA | refine wkT ?_ | refine opB (fun b => ?_) | refine opA (fun a' c' hc1 hc2 => ?_) | (apply GJ.and; exact rfl; intro hg) | (apply GJ.or; exact rfl; intro hg) | refine SeqOk.pass ?_ | refine Br.cases (fun h => ?_) (fun h => ?_) | (show GJ _ _ _ _ _ _ _; first | refine GJ.casesT (fun h => ?_) (fun h => ?_) | refine GJ.casesF (fun h => ?_) (fun h => ?_)) | refine Bs.all ?_ | (show QOk _ _ _ _ _ _ _; refine QOk.build rfl rfl Nf.auto ?_) | (show OpOk _ _ _ _ _ _ _; refine OpOk.neqStruct rfl rfl rfl rfl (by kernel_rfl) (by kernel_rfl) (by kernel_rfl) ?_) | (show CallOk _ _ _ _ _ _; first | refine width_ok ?_ | refine number_ok ?_ | refine smost_ok ?_))
  all_goals refine Wk.outV Sup.auto hk (congrArg (Value.int .i64) ?_)
  all_goals (unfold plainD; grind (splits := 50))
theorem form_ok {d : NodeD} {a : NodeA} (hk : K (.int .i64 (formD d)) ro own) : CallOk Tryz.prog 61 #[.agg (nodeV d a).toArray] ro own K := by
  refine CallOk.intro (args := [_]) (rs := [_]) T_ok Tryz.func61 Tryz.call61 rfl rfl (by kernel_rfl) rfl rfl ?_
  repeat' (first | exact endA | refine wkT ?_ | refine opB (fun b => ?_) | refine opA (fun a' c' hc1 hc2 => ?_) | (apply GJ.and; exact rfl; intro hg) | (apply GJ.or; exact rfl; intro hg) | refine SeqOk.pass ?_ | refine Br.cases (fun h => ?_) (fun h => ?_) | (show GJ _ _ _ _ _ _ _; first | refine GJ.casesT (fun h => ?_) (fun h => ?_) | refine GJ.casesF (fun h => ?_) (fun h => ?_)) | refine Bs.all ?_ | (show QOk _ _ _ _ _ _ _; refine QOk.build rfl rfl Nf.auto ?_) | (show OpOk _ _ _ _ _ _ _; refine OpOk.neqStruct rfl rfl rfl rfl (by kernel_rfl) (by kernel_rfl) (by kernel_rfl) ?_) | (show CallOk _ _ _ _ _ _; first | refine plain_ok ?_))
  all_goals refine Wk.outV Sup.auto hk (congrArg (Value.int .i64) ?_)
  all_goals (unfold formD; grind (splits := 50))
end
end Go.Proofs.YtefipginoakecaaGreatDoor
end
section
/- Contracts of spec: Check, Def, Root. -/
namespace Go.Proofs.YtefipginoakecaaGreatDoor
open Go Go.E
set_option linter.unusedVariables false
set_option maxRecDepth 10000
/-- Where a specification's slices lie. -/
structure SpecA where
  na : Option Addr
  nc : Nat
  da : Option Addr
  dc : Nat
  xs : List NodeA
def specV (s : SpecD) (a : SpecA) : List Value := [.slice a.na s.nodes.length a.nc, .slice a.da s.defs.length a.dc]
def nodesV : List NodeD → List NodeA → List Value
  | d :: ds, a :: xs => nodeV d a ++ nodesV ds xs
  | _, _ => []
structure SpecOk (ro : Ro) (s : SpecD) (a : SpecA) : Prop where
  len : a.xs.length = s.nodes.length
  nodes : Rs ro a.na s.nodes.length a.nc 18 (nodesV s.nodes a.xs)
  each : ∀ (i : Nat) (d : NodeD) (x : NodeA), s.nodes[i]? = some d → a.xs[i]? = some x → NodeOk ro d x
  defs : Rs ro a.da s.defs.length a.dc 2 (defsV s.defs)
theorem nodesV_drop : ∀ (ds : List NodeD) (xs : List NodeA) (i : Nat) (d : NodeD) (a : NodeA), ds[i]? = some d → xs[i]? = some a → ((nodesV ds xs).drop (i * 18)).take 18 = nodeV d a := by
  intro ds
  induction ds with
  | nil => intro xs i d a h; simp at h
  | cons x ds ih =>
    intro xs i d a h1 h2
    cases xs with
    | nil => simp at h2
    | cons y xs =>
      cases i with
      | zero => simp at h1 h2; subst h1; subst h2; rfl
      | succ i =>
        rw [show (i + 1) * 18 = i * 18 + 18 by omega, Nat.add_comm]
        show List.take 18 (List.drop (18 + i * 18) (nodeV x y ++ nodesV ds xs)) = _
        rw [← List.drop_drop, List.drop_left' (by rfl)]
        exact ih xs i d a (by simpa using h1) (by simpa using h2)
/-! ### what Check answers -/
def ownAll (lim : Nat) : List Int → List Bool → Except Int (List Bool)
  | [], o => .ok o
  | k :: ks, o => if k < 0 ∨ (lim : Int) ≤ k then .error 3 else if o[k.toNat]! = true then .error 4 else ownAll lim ks (o.set k.toNat true)
def nodesAll : Nat → List NodeD → List Bool → Except Int (List Bool)
  | _, [], o => .ok o
  | i, d :: ds, o => if formD d ≠ 0 then .error (formD d) else match ownAll i (kidsD d) o with
    | .error e => .error e
    | .ok o => nodesAll (i + 1) ds o
def checkE (s : SpecD) : Except Int (List Bool) := match nodesAll 0 s.nodes (List.replicate s.nodes.length false) with
  | .error e => .error e
  | .ok o => ownAll s.nodes.length (s.defs.map (·.type)) o
def checkD (s : SpecD) : Int := if 2048 < s.nodes.length ∨ 64 < s.defs.length ∨ s.defs.length = 0 then 2 else match checkE s with
  | .error e => e
  | .ok o => if false ∈ o then 3 else 0
theorem form_small {d : NodeD} (h : formD d = 0) : d.kids.length ≤ 64 ∧ d.fields.length ≤ 64 ∧ d.cases.length ≤ 64 := by
  unfold formD at h
  grind
section
variable {ro : Ro} {own r : Chs} {K : Value → Ro → Chs → Prop} {g : Chunk → Chs}
theorem drop_bang {α : Type} [Inhabited α] {l : List α} {j : Nat} (h : j < l.length) : l.drop j = l[j]! :: l.drop (j + 1) := by
  rw [List.drop_eq_getElem_cons h, List.getElem!_eq_getElem?_getD, List.getElem?_eq_getElem h]; rfl
theorem lastV_get {o : List Bool} {k : Nat} (h : k < o.length) : (lastV o)[k]? = some (.bool o[k]!) := getMap h
theorem lastV_set (o : List Bool) (k : Nat) (b : Bool) : (lastV o).set k (.bool b) = lastV (o.set k b) := by simp [lastV, List.map_set]
theorem containsB_ok {a : Option Addr} {n c : Nat} {o : List Bool} (hr : Rds ro own a n c 1 (lastV o)) (hk : K (.bool (decide (false ∈ o))) ro own) : CallOk Tryz.prog 62 #[.slice a n c, .bool false] ro own K := by
  have hn : o.length = n := by have := hr.n1; simpa [lastV] using this
  have hm := hr.max
  have hidx : ∀ K' : Value → Ro → Chs → Prop, (∀ i : Int, -1 ≤ i → i ≤ maxLen → (0 ≤ i ↔ false ∈ o) → K' (.int .i64 i) ro own) → CallOk Tryz.prog 89 #[.slice a n c, .bool false] ro own K' := by
    intro K' hk'
    have hle := hr.le
    unfold maxLen at hm hk'
    refine CallOk.intro (args := [_, _]) (rs := [_]) T_ok Tryz.func89 Tryz.call89 rfl rfl (by kernel_rfl) rfl rfl ?_
    repeat (first | exact endA | refine wkG ?_ | refine opB (fun b => ?_) | refine opA (fun a' c' hc1 hc2 => ?_) | (show GJ _ _ _ _ _ _ _; first | (apply GJ.and; exact rfl; intro hg) | (apply GJ.or; exact rfl; intro hg) | refine GJ.t omAuto ?_ | refine GJ.f omAuto ?_ | refine GJ.ft omAuto ?_ | refine GJ.ff omAuto ?_))
    refine LoopOk.at (ι := Nat) Keep.auto (fun i => [(8, .int .i64 (i : Int))]) (fun i => own) (fun i => i ≤ n ∧ ¬ false ∈ o.take i) (fun i => n - i) 0 ?_ Sub.auto Sup.auto ?_
    · exact ⟨by omega, by simp⟩
    rintro i ⟨i1, i2⟩
    dsimp only [List.cons_append, List.nil_append]
    repeat (first | exact endA | refine wkG ?_ | refine opB (fun b => ?_) | refine opA (fun a' c' hc1 hc2 => ?_) | (show GJ _ _ _ _ _ _ _; first | (apply GJ.and; exact rfl; intro hg) | (apply GJ.or; exact rfl; intro hg) | refine GJ.t omAuto ?_ | refine GJ.f omAuto ?_ | refine GJ.ft omAuto ?_ | refine GJ.ff omAuto ?_))
    refine Br.cases (fun hc => ?_) (fun hc => ?_)
    · have hget := lastV_get (o := o) (k := i) (by omega)
      have htk : o.take (i + 1) = o.take i ++ [o[i]!] := by rw [List.take_add_one, List.getElem?_eq_getElem (by omega), List.getElem!_eq_getElem?_getD, List.getElem?_eq_getElem (by omega)]; rfl
      have hmem : o[i]! ∈ o := by rw [List.getElem!_eq_getElem?_getD, List.getElem?_eq_getElem (by omega)]; exact List.getElem_mem _
      repeat (first | exact endA | refine wkG ?_ | refine opB (fun b => ?_) | refine opA (fun a' c' hc1 hc2 => ?_) | (show GJ _ _ _ _ _ _ _; first | (apply GJ.and; exact rfl; intro hg) | (apply GJ.or; exact rfl; intro hg) | refine GJ.t omAuto ?_ | refine GJ.f omAuto ?_ | refine GJ.ft omAuto ?_ | refine GJ.ff omAuto ?_))
      rw [Int.toNat_natCast]
      refine Br.cases (fun hd => ?_) (fun hd => ?_)
      · repeat (first | exact endA | refine wkG ?_ | refine opB (fun b => ?_) | refine opA (fun a' c' hc1 hc2 => ?_) | (show GJ _ _ _ _ _ _ _; first | (apply GJ.and; exact rfl; intro hg) | (apply GJ.or; exact rfl; intro hg) | refine GJ.t omAuto ?_ | refine GJ.f omAuto ?_ | refine GJ.ft omAuto ?_ | refine GJ.ff omAuto ?_))
        exact Wk.outS Sup.auto (.refl _) (hk' i (by omega) (by omega) ⟨fun _ => hd ▸ hmem, fun _ => by omega⟩)
      · repeat (first | exact endA | refine wkG ?_ | refine opB (fun b => ?_) | refine opA (fun a' c' hc1 hc2 => ?_) | (show GJ _ _ _ _ _ _ _; first | (apply GJ.and; exact rfl; intro hg) | (apply GJ.or; exact rfl; intro hg) | refine GJ.t omAuto ?_ | refine GJ.f omAuto ?_ | refine GJ.ft omAuto ?_ | refine GJ.ff omAuto ?_))
        refine Wk.id ⟨i + 1, ⟨rfl, ?_⟩, ?_, Sub.auto, Sup.auto⟩
        all_goals try dsimp only
        · refine ⟨by omega, fun hm2 => ?_⟩
          rw [htk, List.mem_append] at hm2
          rcases hm2 with hm2 | hm2
          · exact i2 hm2
          · exact hd (List.mem_singleton.1 hm2)
        · omega
    · obtain rfl : i = n := by omega
      rw [List.take_of_length_le (by omega)] at i2
      repeat (first | exact endA | refine wkG ?_ | refine opB (fun b => ?_) | refine opA (fun a' c' hc1 hc2 => ?_) | (show GJ _ _ _ _ _ _ _; first | (apply GJ.and; exact rfl; intro hg) | (apply GJ.or; exact rfl; intro hg) | refine GJ.t omAuto ?_ | refine GJ.f omAuto ?_ | refine GJ.ft omAuto ?_ | refine GJ.ff omAuto ?_))
      exact Wk.outS Sup.auto (.refl _) (hk' (-1) (by omega) (by omega) ⟨fun h => by omega, fun h => absurd h i2⟩)
  refine CallOk.intro (args := [_, _]) (rs := [_]) T_ok Tryz.func62 Tryz.call62 rfl rfl (by kernel_rfl) rfl rfl ?_
  repeat (first | exact endA | refine wkG ?_ | refine opB (fun b => ?_) | refine opA (fun a' c' hc1 hc2 => ?_) | (show GJ _ _ _ _ _ _ _; first | (apply GJ.and; exact rfl; intro hg) | (apply GJ.or; exact rfl; intro hg) | refine GJ.t omAuto ?_ | refine GJ.f omAuto ?_ | refine GJ.ft omAuto ?_ | refine GJ.ff omAuto ?_))
  refine hidx _ (fun i h1 h2 h3 => ?_)
  repeat (first | exact endA | refine wkG ?_ | refine opB (fun b => ?_) | refine opA (fun a' c' hc1 hc2 => ?_) | (show GJ _ _ _ _ _ _ _; first | (apply GJ.and; exact rfl; intro hg) | (apply GJ.or; exact rfl; intro hg) | refine GJ.t omAuto ?_ | refine GJ.f omAuto ?_ | refine GJ.ft omAuto ?_ | refine GJ.ff omAuto ?_))
  refine Wk.outV Sup.auto hk (congrArg Value.bool ?_)
  exact decide_eq_decide.2 h3.symm
set_option maxHeartbeats 1000000 in
theorem check_ok {s : SpecD} {a : SpecA} (ho : SpecOk ro s a) (hk : K (.int .i64 (checkD s)) ro own) : CallOk Tryz.prog 25 #[.agg (specV s a).toArray] ro own K := by
  have hr1 := ho.nodes
  have hr2 := ho.defs
  have hlen := ho.len
  have hm1 := hr1.max
  have hm2 := hr2.max
  have hle1 := hr1.le
  have hle2 := hr2.le
  unfold maxLen at hm1 hm2
  refine CallOk.intro (args := [_]) (rs := [_]) T_ok Tryz.func25 Tryz.call25 rfl rfl (by kernel_rfl) rfl rfl ?_
  repeat (first | exact endA | refine wkG ?_ | refine opB (fun b => ?_) | refine opA (fun a' c' hc1 hc2 => ?_) | (show GJ _ _ _ _ _ _ _; first | (apply GJ.and; exact rfl; intro hg) | (apply GJ.or; exact rfl; intro hg) | refine GJ.t omAuto ?_ | refine GJ.f omAuto ?_ | refine GJ.ft omAuto ?_ | refine GJ.ff omAuto ?_))
  refine Br.cases (fun hc => ?_) (fun hc => ?_)
  · have e : checkD s = 2 := by unfold checkD; rw [if_pos (by omega)]
    rw [e] at hk
    repeat (first | exact endA | refine wkG ?_ | refine opB (fun b => ?_) | refine opA (fun a' c' hc1 hc2 => ?_) | (show GJ _ _ _ _ _ _ _; first | (apply GJ.and; exact rfl; intro hg) | (apply GJ.or; exact rfl; intro hg) | refine GJ.t omAuto ?_ | refine GJ.f omAuto ?_ | refine GJ.ft omAuto ?_ | refine GJ.ff omAuto ?_))
    exact Wk.outS Sup.auto (.refl _) hk
  have e : checkD s = match checkE s with
    | .error e => e
    | .ok o => if false ∈ o then 3 else 0 := by unfold checkD; rw [if_neg (by omega)]
  repeat (first | exact endA | refine wkG ?_ | refine opB (fun b => ?_) | refine opA (fun a' c' hc1 hc2 => ?_) | (show GJ _ _ _ _ _ _ _; first | (apply GJ.and; exact rfl; intro hg) | (apply GJ.or; exact rfl; intro hg) | refine GJ.t omAuto ?_ | refine GJ.f omAuto ?_ | refine GJ.ft omAuto ?_ | refine GJ.ff omAuto ?_))
  rename_i b0
  refine LoopOk.at (ι := Nat × List Value × List Bool) Keep.auto (fun (i, cs, o) => [(34, .int .i64 (i : Int))]) (fun (i, cs, o) => .sl (some ⟨b, 0, none⟩) s.nodes.length s.nodes.length 4 1 cs :: .blk b0 25 (specV s a) :: own) (fun (i, cs, o) => i ≤ s.nodes.length ∧ o.length = s.nodes.length ∧ cs = lastV o ∧ nodesAll i (s.nodes.drop i) o = nodesAll 0 s.nodes (List.replicate s.nodes.length false)) (fun (i, cs, o) => s.nodes.length - i) (0, _, List.replicate s.nodes.length false) ?_ Sub.auto Sup.auto ?_
  · exact ⟨by omega, by simp, by simp [lastV], rfl⟩
  rintro ⟨i, cs, o⟩ ⟨i1, i2, rfl, i3⟩
  dsimp only [List.cons_append, List.nil_append]
  repeat (first | exact endA | refine wkG ?_ | refine opB (fun b => ?_) | refine opA (fun a' c' hc1 hc2 => ?_) | (show GJ _ _ _ _ _ _ _; first | (apply GJ.and; exact rfl; intro hg) | (apply GJ.or; exact rfl; intro hg) | refine GJ.t omAuto ?_ | refine GJ.f omAuto ?_ | refine GJ.ft omAuto ?_ | refine GJ.ff omAuto ?_))
  refine Br.cases (fun hd => ?_) (fun hd => ?_)
  · obtain ⟨d, hd1⟩ : ∃ d, s.nodes[i]? = some d := ⟨_, List.getElem?_eq_getElem (by omega)⟩
    obtain ⟨x, hx1⟩ : ∃ x, a.xs[i]? = some x := ⟨_, List.getElem?_eq_getElem (by omega)⟩
    have hno := ho.each i d x hd1 hx1
    have hdrop := nodesV_drop _ _ _ _ _ hd1 hx1
    rw [List.drop_eq_getElem_cons (by omega), (List.getElem?_eq_some_iff.1 hd1).2, nodesAll] at i3
    repeat (first | exact endA | refine wkG ?_ | refine opB (fun b => ?_) | refine opA (fun a' c' hc1 hc2 => ?_) | (show GJ _ _ _ _ _ _ _; first | (apply GJ.and; exact rfl; intro hg) | (apply GJ.or; exact rfl; intro hg) | refine GJ.t omAuto ?_ | refine GJ.f omAuto ?_ | refine GJ.ft omAuto ?_ | refine GJ.ff omAuto ?_))
    rw [Int.toNat_natCast]
    refine OpOk.loadRow rfl rfl (LdN.at hr1 hdrop) rfl ?_
    repeat (first | exact endA | refine wkG ?_ | refine opB (fun b => ?_) | refine opA (fun a' c' hc1 hc2 => ?_) | (show GJ _ _ _ _ _ _ _; first | (apply GJ.and; exact rfl; intro hg) | (apply GJ.or; exact rfl; intro hg) | refine GJ.t omAuto ?_ | refine GJ.f omAuto ?_ | refine GJ.ft omAuto ?_ | refine GJ.ff omAuto ?_))
    refine form_ok ?_
    repeat (first | exact endA | refine wkG ?_ | refine opB (fun b => ?_) | refine opA (fun a' c' hc1 hc2 => ?_) | (show GJ _ _ _ _ _ _ _; first | (apply GJ.and; exact rfl; intro hg) | (apply GJ.or; exact rfl; intro hg) | refine GJ.t omAuto ?_ | refine GJ.f omAuto ?_ | refine GJ.ft omAuto ?_ | refine GJ.ff omAuto ?_))
    refine Br.cases (fun hf => ?_) (fun hf => ?_)
    · rw [if_pos hf] at i3
      have e2 : checkD s = formD d := by rw [e, checkE, ← i3]
      rw [e2] at hk
      repeat (first | exact endA | refine wkG ?_ | refine opB (fun b => ?_) | refine opA (fun a' c' hc1 hc2 => ?_) | (show GJ _ _ _ _ _ _ _; first | (apply GJ.and; exact rfl; intro hg) | (apply GJ.or; exact rfl; intro hg) | refine GJ.t omAuto ?_ | refine GJ.f omAuto ?_ | refine GJ.ft omAuto ?_ | refine GJ.ff omAuto ?_))
      exact Wk.outS Sup.auto (.refl _) hk
    · rw [if_neg hf] at i3
      have hsm := form_small (d := d) (by omega)
      repeat (first | exact endA | refine wkG ?_ | refine opB (fun b => ?_) | refine opA (fun a' c' hc1 hc2 => ?_) | (show GJ _ _ _ _ _ _ _; first | (apply GJ.and; exact rfl; intro hg) | (apply GJ.or; exact rfl; intro hg) | refine GJ.t omAuto ?_ | refine GJ.f omAuto ?_ | refine GJ.ft omAuto ?_ | refine GJ.ff omAuto ?_))
      refine kids_ok hno (by omega) (fun a' n' c' h1 h2 h3 => ?_)
      generalize hks : kidsD d = ks at *
      repeat (first | exact endA | refine wkG ?_ | refine opB (fun b => ?_) | refine opA (fun a' c' hc1 hc2 => ?_) | (show GJ _ _ _ _ _ _ _; first | (apply GJ.and; exact rfl; intro hg) | (apply GJ.or; exact rfl; intro hg) | refine GJ.t omAuto ?_ | refine GJ.f omAuto ?_ | refine GJ.ft omAuto ?_ | refine GJ.ff omAuto ?_))
      rename_i b1
      refine LoopOk.at (ι := Nat × List Bool) Keep.auto (fun (j, o2) => [(47, .int .i64 (j : Int))]) (fun (j, o2) => .sl a' n' c' 3 1 (kidsV ks) :: .blk b 41 (nodeV d x) :: .sl (some ⟨b1, 0, none⟩) s.nodes.length s.nodes.length 4 1 (lastV o2) :: .blk b0 25 (specV s a) :: own) (fun (j, o2) => j ≤ n' ∧ o2.length = s.nodes.length ∧ ownAll i (ks.drop j) o2 = ownAll i ks o) (fun (j, o2) => n' - j) (0, o) ?_ Sub.auto Sup.auto ?_
      · exact ⟨by omega, i2, rfl⟩
      rintro ⟨j, o2⟩ ⟨j1, j2, j3⟩
      dsimp only [List.cons_append, List.nil_append]
      repeat (first | exact endA | refine wkG ?_ | refine opB (fun b => ?_) | refine opA (fun a' c' hc1 hc2 => ?_) | (show GJ _ _ _ _ _ _ _; first | (apply GJ.and; exact rfl; intro hg) | (apply GJ.or; exact rfl; intro hg) | refine GJ.t omAuto ?_ | refine GJ.f omAuto ?_ | refine GJ.ft omAuto ?_ | refine GJ.ff omAuto ?_))
      refine Br.cases (fun hg => ?_) (fun hg => ?_)
      · rw [drop_bang (by omega), ownAll] at j3
        repeat (first | exact endA | refine wkG ?_ | refine opB (fun b => ?_) | refine opA (fun a' c' hc1 hc2 => ?_) | (show GJ _ _ _ _ _ _ _; first | (apply GJ.and; exact rfl; intro hg) | (apply GJ.or; exact rfl; intro hg) | refine GJ.t omAuto ?_ | refine GJ.f omAuto ?_ | refine GJ.ft omAuto ?_ | refine GJ.ff omAuto ?_))
        rw [Int.toNat_natCast]
        generalize ks[j]! = k at j3
        refine Br.cases (fun hh => ?_) (fun hh => ?_)
        · rw [if_pos (by omega)] at j3
          rw [← j3] at i3
          have e2 : checkD s = 3 := by rw [e, checkE, ← i3]
          rw [e2] at hk
          repeat (first | exact endA | refine wkG ?_ | refine opB (fun b => ?_) | refine opA (fun a' c' hc1 hc2 => ?_) | (show GJ _ _ _ _ _ _ _; first | (apply GJ.and; exact rfl; intro hg) | (apply GJ.or; exact rfl; intro hg) | refine GJ.t omAuto ?_ | refine GJ.f omAuto ?_ | refine GJ.ft omAuto ?_ | refine GJ.ff omAuto ?_))
          exact Wk.outS Sup.auto (.refl _) hk
        · rw [if_neg (by omega)] at j3
          repeat (first | exact endA | refine wkG ?_ | refine opB (fun b => ?_) | refine opA (fun a' c' hc1 hc2 => ?_) | (show GJ _ _ _ _ _ _ _; first | (apply GJ.and; exact rfl; intro hg) | (apply GJ.or; exact rfl; intro hg) | refine GJ.t omAuto ?_ | refine GJ.f omAuto ?_ | refine GJ.ft omAuto ?_ | refine GJ.ff omAuto ?_))
          refine Br.cases (fun hi => ?_) (fun hi => ?_)
          · rw [if_pos hi] at j3
            rw [← j3] at i3
            have e2 : checkD s = 4 := by rw [e, checkE, ← i3]
            rw [e2] at hk
            repeat (first | exact endA | refine wkG ?_ | refine opB (fun b => ?_) | refine opA (fun a' c' hc1 hc2 => ?_) | (show GJ _ _ _ _ _ _ _; first | (apply GJ.and; exact rfl; intro hg) | (apply GJ.or; exact rfl; intro hg) | refine GJ.t omAuto ?_ | refine GJ.f omAuto ?_ | refine GJ.ft omAuto ?_ | refine GJ.ff omAuto ?_))
            exact Wk.outS Sup.auto (.refl _) hk
          · rw [if_neg hi] at j3
            repeat (first | exact endA | refine wkG ?_ | refine opB (fun b => ?_) | refine opA (fun a' c' hc1 hc2 => ?_) | (show GJ _ _ _ _ _ _ _; first | (apply GJ.and; exact rfl; intro hg) | (apply GJ.or; exact rfl; intro hg) | refine GJ.t omAuto ?_ | refine GJ.f omAuto ?_ | refine GJ.ft omAuto ?_ | refine GJ.ff omAuto ?_))
            refine OpOk.storeSl rfl rfl rfl rfl (by simp [lastV]; omega) ?_
            rw [lastV_set]
            have h3' := h3
            unfold maxLen at h3'
            repeat (first | exact endA | refine wkG ?_ | refine opB (fun b => ?_) | refine opA (fun a' c' hc1 hc2 => ?_) | (show GJ _ _ _ _ _ _ _; first | (apply GJ.and; exact rfl; intro hg) | (apply GJ.or; exact rfl; intro hg) | refine GJ.t omAuto ?_ | refine GJ.f omAuto ?_ | refine GJ.ft omAuto ?_ | refine GJ.ff omAuto ?_))
            refine Wk.id ⟨(j + 1, _), ⟨rfl, ?_⟩, ?_, Sub.auto, Sup.auto⟩
            all_goals try dsimp only
            · exact ⟨by omega, by simp [j2], j3⟩
            · omega
      · obtain rfl : j = n' := by omega
        rw [List.drop_of_length_le (by omega), ownAll] at j3
        rw [← j3] at i3
        repeat (first | exact endA | refine wkG ?_ | refine opB (fun b => ?_) | refine opA (fun a' c' hc1 hc2 => ?_) | (show GJ _ _ _ _ _ _ _; first | (apply GJ.and; exact rfl; intro hg) | (apply GJ.or; exact rfl; intro hg) | refine GJ.t omAuto ?_ | refine GJ.f omAuto ?_ | refine GJ.ft omAuto ?_ | refine GJ.ff omAuto ?_))
        refine Wk.id ⟨(i + 1, _, o2), ⟨rfl, ?_⟩, ?_, Sub.auto, Sup.auto⟩
        all_goals try dsimp only
        · exact ⟨by omega, j2, rfl, i3⟩
        · omega
  · obtain rfl : i = s.nodes.length := by omega
    rw [List.drop_length, nodesAll] at i3
    have e3 : checkD s = match ownAll s.nodes.length (s.defs.map (·.type)) o with
      | .error e => e
      | .ok o => if false ∈ o then 3 else 0 := by rw [e, checkE, ← i3]
    generalize hts : s.defs.map (·.type) = ts at e3
    repeat (first | exact endA | refine wkG ?_ | refine opB (fun b => ?_) | refine opA (fun a' c' hc1 hc2 => ?_) | (show GJ _ _ _ _ _ _ _; first | (apply GJ.and; exact rfl; intro hg) | (apply GJ.or; exact rfl; intro hg) | refine GJ.t omAuto ?_ | refine GJ.f omAuto ?_ | refine GJ.ft omAuto ?_ | refine GJ.ff omAuto ?_))
    refine LoopOk.at (ι := Nat × List Bool) Keep.auto (fun (j, o2) => [(70, .int .i64 (j : Int))]) (fun (j, o2) => .sl (some ⟨b, 0, none⟩) s.nodes.length s.nodes.length 4 1 (lastV o2) :: .blk b0 25 (specV s a) :: own) (fun (j, o2) => j ≤ s.defs.length ∧ o2.length = s.nodes.length ∧ ownAll s.nodes.length (ts.drop j) o2 = ownAll s.nodes.length ts o) (fun (j, o2) => s.defs.length - j) (0, o) ?_ Sub.auto Sup.auto ?_
    · exact ⟨by omega, i2, rfl⟩
    rintro ⟨j, o2⟩ ⟨j1, j2, j3⟩
    dsimp only [List.cons_append, List.nil_append]
    have htl : ts.length = s.defs.length := by rw [← hts]; simp
    repeat (first | exact endA | refine wkG ?_ | refine opB (fun b => ?_) | refine opA (fun a' c' hc1 hc2 => ?_) | (show GJ _ _ _ _ _ _ _; first | (apply GJ.and; exact rfl; intro hg) | (apply GJ.or; exact rfl; intro hg) | refine GJ.t omAuto ?_ | refine GJ.f omAuto ?_ | refine GJ.ft omAuto ?_ | refine GJ.ff omAuto ?_))
    refine Br.cases (fun hg => ?_) (fun hg => ?_)
    · have hd := defsV_drop s.defs (i := j) (by omega)
      have hty : ts[j]! = (s.defs[j]'(by omega)).type := by
        subst hts
        rw [List.getElem!_eq_getElem?_getD, List.getElem?_map, List.getElem?_eq_getElem (show j < s.defs.length by omega)]; rfl
      rw [drop_bang (by omega), ownAll, hty] at j3
      generalize s.defs[j]'(by omega) = df at hd j3
      repeat (first | exact endA | refine wkG ?_ | refine opB (fun b => ?_) | refine opA (fun a' c' hc1 hc2 => ?_) | (show GJ _ _ _ _ _ _ _; first | (apply GJ.and; exact rfl; intro hg) | (apply GJ.or; exact rfl; intro hg) | refine GJ.t omAuto ?_ | refine GJ.f omAuto ?_ | refine GJ.ft omAuto ?_ | refine GJ.ff omAuto ?_))
      rw [Int.toNat_natCast]
      refine OpOk.loadRow rfl rfl (LdN.at hr2 hd) rfl ?_
      repeat (first | exact endA | refine wkG ?_ | refine opB (fun b => ?_) | refine opA (fun a' c' hc1 hc2 => ?_) | (show GJ _ _ _ _ _ _ _; first | (apply GJ.and; exact rfl; intro hg) | (apply GJ.or; exact rfl; intro hg) | refine GJ.t omAuto ?_ | refine GJ.f omAuto ?_ | refine GJ.ft omAuto ?_ | refine GJ.ff omAuto ?_))
      refine Br.cases (fun hh => ?_) (fun hh => ?_)
      · rw [if_pos (by omega)] at j3
        have e2 : checkD s = 3 := by rw [e3, ← j3]
        rw [e2] at hk
        repeat (first | exact endA | refine wkG ?_ | refine opB (fun b => ?_) | refine opA (fun a' c' hc1 hc2 => ?_) | (show GJ _ _ _ _ _ _ _; first | (apply GJ.and; exact rfl; intro hg) | (apply GJ.or; exact rfl; intro hg) | refine GJ.t omAuto ?_ | refine GJ.f omAuto ?_ | refine GJ.ft omAuto ?_ | refine GJ.ff omAuto ?_))
        exact Wk.outS Sup.auto (.refl _) hk
      · rw [if_neg (by omega)] at j3
        repeat (first | exact endA | refine wkG ?_ | refine opB (fun b => ?_) | refine opA (fun a' c' hc1 hc2 => ?_) | (show GJ _ _ _ _ _ _ _; first | (apply GJ.and; exact rfl; intro hg) | (apply GJ.or; exact rfl; intro hg) | refine GJ.t omAuto ?_ | refine GJ.f omAuto ?_ | refine GJ.ft omAuto ?_ | refine GJ.ff omAuto ?_))
        refine Br.cases (fun hi => ?_) (fun hi => ?_)
        · rw [if_pos hi] at j3
          have e2 : checkD s = 4 := by rw [e3, ← j3]
          rw [e2] at hk
          repeat (first | exact endA | refine wkG ?_ | refine opB (fun b => ?_) | refine opA (fun a' c' hc1 hc2 => ?_) | (show GJ _ _ _ _ _ _ _; first | (apply GJ.and; exact rfl; intro hg) | (apply GJ.or; exact rfl; intro hg) | refine GJ.t omAuto ?_ | refine GJ.f omAuto ?_ | refine GJ.ft omAuto ?_ | refine GJ.ff omAuto ?_))
          exact Wk.outS Sup.auto (.refl _) hk
        · rw [if_neg hi] at j3
          repeat (first | exact endA | refine wkG ?_ | refine opB (fun b => ?_) | refine opA (fun a' c' hc1 hc2 => ?_) | (show GJ _ _ _ _ _ _ _; first | (apply GJ.and; exact rfl; intro hg) | (apply GJ.or; exact rfl; intro hg) | refine GJ.t omAuto ?_ | refine GJ.f omAuto ?_ | refine GJ.ft omAuto ?_ | refine GJ.ff omAuto ?_))
          refine OpOk.storeSl rfl rfl rfl rfl (by simp [lastV]; omega) ?_
          rw [lastV_set]
          repeat (first | exact endA | refine wkG ?_ | refine opB (fun b => ?_) | refine opA (fun a' c' hc1 hc2 => ?_) | (show GJ _ _ _ _ _ _ _; first | (apply GJ.and; exact rfl; intro hg) | (apply GJ.or; exact rfl; intro hg) | refine GJ.t omAuto ?_ | refine GJ.f omAuto ?_ | refine GJ.ft omAuto ?_ | refine GJ.ff omAuto ?_))
          refine Wk.id ⟨(j + 1, _), ⟨rfl, ?_⟩, ?_, Sub.auto, Sup.auto⟩
          all_goals try dsimp only
          · exact ⟨by omega, by simp [j2], j3⟩
          · omega
    · obtain rfl : j = s.defs.length := by omega
      rw [List.drop_of_length_le (by omega), ownAll] at j3
      rw [← j3] at e3
      have e4 : checkD s = if false ∈ o2 then 3 else 0 := e3
      repeat (first | exact endA | refine wkG ?_ | refine opB (fun b => ?_) | refine opA (fun a' c' hc1 hc2 => ?_) | (show GJ _ _ _ _ _ _ _; first | (apply GJ.and; exact rfl; intro hg) | (apply GJ.or; exact rfl; intro hg) | refine GJ.t omAuto ?_ | refine GJ.f omAuto ?_ | refine GJ.ft omAuto ?_ | refine GJ.ff omAuto ?_))
      refine containsB_ok (o := o2) (Rds.hasSl (by omega) (by unfold maxLen; omega) (by simp [lastV, j2])) ?_
      repeat (first | exact endA | refine wkG ?_ | refine opB (fun b => ?_) | refine opA (fun a' c' hc1 hc2 => ?_) | (show GJ _ _ _ _ _ _ _; first | (apply GJ.and; exact rfl; intro hg) | (apply GJ.or; exact rfl; intro hg) | refine GJ.t omAuto ?_ | refine GJ.f omAuto ?_ | refine GJ.ft omAuto ?_ | refine GJ.ff omAuto ?_))
      refine Br.cases (fun hi => ?_) (fun hi => ?_)
      · rw [e4, if_pos hi] at hk
        repeat (first | exact endA | refine wkG ?_ | refine opB (fun b => ?_) | refine opA (fun a' c' hc1 hc2 => ?_) | (show GJ _ _ _ _ _ _ _; first | (apply GJ.and; exact rfl; intro hg) | (apply GJ.or; exact rfl; intro hg) | refine GJ.t omAuto ?_ | refine GJ.f omAuto ?_ | refine GJ.ft omAuto ?_ | refine GJ.ff omAuto ?_))
        exact Wk.outS Sup.auto (.refl _) hk
      · rw [e4, if_neg hi] at hk
        repeat (first | exact endA | refine wkG ?_ | refine opB (fun b => ?_) | refine opA (fun a' c' hc1 hc2 => ?_) | (show GJ _ _ _ _ _ _ _; first | (apply GJ.and; exact rfl; intro hg) | (apply GJ.or; exact rfl; intro hg) | refine GJ.t omAuto ?_ | refine GJ.f omAuto ?_ | refine GJ.ft omAuto ?_ | refine GJ.ff omAuto ?_))
        exact Wk.outS Sup.auto (.refl _) hk
def defD : List DefD → List UInt8 → Int
  | [], _ => -1
  | d :: ds, n => if d.name = n then d.type else defD ds n
def rootD (s : SpecD) : Int := (s.defs.getLast?.map (·.type)).getD (-1)
theorem def_ok {s : SpecD} {a : SpecA} {name : List UInt8} (ho : SpecOk ro s a) (hk : K (.int .i64 (defD s.defs name)) ro own) : CallOk Tryz.prog 55 #[.agg (specV s a).toArray, str name] ro own K := by
  have hr2 := ho.defs
  have hm2 := hr2.max
  have hle2 := hr2.le
  unfold maxLen at hm2
  refine CallOk.intro (args := [_, _]) (rs := [_]) T_ok Tryz.func55 Tryz.call55 rfl rfl (by kernel_rfl) rfl rfl ?_
  repeat (first | exact endA | refine wkG ?_ | refine opB (fun b => ?_) | refine opA (fun a' c' hc1 hc2 => ?_) | (show GJ _ _ _ _ _ _ _; first | (apply GJ.and; exact rfl; intro hg) | (apply GJ.or; exact rfl; intro hg) | refine GJ.t omAuto ?_ | refine GJ.f omAuto ?_ | refine GJ.ft omAuto ?_ | refine GJ.ff omAuto ?_))
  refine LoopOk.at (ι := Nat) Keep.auto (fun i => [(10, .int .i64 (i : Int))]) (fun i => .blk b 25 (specV s a) :: own) (fun i => i ≤ s.defs.length ∧ defD (s.defs.drop i) name = defD s.defs name) (fun i => s.defs.length - i) 0 ?_ Sub.auto Sup.auto ?_
  · exact ⟨by omega, rfl⟩
  rintro i ⟨i1, i2⟩
  dsimp only [List.cons_append, List.nil_append]
  repeat (first | exact endA | refine wkG ?_ | refine opB (fun b => ?_) | refine opA (fun a' c' hc1 hc2 => ?_) | (show GJ _ _ _ _ _ _ _; first | (apply GJ.and; exact rfl; intro hg) | (apply GJ.or; exact rfl; intro hg) | refine GJ.t omAuto ?_ | refine GJ.f omAuto ?_ | refine GJ.ft omAuto ?_ | refine GJ.ff omAuto ?_))
  refine Br.cases (fun hg => ?_) (fun hg => ?_)
  · have hd := defsV_drop s.defs (i := i) (by omega)
    rw [List.drop_eq_getElem_cons (by omega), defD] at i2
    generalize s.defs[i]'(by omega) = df at hd i2
    repeat (first | exact endA | refine wkG ?_ | refine opB (fun b => ?_) | refine opA (fun a' c' hc1 hc2 => ?_) | (show GJ _ _ _ _ _ _ _; first | (apply GJ.and; exact rfl; intro hg) | (apply GJ.or; exact rfl; intro hg) | refine GJ.t omAuto ?_ | refine GJ.f omAuto ?_ | refine GJ.ft omAuto ?_ | refine GJ.ff omAuto ?_))
    rw [Int.toNat_natCast]
    refine OpOk.loadRow rfl rfl (LdN.at hr2 hd) rfl ?_
    repeat (first | exact endA | refine wkG ?_ | refine opB (fun b => ?_) | refine opA (fun a' c' hc1 hc2 => ?_) | (show GJ _ _ _ _ _ _ _; first | (apply GJ.and; exact rfl; intro hg) | (apply GJ.or; exact rfl; intro hg) | refine GJ.t omAuto ?_ | refine GJ.f omAuto ?_ | refine GJ.ft omAuto ?_ | refine GJ.ff omAuto ?_))
    refine Br.cases (fun hh => ?_) (fun hh => ?_)
    · rw [if_pos hh] at i2
      rw [← i2] at hk
      repeat (first | exact endA | refine wkG ?_ | refine opB (fun b => ?_) | refine opA (fun a' c' hc1 hc2 => ?_) | (show GJ _ _ _ _ _ _ _; first | (apply GJ.and; exact rfl; intro hg) | (apply GJ.or; exact rfl; intro hg) | refine GJ.t omAuto ?_ | refine GJ.f omAuto ?_ | refine GJ.ft omAuto ?_ | refine GJ.ff omAuto ?_))
      exact Wk.outS Sup.auto (.refl _) hk
    · rw [if_neg hh] at i2
      repeat (first | exact endA | refine wkG ?_ | refine opB (fun b => ?_) | refine opA (fun a' c' hc1 hc2 => ?_) | (show GJ _ _ _ _ _ _ _; first | (apply GJ.and; exact rfl; intro hg) | (apply GJ.or; exact rfl; intro hg) | refine GJ.t omAuto ?_ | refine GJ.f omAuto ?_ | refine GJ.ft omAuto ?_ | refine GJ.ff omAuto ?_))
      refine Wk.id ⟨i + 1, ⟨rfl, ?_⟩, ?_, Sub.auto, Sup.auto⟩
      all_goals try dsimp only
      · exact ⟨by omega, i2⟩
      · omega
  · obtain rfl : i = s.defs.length := by omega
    rw [List.drop_length, defD] at i2
    rw [← i2] at hk
    repeat (first | exact endA | refine wkG ?_ | refine opB (fun b => ?_) | refine opA (fun a' c' hc1 hc2 => ?_) | (show GJ _ _ _ _ _ _ _; first | (apply GJ.and; exact rfl; intro hg) | (apply GJ.or; exact rfl; intro hg) | refine GJ.t omAuto ?_ | refine GJ.f omAuto ?_ | refine GJ.ft omAuto ?_ | refine GJ.ff omAuto ?_))
    exact Wk.outS Sup.auto (.refl _) hk
theorem root_ok {s : SpecD} {a : SpecA} (ho : SpecOk ro s a) (hk : K (.int .i64 (rootD s)) ro own) : CallOk Tryz.prog 19 #[.agg (specV s a).toArray] ro own K := by
  have hr2 := ho.defs
  have hm2 := hr2.max
  have hle2 := hr2.le
  unfold maxLen at hm2
  refine CallOk.intro (args := [_]) (rs := [_]) T_ok Tryz.func19 Tryz.call19 rfl rfl (by kernel_rfl) rfl rfl ?_
  repeat (first | exact endA | refine wkG ?_ | refine opB (fun b => ?_) | refine opA (fun a' c' hc1 hc2 => ?_) | (show GJ _ _ _ _ _ _ _; first | (apply GJ.and; exact rfl; intro hg) | (apply GJ.or; exact rfl; intro hg) | refine GJ.t omAuto ?_ | refine GJ.f omAuto ?_ | refine GJ.ft omAuto ?_ | refine GJ.ff omAuto ?_))
  refine Br.cases (fun hg => ?_) (fun hg => ?_)
  · have e : s.defs = [] := List.eq_nil_of_length_eq_zero (by omega)
    rw [rootD, e] at hk
    repeat (first | exact endA | refine wkG ?_ | refine opB (fun b => ?_) | refine opA (fun a' c' hc1 hc2 => ?_) | (show GJ _ _ _ _ _ _ _; first | (apply GJ.and; exact rfl; intro hg) | (apply GJ.or; exact rfl; intro hg) | refine GJ.t omAuto ?_ | refine GJ.f omAuto ?_ | refine GJ.ft omAuto ?_ | refine GJ.ff omAuto ?_))
    exact Wk.outS Sup.auto (.refl _) hk
  · obtain ⟨n, hn⟩ : ∃ n, s.defs.length = n + 1 := ⟨s.defs.length - 1, by omega⟩
    have hd := defsV_drop s.defs (i := n) (by omega)
    have hl : rootD s = (s.defs[n]'(by omega)).type := by
      unfold rootD
      rw [List.getLast?_eq_getElem?, show s.defs.length - 1 = n by omega, List.getElem?_eq_getElem (show n < s.defs.length by omega)]
      rfl
    rw [hl] at hk
    generalize s.defs[n]'(by omega) = df at hd hk
    have hcell : (defsV s.defs)[n * 2 + 1]? = some (.int .i64 df.type) := by
      have := congrArg (·[1]?) hd
      simpa [defV, List.getElem?_take, List.getElem?_drop] using this
    repeat (first | exact endA | refine wkG ?_ | refine opB (fun b => ?_) | refine opA (fun a' c' hc1 hc2 => ?_) | (show GJ _ _ _ _ _ _ _; first | (apply GJ.and; exact rfl; intro hg) | (apply GJ.or; exact rfl; intro hg) | refine GJ.t omAuto ?_ | refine GJ.f omAuto ?_ | refine GJ.ft omAuto ?_ | refine GJ.ff omAuto ?_))
    rw [show ((s.defs.length : Int) - 1).toNat * 2 = n * 2 by omega, Nat.add_assoc]
    refine OpOk.load rfl rfl (Ld.rs hr2 hcell) ?_
    repeat (first | exact endA | refine wkG ?_ | refine opB (fun b => ?_) | refine opA (fun a' c' hc1 hc2 => ?_) | (show GJ _ _ _ _ _ _ _; first | (apply GJ.and; exact rfl; intro hg) | (apply GJ.or; exact rfl; intro hg) | refine GJ.t omAuto ?_ | refine GJ.f omAuto ?_ | refine GJ.ft omAuto ?_ | refine GJ.ff omAuto ?_))
    exact Wk.outS Sup.auto (.refl _) hk
end
end Go.Proofs.YtefipginoakecaaGreatDoor
end
section
/- The reader of specifications as functions: tokens to a specification, or to what is wrong and at which token. No program in sight. -/
namespace Go.Proofs.YtefipginoakecaaGreatDoor
open Go Go.E
set_option linter.unusedVariables false
set_option linter.unusedSectionVars false
set_option linter.unusedSimpArgs false
set_option maxRecDepth 10000
def wordsB : List UInt8 := [32, 118, 97, 114, 105, 110, 116, 32, 122, 105, 103, 122, 97, 103, 32, 108, 101, 110, 105, 101, 110, 116, 32, 98, 121, 116, 101, 115, 32, 116, 105, 109, 101, 115, 32, 109, 97, 110, 121, 32, 119, 105, 116, 104, 105, 110, 32, 115, 119, 105, 116, 99, 104, 32, 101, 108, 115, 101, 32, 111, 110, 101, 111, 102, 32, 99, 104, 97, 105, 110, 32, 108, 97, 115, 116, 32, 101, 109, 112, 116, 121, 32, 115, 105, 122, 101, 32, 99, 111, 117, 110, 116, 32, 99, 114, 99, 32]
/-- The names of numbers of so many bytes. -/
def fixedL : List (List UInt8 × Nat × Bool) := [([117, 56], 1, false), ([117, 49, 54, 98, 101], 2, false), ([117, 49, 54, 108, 101], 2, true), ([117, 50, 52, 98, 101], 3, false), ([117, 50, 52, 108, 101], 3, true), ([117, 51, 50, 98, 101], 4, false), ([117, 51, 50, 108, 101], 4, true), ([117, 52, 48, 98, 101], 5, false), ([117, 52, 48, 108, 101], 5, true), ([117, 52, 56, 98, 101], 6, false), ([117, 52, 56, 108, 101], 6, true), ([117, 53, 54, 98, 101], 7, false), ([117, 53, 54, 108, 101], 7, true), ([117, 54, 52, 98, 101], 8, false), ([117, 54, 52, 108, 101], 8, true)]
def fixedD (t : List UInt8) : Option (Nat × Bool) := (fixedL.find? fun x => decide (x.1 = t)).map (·.2)
def wordD (t : List UInt8) : Bool := Lib.contains wordsB (32 :: (t ++ [32])) || (fixedD t).isSome
def node0 : NodeD := ⟨0, 0, false, false, false, 0, 0, [], [], 0, 0, [], [], [], [], 0, [], 0⟩
structure PS where
  at' : Nat
  nodes : List NodeD
  defs : List DefD
  code : Nat
  fat : Nat
def endT : TokD := ⟨5, 0, []⟩
/-- What is read: the tokens by their places, the last one, and how many types and names there may be. -/
structure PE where
  tok : Nat → TokD
  last : TokD
  lim : Nat
  limD : Nat
def listE (l : List TokD) : PE := ⟨fun i => l[i]?.getD endT, l.getLast?.getD endT, 2048, 64⟩
section
variable (wideP : List UInt8 → Nat × Nat) (E : PE)
def peekP (s : PS) : TokD := if s.code = 0 then E.tok s.at' else E.last
def wrongP (e : Nat) (s : PS) : PS := if s.code = 0 then { s with code := e, fat := s.at' } else s
def isP (k : Nat) (t : List UInt8) (s : PS) : Bool := decide ((peekP E s).kind = k) && decide ((peekP E s).text = t)
def stepP (s : PS) : PS := { s with at' := s.at' + 1 }
def backP (s : PS) : PS := { s with at' := s.at' - 1 }
def eatP (k : Nat) (t : List UInt8) (s : PS) : Bool × PS := if isP E k t s then (true, stepP s) else (false, s)
def signP (t : List UInt8) (s : PS) : Bool × PS := eatP E 4 t s
def kwP (t : List UInt8) (s : PS) : Bool × PS := eatP E 1 t s
def mustP (t : List UInt8) (s : PS) : PS := if (signP E t s).1 then (signP E t s).2 else wrongP 5 s
def nameP (s : PS) : List UInt8 × PS := if (peekP E s).kind ≠ 1 ∨ wordD (peekP E s).text = true then ([], wrongP 5 s) else ((peekP E s).text, stepP s)
def numP (s : PS) : Nat × PS := if (peekP E s).kind ≠ 2 then (0, wrongP 5 s) else if (wideP (peekP E s).text).2 ≠ 0 then (0, wrongP (wideP (peekP E s).text).2 s) else ((wideP (peekP E s).text).1, stepP s)
def addP (n : NodeD) (s : PS) : Nat × PS := if s.nodes.length = E.lim then (0, wrongP 2 s) else (s.nodes.length, { s with nodes := s.nodes ++ [n] })
def rangedP (n : NodeD) (s : PS) : Nat × PS :=
  if (peekP E s).kind = 2 then
    let r1 := numP wideP E s
    let r2 := numP wideP E (mustP E [46, 46] r1.2)
    let s3 := if r2.2.code = 0 ∧ (r2.1 < r1.1 ∨ mostD n < r2.1) then wrongP 1 (backP r2.2) else r2.2
    addP E { n with min := r1.1, max := r2.1 } s3
  else addP E { n with max := mostD n } s
def exprP (s : PS) : (List UInt8 × Nat × Nat) × PS :=
  let s1 := mustP E [91] s
  if (peekP E s1).kind = 2 then
    let r := numP wideP E s1
    let m := signP E [42] r.2
    if m.1 = false then (([], 0, r.1), mustP E [93] m.2) else
    let s2 := if r.1 = 0 then wrongP 1 m.2 else m.2
    let x := nameP E s2
    let p := signP E [43] x.2
    if p.1 then let a := numP wideP E p.2; ((x.1, r.1, a.1), mustP E [93] a.2) else ((x.1, r.1, 0), mustP E [93] p.2)
  else
    let x := nameP E s1
    let p := signP E [43] x.2
    if p.1 then let a := numP wideP E p.2; ((x.1, 1, a.1), mustP E [93] a.2) else ((x.1, 1, 0), mustP E [93] p.2)
variable (K : PS → Nat × PS)
def countedP (kind : Int) (s : PS) : Nat × PS :=
  let x := exprP wideP E s
  let k := K x.2
  addP E { node0 with kind := kind, ereg := x.1.1, emul := x.1.2.1, eadd := x.1.2.2, kids := [(k.1 : Int)] } k.2
def deriveP (s : PS) : Int × PS :=
  if (kwP E [115, 105, 122, 101] s).1 then (1, (kwP E [115, 105, 122, 101] s).2) else if (kwP E [99, 111, 117, 110, 116] s).1 then (2, (kwP E [99, 111, 117, 110, 116] s).2) else if (kwP E [99, 114, 99] s).1 then (3, (kwP E [99, 114, 99] s).2) else (0, wrongP 5 s)
def fieldP (s : PS) : FieldD × PS :=
  let n := nameP E s
  let k := K (mustP E [58] n.2)
  let e := signP E [61] k.2
  if e.1 then
    let d := deriveP E e.2
    let o := nameP E (mustP E [40] d.2)
    if d.1 = 3 then
      let t := nameP E (mustP E [46, 46] o.2)
      (⟨n.1, k.1, d.1, o.1, t.1⟩, mustP E [59] (mustP E [41] t.2))
    else (⟨n.1, k.1, d.1, o.1, []⟩, mustP E [59] (mustP E [41] o.2))
  else (⟨n.1, k.1, 0, [], []⟩, mustP E [59] e.2)
def fieldsP : Nat → List FieldD → PS → List FieldD × PS
  | 0, fs, s => (fs, s)
  | f + 1, fs, s =>
    if s.code ≠ 0 then (fs, s) else
    let e := signP E [125] s
    if e.1 then (fs, e.2) else
    let s1 := if fs.length = 64 then wrongP 2 e.2 else e.2
    let x := fieldP E K s1
    fieldsP f (fs ++ [x.1]) x.2
def recordP (s : PS) : Nat × PS :=
  let r := fieldsP E K 70 [] (mustP E [123] s)
  let s1 := if r.2.code = 0 ∧ r.1.length = 0 then wrongP 5 (backP r.2) else r.2
  addP E { node0 with kind := 5, fields := r.1 } s1
def casesP : Nat → List CaseD → PS → List CaseD × PS
  | 0, cs, s => (cs, s)
  | f + 1, cs, s =>
    if s.code ≠ 0 ∨ (peekP E s).kind ≠ 2 then (cs, s) else
    let s1 := if cs.length = 64 then wrongP 2 s else s
    let v := numP wideP E s1
    let k := K (mustP E [58] v.2)
    casesP f (cs ++ [⟨v.1, k.1⟩]) (mustP E [59] k.2)
def switchP (s : PS) : Nat × PS :=
  let n := nameP E s
  let m := signP E [37] n.2
  let v := if m.1 then numP wideP E m.2 else (0, m.2)
  let s1 := if m.1 ∧ v.2.code = 0 ∧ v.1 = 0 then wrongP 1 (backP v.2) else v.2
  let c := casesP wideP E K 70 [] (mustP E [123] s1)
  let s2 := if c.1.length = 0 then wrongP 5 c.2 else c.2
  let e := kwP E [101, 108, 115, 101] s2
  let k := if e.1 then K (mustP E [58] e.2) else (0, e.2)
  let s3 := if e.1 then mustP E [59] k.2 else k.2
  addP E { node0 with kind := 9, reg := n.1, mod := v.1, cases := c.1, els := if e.1 then (k.1 : Int) else -1 } (mustP E [125] s3)
def overP (n : Nat) (s : PS) : PS := if n = 64 then wrongP 2 s else s
def lastP (kind : Int) (s : PS) : Bool × PS := if kind = 11 then kwP E [108, 97, 115, 116] s else (false, s)
def lastsP (kind : Int) (ls : List Bool) (w : Bool) : List Bool := if kind = 11 then ls ++ [w] else ls
def choicesP (kind : Int) : Nat → List Int → List Bool → PS → List Int × List Bool × PS
  | 0, ks, ls, s => (ks, ls, s)
  | f + 1, ks, ls, s =>
    if (signP E [124] (K (lastP E kind (overP ks.length s)).2).2).1 = true ∧ (signP E [124] (K (lastP E kind (overP ks.length s)).2).2).2.code = 0 then
      choicesP kind f (ks ++ [((K (lastP E kind (overP ks.length s)).2).1 : Int)]) (lastsP kind ls (lastP E kind (overP ks.length s)).1) (signP E [124] (K (lastP E kind (overP ks.length s)).2).2).2
    else (ks ++ [((K (lastP E kind (overP ks.length s)).2).1 : Int)], lastsP kind ls (lastP E kind (overP ks.length s)).1, (signP E [124] (K (lastP E kind (overP ks.length s)).2).2).2)
def pickP (kind : Int) (s : PS) : List Int × List Bool × PS := if s.code = 0 then choicesP E K kind 70 [] [] s else ([], [], s)
def choiceP (kind : Int) (s : PS) : Nat × PS :=
  addP E { node0 with kind := kind, kids := (pickP E K kind (mustP E [123] s)).1, last := (pickP E K kind (mustP E [123] s)).2.1 } (mustP E [125] (pickP E K kind (mustP E [123] s)).2.2)
def lenP (n : NodeD) (s : PS) : Nat × PS := rangedP wideP E { n with lenient := (kwP E [108, 101, 110, 105, 101, 110, 116] s).1 } (kwP E [108, 101, 110, 105, 101, 110, 116] s).2
def blobP (s : PS) : Nat × PS := addP E { node0 with kind := 4, ereg := (exprP wideP E s).1.1, emul := (exprP wideP E s).1.2.1, eadd := (exprP wideP E s).1.2.2 } (exprP wideP E s).2
def manyP (s : PS) : Nat × PS := addP E { node0 with kind := 7, kids := [((K s).1 : Int)] } (K s).2
def useP (s : PS) : Nat × PS := addP E { node0 with kind := 13, text := (nameP E s).1 } (nameP E s).2
def namedP (s : PS) : Nat × PS :=
  if (kwP E [118, 97, 114, 105, 110, 116] s).1 then lenP wideP E { node0 with kind := 2 } (kwP E [118, 97, 114, 105, 110, 116] s).2
  else if (kwP E [122, 105, 103, 122, 97, 103] s).1 then lenP wideP E { node0 with kind := 2, zig := true } (kwP E [122, 105, 103, 122, 97, 103] s).2
  else if (kwP E [98, 121, 116, 101, 115] s).1 then blobP wideP E (kwP E [98, 121, 116, 101, 115] s).2
  else if (kwP E [116, 105, 109, 101, 115] s).1 then countedP wideP E K 6 (kwP E [116, 105, 109, 101, 115] s).2
  else if (kwP E [119, 105, 116, 104, 105, 110] s).1 then countedP wideP E K 8 (kwP E [119, 105, 116, 104, 105, 110] s).2
  else if (kwP E [109, 97, 110, 121] s).1 then manyP E K (kwP E [109, 97, 110, 121] s).2
  else if (kwP E [115, 119, 105, 116, 99, 104] s).1 then switchP wideP E K (kwP E [115, 119, 105, 116, 99, 104] s).2
  else if (kwP E [111, 110, 101, 111, 102] s).1 then choiceP E K 10 (kwP E [111, 110, 101, 111, 102] s).2
  else if (kwP E [99, 104, 97, 105, 110] s).1 then choiceP E K 11 (kwP E [99, 104, 97, 105, 110] s).2
  else if (kwP E [101, 109, 112, 116, 121] s).1 then addP E { node0 with kind := 12 } (kwP E [101, 109, 112, 116, 121] s).2
  else useP E s
end
/-- A type; so much deeper it may be. -/
def kindP (wideP : List UInt8 → Nat × Nat) (E : PE) : Nat → PS → Nat × PS
  | 0, s => (0, wrongP 6 s)
  | d + 1, s =>
    if s.code ≠ 0 then (0, s) else
    if (peekP E s).kind = 3 then addP E { node0 with kind := 3, text := (peekP E s).text } (stepP (if (peekP E s).text = [] then wrongP 5 s else s)) else
    if isP E 4 [123] s then recordP E (kindP wideP E d) s else
    if (peekP E s).kind ≠ 1 then (0, wrongP 5 s) else
    match fixedD (peekP E s).text with
    | some x => rangedP wideP E { node0 with kind := 1, width := (x.1 : Int), little := x.2 } (stepP s)
    | none => namedP wideP E (kindP wideP E d) s
def defP (wideP : List UInt8 → Nat × Nat) (E : PE) (s : PS) : PS :=
  let n := nameP E s
  let k := kindP wideP E 25 (mustP E [61] n.2)
  let s1 := mustP E [59] k.2
  if s1.code ≠ 0 then s1 else if s1.defs.length = E.limD then wrongP 2 s1 else { s1 with defs := s1.defs ++ [⟨n.1, k.1⟩] }
def defsP (wideP : List UInt8 → Nat × Nat) (E : PE) : Nat → PS → PS
  | 0, s => s
  | f + 1, s =>
    let s1 := defP wideP E s
    if s1.code = 0 ∧ (peekP E s1).kind ≠ 5 then defsP wideP E f s1 else s1
def startP : PS := ⟨0, [], [], 0, 0⟩
/-- What a text's tokens are read as: the specification and no fault, or a fault and at which token (none: at the text's end). -/
def readP (wideP : List UInt8 → Nat × Nat) (l : List TokD) : SpecD × Int × Option Nat :=
  let s := defsP wideP (listE l) 70 startP
  if s.code ≠ 0 then (⟨[], []⟩, (s.code : Int), some s.fat) else
  if checkD ⟨s.nodes, s.defs⟩ ≠ 0 then (⟨[], []⟩, checkD ⟨s.nodes, s.defs⟩, none) else (⟨s.nodes, s.defs⟩, 0, some 0)
end Go.Proofs.YtefipginoakecaaGreatDoor
end
section
/- The reader of specifications: where it stands, and what names it takes. No program in sight. -/
namespace Go.Proofs.YtefipginoakecaaGreatDoor
open Go Go.E
set_option linter.unusedVariables false
set_option linter.unusedSectionVars false
set_option linter.unusedSimpArgs false
set_option maxRecDepth 10000
/-- Tokens, the last one of which, and no other one, is the end. -/
structure EndL (l : List TokD) : Prop where
  pos : 0 < l.length
  last : ∀ (i : Nat) (t : TokD), l[i]? = some t → (t.kind = 5 ↔ i + 1 = l.length)
/-- What each step of the reader keeps. -/
class Clo (E : PE) (I : PS → Prop) : Prop where
  wrong : ∀ (s : PS) (e : Nat), e ≠ 0 → I s → I (wrongP e s)
  step : ∀ s : PS, I s → (peekP E s).kind ≠ 5 ∨ s.code ≠ 0 → I (stepP s)
  backW : ∀ (s : PS) (e : Nat), e ≠ 0 → I s → I (wrongP e (backP s))
  add : ∀ (s : PS) (n : NodeD), I s → I { s with nodes := s.nodes ++ [n] }
structure InP (I : PS → Prop) (E : PE) (s : PS) : Prop where
  get : I s
section
variable {wideP : List UInt8 → Nat × Nat} {E : PE} {s : PS} {I : PS → Prop} [C : Clo E I]
theorem InP.wrong (h : InP I E s) (e : Nat) (he : e ≠ 0) : InP I E (wrongP e s) := ⟨C.wrong s e he h.get⟩
theorem InP.step (h : InP I E s) (hk : (peekP E s).kind ≠ 5) : InP I E (stepP s) := ⟨C.step s h.get (.inl hk)⟩
theorem InP.backW (h : InP I E s) (e : Nat) (he : e ≠ 0) : InP I E (wrongP e (backP s)) := ⟨C.backW s e he h.get⟩
theorem InP.stepF (hc : s.code ≠ 0) (h : InP I E s) : InP I E (stepP s) := ⟨C.step s h.get (.inr hc)⟩
theorem InP.eat (h : InP I E s) {k : Nat} (hk : k ≠ 5) (t : List UInt8) : InP I E (eatP E k t s).2 := by
  unfold eatP
  split
  · rename_i hi
    unfold isP at hi
    rw [Bool.and_eq_true, decide_eq_true_eq] at hi
    exact h.step  (by rw [hi.1]; exact hk)
  · exact h
theorem InP.sign (h : InP I E s) (t : List UInt8) : InP I E (signP E t s).2 := h.eat  (by decide) t
theorem InP.kw (h : InP I E s) (t : List UInt8) : InP I E (kwP E t s).2 := h.eat  (by decide) t
theorem InP.must (h : InP I E s) (t : List UInt8) : InP I E (mustP E t s) := by
  unfold mustP
  split
  · exact h.sign  t
  · exact h.wrong 5 (by decide)
theorem InP.name (h : InP I E s) : InP I E (nameP E s).2 := by
  unfold nameP
  split
  · exact h.wrong 5 (by decide)
  · rename_i hk
    exact h.step  (fun e => hk (.inl (by rw [e]; decide)))
theorem InP.num (h : InP I E s) : InP I E (numP wideP E s).2 := by
  unfold numP
  split
  · exact h.wrong 5 (by decide)
  · rename_i hk
    split
    · rename_i he; exact h.wrong _ he
    · exact h.step  (fun e => hk (by rw [e]; decide))
theorem InP.add (h : InP I E s) (n : NodeD) : InP I E (addP E n s).2 := by
  unfold addP
  split
  · exact h.wrong 2 (by decide)
  · exact ⟨C.add s n h.get⟩
theorem InP.ranged (h : InP I E s) (n : NodeD) : InP I E (rangedP wideP E n s).2 := by
  unfold rangedP
  split
  · dsimp only
    refine InP.add ?_ _
    have h2 : InP I E (numP wideP E (mustP E [46, 46] (numP wideP E s).2)).2 := ((h.num ).must  _).num 
    split
    · exact h2.backW 1 (by decide)
    · exact h2
  · exact h.add _
theorem InP.expr (h : InP I E s) : InP I E (exprP wideP E s).2 := by
  have h1 := h.must  [91]
  unfold exprP
  dsimp only
  generalize mustP E [91] s = s1 at *
  split
  · have h2 := h1.num (wideP := wideP) 
    generalize numP wideP E s1 = r at *
    have h3 := h2.sign  [42]
    generalize signP E [42] r.2 = m at *
    split
    · exact h3.must  _
    · have h4 : InP I E (if r.1 = 0 then wrongP 1 m.2 else m.2) := by
        split
        · exact h3.wrong 1 (by decide)
        · exact h3
      generalize (if r.1 = 0 then wrongP 1 m.2 else m.2) = s2 at *
      have h5 := (h4.name ).sign  [43]
      generalize nameP E s2 = x at *
      generalize signP E [43] x.2 = p at *
      split
      · exact (h5.num ).must  _
      · exact h5.must  _
  · have h5 := (h1.name ).sign  [43]
    generalize nameP E s1 = x at *
    generalize signP E [43] x.2 = p at *
    split
    · exact (h5.num ).must  _
    · exact h5.must  _
variable {K : PS → Nat × PS}
theorem InP.counted (hK : ∀ s, InP I E s → InP I E (K s).2) (h : InP I E s) (k : Int) : InP I E (countedP wideP E K k s).2 := by
  unfold countedP
  exact (hK _ (h.expr )).add _
theorem InP.derive (h : InP I E s) : InP I E (deriveP E s).2 := by
  unfold deriveP
  split
  · exact h.kw  _
  split
  · exact h.kw  _
  split
  · exact h.kw  _
  · exact h.wrong 5 (by decide)
theorem InP.field (hK : ∀ s, InP I E s → InP I E (K s).2) (h : InP I E s) : InP I E (fieldP E K s).2 := by
  unfold fieldP
  dsimp only
  have h1 := (hK _ ((h.name ).must  [58])).sign  [61]
  generalize signP E [61] (K (mustP E [58] (nameP E s).2)).2 = e at *
  split
  · have h3 := ((h1.derive ).must  [40]).name 
    generalize deriveP E e.2 = d at *
    generalize nameP E (mustP E [40] d.2) = o at *
    split <;> dsimp only
    · exact (((h3.must  _).name ).must  _).must  _
    · exact (h3.must  _).must  _
  · exact h1.must  _
theorem InP.fields (hK : ∀ s, InP I E s → InP I E (K s).2) : ∀ (f : Nat) (fs : List FieldD) (s : PS), InP I E s → InP I E (fieldsP E K f fs s).2
  | 0, fs, s, h => h
  | f + 1, fs, s, h => by
    rw [fieldsP]
    split
    · exact h
    · dsimp only
      have h1 := h.sign  [125]
      split
      · exact h1
      · refine InP.fields  hK f _ _ (InP.field  hK ?_)
        split
        · exact h1.wrong 2 (by decide)
        · exact h1
theorem InP.record (hK : ∀ s, InP I E s → InP I E (K s).2) (h : InP I E s) : InP I E (recordP E K s).2 := by
  unfold recordP
  dsimp only
  have h1 := InP.fields  hK 70 [] _ (h.must  [123])
  refine InP.add ?_ _
  split
  · exact h1.backW 5 (by decide)
  · exact h1
theorem InP.cases (hK : ∀ s, InP I E s → InP I E (K s).2) : ∀ (f : Nat) (cs : List CaseD) (s : PS), InP I E s → InP I E (casesP wideP E K f cs s).2
  | 0, cs, s, h => h
  | f + 1, cs, s, h => by
    rw [casesP]
    split
    · exact h
    · dsimp only
      refine InP.cases  hK f _ _ (InP.must  (hK _ (InP.must  (InP.num  ?_) _)) _)
      split
      · exact h.wrong 2 (by decide)
      · exact h
theorem InP.switch (hK : ∀ s, InP I E s → InP I E (K s).2) (h : InP I E s) : InP I E (switchP wideP E K s).2 := by
  unfold switchP
  dsimp only
  have h1 := (h.name ).sign  [37]
  generalize signP E [37] (nameP E s).2 = m at *
  have h2 : InP I E (if m.1 = true then numP wideP E m.2 else (0, m.2)).2 := by
    split
    · exact h1.num 
    · exact h1
  generalize (if m.1 = true then numP wideP E m.2 else (0, m.2)) = v at *
  have h3 : InP I E (if m.1 = true ∧ v.2.code = 0 ∧ v.1 = 0 then wrongP 1 (backP v.2) else v.2) := by
    split
    · exact h2.backW 1 (by decide)
    · exact h2
  have h4 := InP.cases (wideP := wideP)  hK 70 [] _ (h3.must  [123])
  generalize casesP wideP E K 70 [] (mustP E [123] (if m.1 = true ∧ v.2.code = 0 ∧ v.1 = 0 then wrongP 1 (backP v.2) else v.2)) = c at *
  have h5 : InP I E (if c.1.length = 0 then wrongP 5 c.2 else c.2) := by
    split
    · exact h4.wrong 5 (by decide)
    · exact h4
  have h6 := h5.kw  [101, 108, 115, 101]
  generalize kwP E [101, 108, 115, 101] (if c.1.length = 0 then wrongP 5 c.2 else c.2) = e at *
  refine InP.add (InP.must  ?_ _) _
  by_cases he : e.1 = true
  · rw [if_pos he, if_pos he]
    exact (hK _ (h6.must  _)).must  _
  · rw [if_neg he, if_neg he]
    exact h6
theorem InP.over (h : InP I E s) (n : Nat) : InP I E (overP n s) := by
  unfold overP
  split
  · exact h.wrong 2 (by decide)
  · exact h
theorem InP.last (h : InP I E s) (kind : Int) : InP I E (lastP E kind s).2 := by
  unfold lastP
  split
  · exact h.kw  _
  · exact h
theorem InP.choices (hK : ∀ s, InP I E s → InP I E (K s).2) (kind : Int) : ∀ (f : Nat) (ks : List Int) (ls : List Bool) (s : PS), InP I E s → InP I E (choicesP E K kind f ks ls s).2.2
  | 0, ks, ls, s, h => h
  | f + 1, ks, ls, s, h => by
    rw [choicesP]
    have h3 := (hK _ ((h.over ks.length).last  kind)).sign  [124]
    split
    · exact InP.choices  hK kind f _ _ _ h3
    · exact h3
theorem InP.choice (hK : ∀ s, InP I E s → InP I E (K s).2) (h : InP I E s) (kind : Int) : InP I E (choiceP E K kind s).2 := by
  have h1 := h.must  [123]
  refine InP.add (InP.must  ?_ _) _
  unfold pickP
  split
  · exact InP.choices  hK kind _ _ _ _ h1
  · exact h1
theorem InP.ite {c : Prop} [Decidable c] {a b : Nat × PS} (h1 : InP I E a.2) (h2 : InP I E b.2) : InP I E (if c then a else b).2 := by
  split
  · exact h1
  · exact h2
theorem InP.named (hK : ∀ s, InP I E s → InP I E (K s).2) (h : InP I E s) : InP I E (namedP wideP E K s).2 := by
  unfold namedP
  refine InP.ite (InP.ranged  ((h.kw  _).kw  _) _) ?_
  refine InP.ite (InP.ranged  ((h.kw  _).kw  _) _) ?_
  refine InP.ite (InP.add ((h.kw  _).expr ) _) ?_
  refine InP.ite (InP.counted  hK (h.kw  _) 6) ?_
  refine InP.ite (InP.counted  hK (h.kw  _) 8) ?_
  refine InP.ite (InP.add (hK _ (h.kw  _)) _) ?_
  refine InP.ite (InP.switch  hK (h.kw  _)) ?_
  refine InP.ite (InP.choice  hK (h.kw  _) 10) ?_
  refine InP.ite (InP.choice  hK (h.kw  _) 11) ?_
  refine InP.ite (InP.add (h.kw  _) _) ?_
  exact InP.add (h.name ) _
theorem InP.kind : ∀ (d : Nat) (s : PS), InP I E s → InP I E (kindP wideP E d s).2
  | 0, s, h => h.wrong 6 (by decide)
  | d + 1, s, h => by
    rw [kindP]
    split
    · exact h
    rename_i hc
    split
    · rename_i hk
      refine InP.add ?_ _
      split
      · exact InP.stepF (by unfold wrongP; rw [if_pos (Decidable.of_not_not hc)]; exact (by decide : (5 : Nat) ≠ 0)) (h.wrong 5 (by decide))
      · exact h.step  (by rw [hk]; decide)
    split
    · exact h.record  (InP.kind  d)
    split
    · exact h.wrong 5 (by decide)
    rename_i hk
    split
    · exact InP.ranged  (h.step  (fun e => hk (by rw [e]; decide))) _
    · exact h.named  (InP.kind  d)
end
/-- What is wrong stays wrong. -/
theorem sticky_clo (l : List TokD) : Clo (listE l) (fun s => s.code ≠ 0) where
  wrong s e he h := by unfold wrongP; rw [if_neg h]; exact h
  step s h hk := h
  backW s e he h := by unfold wrongP; rw [if_neg (show ¬ (backP s).code = 0 from h)]; exact h
  add s n h := h
section
variable {wideP : List UInt8 → Nat × Nat} {l : List TokD} {s : PS}
end
end Go.Proofs.YtefipginoakecaaGreatDoor
end
section
/- Contracts of wide: Mul, Add, Line, Int, Parse, Digits. -/
namespace Go.Proofs
open Go.Shelf
def Tryz.laysMul_ren : Go.Shelf.Ren := ⟨fun | 264 => 180 | n => n, fun | 53 => 33 | 46 => 171 | n => n, fun | n => n⟩
theorem Tryz.laysMul : Go.Proofs.Lays.n264 Tryz.prog Tryz.laysMul_ren := {
  mixed := by kernel_rfl
  f264 := Tryz.func180.trans (congrArg some (by kernel_rfl))
  t46 := Tryz.underlying171
  a46 := Tryz.isAgg171
  z46 := Tryz.sizeOf171
  v46 := Tryz.zeroValue171
  t53 := Tryz.underlying33
  a53 := Tryz.isAgg33
  z53 := Tryz.sizeOf33
  v53 := Tryz.zeroValue33 }
end Go.Proofs
namespace Go.Proofs.YtefipginoakecaaGreatDoor
open Go Go.E
set_option linter.unusedVariables false
set_option linter.unusedSectionVars false
set_option linter.unusedSimpArgs false
set_option maxRecDepth 10000
def isDig (c : Nat) : Bool := decide (48 ≤ c) && decide (c ≤ 57)
def badNum (l : List UInt8) : Bool := l.isEmpty || (decide (1 < l.length) && decide (l.headD 0 = 48))
def valOf (l : List UInt8) : Nat := l.foldl (fun v c => 10 * v + (c.toNat - 48)) 0
section
variable {ro : Ro} {own r : Chs} {K : Value → Ro → Chs → Prop} {g : Chunk → Chs}
theorem mul64_ok {x y : Nat} (hx : x < 18446744073709551616) (hy : y < 18446744073709551616) (hk : K (.tuple #[.int .u64 ((x * y / 18446744073709551616 : Nat) : Int), .int .u64 ((x * y % 18446744073709551616 : Nat) : Int)]) ro own) :
    CallOk Tryz.prog 180 #[.int .u64 (x : Int), .int .u64 (y : Int)] ro own K := by
  refine CallOk.ofBelow Tryz.call180 (fun w => ?_) hk
  have h := Go.Proofs.Any.bits_Mul64 Tryz.laysMul x y hx hy w
  rw [show Tryz.laysMul_ren.f 264 = 180 by kernel_rfl] at h
  refine h.mono fun e w' ⟨he, hb⟩ => ⟨he, ?_⟩
  rw [hb]
  exact Go.RowKit.Below.refl _ _
theorem wmul_ok {x y : Nat} (hx : x < 18446744073709551616) (hy : y < 18446744073709551616) (h1 : x * y < 18446744073709551616 → K (.tuple #[.int .u64 ((x * y : Nat) : Int), .int .i64 0]) ro own) (h2 : 18446744073709551616 ≤ x * y → K (.tuple #[.int .u64 0, .int .i64 40]) ro own) :
    CallOk Tryz.prog 178 #[.int .u64 (x : Int), .int .u64 (y : Int)] ro own K := by
  refine CallOk.intro (args := [_, _]) (rs := [_, _]) T_ok Tryz.func178 Tryz.call178 rfl rfl (by kernel_rfl) rfl rfl ?_
  repeat (first | exact endA | refine wkP ?_ | refine opB (fun b => ?_) | refine opA (fun a' c' hc1 hc2 => ?_) | (apply GJ.and; exact rfl; intro hg) | (apply GJ.or; exact rfl; intro hg))
  refine mul64_ok hx hy ?_
  generalize x * y = z at h1 h2 ⊢
  repeat (first | exact endA | refine wkP ?_ | refine opB (fun b => ?_) | refine opA (fun a' c' hc1 hc2 => ?_) | (apply GJ.and; exact rfl; intro hg) | (apply GJ.or; exact rfl; intro hg))
  refine Br.cases (fun h => ?_) (fun h => ?_)
  · repeat (first | exact endA | refine wkP ?_ | refine opB (fun b => ?_) | refine opA (fun a' c' hc1 hc2 => ?_) | (apply GJ.and; exact rfl; intro hg) | (apply GJ.or; exact rfl; intro hg))
    exact Wk.outS Sup.auto (.refl _) (h2 (by omega))
  · have h3 : z < 18446744073709551616 := by omega
    rw [Nat.mod_eq_of_lt h3]
    repeat (first | exact endA | refine wkP ?_ | refine opB (fun b => ?_) | refine opA (fun a' c' hc1 hc2 => ?_) | (apply GJ.and; exact rfl; intro hg) | (apply GJ.or; exact rfl; intro hg))
    exact Wk.outS Sup.auto (.refl _) (h1 h3)
theorem wadd_ok {x y : Nat} (hx : x < 18446744073709551616) (hy : y < 18446744073709551616) (h1 : x + y < 18446744073709551616 → K (.tuple #[.int .u64 ((x + y : Nat) : Int), .int .i64 0]) ro own) (h2 : 18446744073709551616 ≤ x + y → K (.tuple #[.int .u64 0, .int .i64 40]) ro own) :
    CallOk Tryz.prog 179 #[.int .u64 (x : Int), .int .u64 (y : Int)] ro own K := by
  refine CallOk.intro (args := [_, _]) (rs := [_, _]) T_ok Tryz.func179 Tryz.call179 rfl rfl (by kernel_rfl) rfl rfl ?_
  repeat (first | exact endA | refine wkP ?_ | refine opB (fun b => ?_) | refine opA (fun a' c' hc1 hc2 => ?_) | (apply GJ.and; exact rfl; intro hg) | (apply GJ.or; exact rfl; intro hg))
  refine CallOk.add64 Tryz.func181 (by kernel_rfl) (by kernel_rfl) (by kernel_rfl) (by kernel_rfl) ?_
  generalize x + y = z at h1 h2 ⊢
  repeat (first | exact endA | refine wkP ?_ | refine opB (fun b => ?_) | refine opA (fun a' c' hc1 hc2 => ?_) | (apply GJ.and; exact rfl; intro hg) | (apply GJ.or; exact rfl; intro hg))
  refine Br.cases (fun h => ?_) (fun h => ?_)
  · repeat (first | exact endA | refine wkP ?_ | refine opB (fun b => ?_) | refine opA (fun a' c' hc1 hc2 => ?_) | (apply GJ.and; exact rfl; intro hg) | (apply GJ.or; exact rfl; intro hg))
    exact Wk.outS Sup.auto (.refl _) (h2 (by omega))
  · have h3 : z < 18446744073709551616 := by omega
    rw [Nat.mod_eq_of_lt h3]
    repeat (first | exact endA | refine wkP ?_ | refine opB (fun b => ?_) | refine opA (fun a' c' hc1 hc2 => ?_) | (apply GJ.and; exact rfl; intro hg) | (apply GJ.or; exact rfl; intro hg))
    exact Wk.outS Sup.auto (.refl _) (h1 h3)
theorem wline_ok {m x y : Nat} (hm : m < 18446744073709551616) (hx : x < 18446744073709551616) (hy : y < 18446744073709551616) (h1 : m * x + y < 18446744073709551616 → K (.tuple #[.int .u64 ((m * x + y : Nat) : Int), .int .i64 0]) ro own) (h2 : 18446744073709551616 ≤ m * x + y → K (.tuple #[.int .u64 0, .int .i64 40]) ro own) :
    CallOk Tryz.prog 175 #[.int .u64 (m : Int), .int .u64 (x : Int), .int .u64 (y : Int)] ro own K := by
  refine CallOk.intro (args := [_, _, _]) (rs := [_, _]) T_ok Tryz.func175 Tryz.call175 rfl rfl (by kernel_rfl) rfl rfl ?_
  repeat (first | exact endA | refine wkP ?_ | refine opB (fun b => ?_) | refine opA (fun a' c' hc1 hc2 => ?_) | (apply GJ.and; exact rfl; intro hg) | (apply GJ.or; exact rfl; intro hg))
  refine wmul_ok hm hx (fun h => ?_) (fun h => ?_)
  · repeat (first | exact endA | refine wkP ?_ | refine opB (fun b => ?_) | refine opA (fun a' c' hc1 hc2 => ?_) | (apply GJ.and; exact rfl; intro hg) | (apply GJ.or; exact rfl; intro hg))
    refine wadd_ok h hy (fun h3 => ?_) (fun h3 => ?_)
    · repeat (first | exact endA | refine wkP ?_ | refine opB (fun b => ?_) | refine opA (fun a' c' hc1 hc2 => ?_) | (apply GJ.and; exact rfl; intro hg) | (apply GJ.or; exact rfl; intro hg))
      exact Wk.outS Sup.auto (.refl _) (h1 h3)
    · repeat (first | exact endA | refine wkP ?_ | refine opB (fun b => ?_) | refine opA (fun a' c' hc1 hc2 => ?_) | (apply GJ.and; exact rfl; intro hg) | (apply GJ.or; exact rfl; intro hg))
      exact Wk.outS Sup.auto (.refl _) (h2 h3)
  · repeat (first | exact endA | refine wkP ?_ | refine opB (fun b => ?_) | refine opA (fun a' c' hc1 hc2 => ?_) | (apply GJ.and; exact rfl; intro hg) | (apply GJ.or; exact rfl; intro hg))
    exact Wk.outS Sup.auto (.refl _) (h2 (by omega))
theorem valOf_snoc (l : List UInt8) (c : UInt8) : valOf (l ++ [c]) = 10 * valOf l + (c.toNat - 48) := by simp [valOf]
def allDig (l : List UInt8) : Bool := l.all fun c => isDig c.toNat
def numD (l : List UInt8) : Nat × Nat := if badNum l = true ∨ allDig l = false then (0, 5) else if 18446744073709551616 ≤ valOf l then (0, 40) else (valOf l, 0)
set_option maxHeartbeats 4000000 in
theorem wparse_ok {l : List UInt8} (hl : l.length ≤ 100000) (hk : K (.tuple #[.int .u64 ((numD l).1 : Int), .int .i64 ((numD l).2 : Int)]) ro own) :
    CallOk Tryz.prog 162 #[str l] ro own K := by
  by_cases hb : badNum l = true
  · have hn : numD l = (0, 5) := by unfold numD; rw [if_pos (.inl hb)]
    rw [hn] at hk
    match l, hl, hb with
    | [], hl, hb =>
      refine CallOk.intro (args := [_]) (rs := [_, _]) T_ok Tryz.func162 Tryz.call162 rfl rfl (by kernel_rfl) rfl rfl ?_
      repeat (first | exact endA | refine wkP ?_ | refine opB (fun b => ?_) | refine opA (fun a' c' hc1 hc2 => ?_) | (apply GJ.and; exact rfl; intro hg) | (apply GJ.or; exact rfl; intro hg))
      exact Wk.outS Sup.auto (.refl _) hk
    | [c], hl, hb => simp [badNum] at hb
    | c :: d :: r, hl, hb =>
      have hc : c = 48 := by simpa [badNum] using hb
      subst hc
      have hlen : 1 < (48 :: d :: r : List UInt8).length := by simp
      have hne : ¬ (48 :: d :: r : List UInt8) = [] := by simp
      refine CallOk.intro (args := [_]) (rs := [_, _]) T_ok Tryz.func162 Tryz.call162 rfl rfl (by kernel_rfl) rfl rfl ?_
      repeat (first | exact endA | refine wkP ?_ | refine opB (fun b => ?_) | refine opA (fun a' c' hc1 hc2 => ?_) | (apply GJ.and; exact rfl; intro hg) | (apply GJ.or; exact rfl; intro hg))
      refine Br.t rfl ?_
      repeat (first | exact endA | refine wkP ?_ | refine opB (fun b => ?_) | refine opA (fun a' c' hc1 hc2 => ?_) | (apply GJ.and; exact rfl; intro hg) | (apply GJ.or; exact rfl; intro hg))
      exact Wk.outS Sup.auto (.refl _) hk
  · have hne : ¬ l = [] := by intro e; subst e; exact hb rfl
    have h0 : 1 < l.length → ¬ (l[0]!).toNat = 48 := by
      intro h e
      apply hb
      match l, h, e with
      | c :: d :: r, h, e =>
        have hc : c = 48 := UInt8.toNat_inj.1 e
        subst hc; rfl
    have hnum : numD l = if allDig l = false then (0, 5) else if 18446744073709551616 ≤ valOf l then (0, 40) else (valOf l, 0) := by
      unfold numD
      by_cases ha : allDig l = false
      · rw [if_pos (.inr ha), if_pos ha]
      · rw [if_neg (fun x => x.elim hb ha), if_neg ha]
    have rest : True := trivial
    have hz : (Int.toNat 0) = 0 := rfl
    refine CallOk.intro (args := [_]) (rs := [_, _]) T_ok Tryz.func162 Tryz.call162 rfl rfl (by kernel_rfl) rfl rfl ?_
    by_cases h1 : 1 < l.length
    · have h0 := h0 h1
      repeat (first | exact endA | refine wkP ?_ | refine opB (fun b => ?_) | refine opA (fun a' c' hc1 hc2 => ?_) | (apply GJ.and; exact rfl; intro hg) | (apply GJ.or; exact rfl; intro hg))
      refine Br.f (by rw [hz]; omega) ?_
      repeat (first | exact endA | refine wkP ?_ | refine opB (fun b => ?_) | refine opA (fun a' c' hc1 hc2 => ?_) | (apply GJ.and; exact rfl; intro hg) | (apply GJ.or; exact rfl; intro hg))
      refine LoopOk.at (ι := Nat × Nat × Bool) Keep.auto (fun (i, n, gr) => [(23, .int .i64 (i : Int)), (4, .int .u64 (n : Int)), (5, .bool gr)]) (fun (i, n, gr) => own) (fun (i, n, gr) => i ≤ l.length ∧ allDig (l.take i) = true ∧ n < 18446744073709551616 ∧ (gr = false → n = valOf (l.take i)) ∧ (gr = true → 18446744073709551616 ≤ valOf (l.take i))) (fun (i, n, gr) => l.length - i) (0, 0, false) ?_ Sub.auto Sup.auto ?_
      · exact ⟨Nat.zero_le _, rfl, by decide, fun _ => rfl, fun h => by cases h⟩
      rintro ⟨i, n, gr⟩ ⟨i1, i2, i3, i4, i5⟩
      dsimp only [List.cons_append, List.nil_append] at i1 i2 i3 i4 i5 ⊢
      repeat (first | exact endA | refine wkP ?_ | refine opB (fun b => ?_) | refine opA (fun a' c' hc1 hc2 => ?_) | (apply GJ.and; exact rfl; intro hg) | (apply GJ.or; exact rfl; intro hg))
      refine Br.cases (fun hg => ?_) (fun hg => ?_)
      · have hi : i < l.length := by omega
        obtain ⟨c, hc⟩ : ∃ c, l[i]? = some c := ⟨_, List.getElem?_eq_getElem hi⟩
        have htk : l.take (i + 1) = l.take i ++ [c] := by rw [List.take_add_one, hc]; rfl
        have hgc : l[(i : Int).toNat]! = c := by rw [Int.toNat_natCast, List.getElem!_eq_getElem?_getD, hc]; rfl
        have hcn := c.toNat_lt
        have hbad : isDig c.toNat = false → allDig l = false := fun h => by
          unfold allDig
          rw [List.all_eq_false]
          exact ⟨c, List.mem_of_getElem? hc, by rw [h]; decide⟩
        repeat (first | exact endA | refine wkP ?_ | refine opB (fun b => ?_) | refine opA (fun a' c' hc1 hc2 => ?_) | (apply GJ.and; exact rfl; intro hg) | (apply GJ.or; exact rfl; intro hg))
        try rw [hgc]
        by_cases hlo : c.toNat < 48
        · have hd := hbad (by simp [isDig]; omega)
          rw [hnum, if_pos hd] at hk
          repeat (first | exact endA | refine wkP ?_ | refine opB (fun b => ?_) | refine opA (fun a' c' hc1 hc2 => ?_) | (apply GJ.and; exact rfl; intro hg) | (apply GJ.or; exact rfl; intro hg))
          exact Wk.outS Sup.auto (.refl _) hk
        by_cases hhi : 57 < c.toNat
        · have hd := hbad (by simp [isDig]; omega)
          rw [hnum, if_pos hd] at hk
          repeat (first | exact endA | refine wkP ?_ | refine opB (fun b => ?_) | refine opA (fun a' c' hc1 hc2 => ?_) | (apply GJ.and; exact rfl; intro hg) | (apply GJ.or; exact rfl; intro hg))
          try rw [hgc]
          repeat (first | exact endA | refine wkP ?_ | refine opB (fun b => ?_) | refine opA (fun a' c' hc1 hc2 => ?_) | (apply GJ.and; exact rfl; intro hg) | (apply GJ.or; exact rfl; intro hg))
          exact Wk.outS Sup.auto (.refl _) hk
        have hdig : isDig c.toNat = true := by simp [isDig]; omega
        have hall : allDig (l.take (i + 1)) = true := by
          rw [htk]; unfold allDig at i2 ⊢; rw [List.all_append, i2]; simp [hdig]
        have hv : valOf (l.take (i + 1)) = 10 * valOf (l.take i) + (c.toNat - 48) := by rw [htk, valOf_snoc]
        repeat (first | exact endA | refine wkP ?_ | refine opB (fun b => ?_) | refine opA (fun a' c' hc1 hc2 => ?_) | (apply GJ.and; exact rfl; intro hg) | (apply GJ.or; exact rfl; intro hg))
        try rw [hgc]
        repeat (first | exact endA | refine wkP ?_ | refine opB (fun b => ?_) | refine opA (fun a' c' hc1 hc2 => ?_) | (apply GJ.and; exact rfl; intro hg) | (apply GJ.or; exact rfl; intro hg))
        try rw [hgc]
        repeat (first | exact endA | refine wkP ?_ | refine opB (fun b => ?_) | refine opA (fun a' c' hc1 hc2 => ?_) | (apply GJ.and; exact rfl; intro hg) | (apply GJ.or; exact rfl; intro hg))
        rw [show ((c.toNat : Int) - 48) % 256 = ((c.toNat - 48 : Nat) : Int) by omega]
        refine wline_ok (m := 10) (x := n) (y := c.toNat - 48) (by decide) i3 (by omega) (fun h => ?_) (fun h => ?_)
        · repeat (first | exact endA | refine wkP ?_ | refine opB (fun b => ?_) | refine opA (fun a' c' hc1 hc2 => ?_) | (apply GJ.and; exact rfl; intro hg) | (apply GJ.or; exact rfl; intro hg))
          refine Wk.id ⟨(i + 1, 10 * n + (c.toNat - 48), gr), ⟨rfl, ?_⟩, ?_, Sub.auto, Sup.auto⟩
          all_goals try dsimp only
          · exact ⟨by omega, hall, h, fun e => by rw [hv, i4 e], fun e => by have := i5 e; omega⟩
          · omega
        · repeat (first | exact endA | refine wkP ?_ | refine opB (fun b => ?_) | refine opA (fun a' c' hc1 hc2 => ?_) | (apply GJ.and; exact rfl; intro hg) | (apply GJ.or; exact rfl; intro hg))
          refine Wk.id ⟨(i + 1, 0, true), ⟨rfl, ?_⟩, ?_, Sub.auto, Sup.auto⟩
          all_goals try dsimp only
          · refine ⟨by omega, hall, by decide, fun e => (by cases e), fun _ => ?_⟩
            rw [hv]
            cases gr with
            | false => rw [← i4 rfl]; exact h
            | true => have := i5 rfl; omega
          · omega
      · obtain rfl : i = l.length := by omega
        rw [List.take_length] at i2 i4 i5
        rw [hnum, if_neg (by rw [i2]; decide)] at hk
        cases gr with
        | true =>
          rw [if_pos (i5 rfl)] at hk
          repeat (first | exact endA | refine wkP ?_ | refine opB (fun b => ?_) | refine opA (fun a' c' hc1 hc2 => ?_) | (apply GJ.and; exact rfl; intro hg) | (apply GJ.or; exact rfl; intro hg))
          exact Wk.outS Sup.auto (.refl _) hk
        | false =>
          rw [← i4 rfl, if_neg (by omega)] at hk
          repeat (first | exact endA | refine wkP ?_ | refine opB (fun b => ?_) | refine opA (fun a' c' hc1 hc2 => ?_) | (apply GJ.and; exact rfl; intro hg) | (apply GJ.or; exact rfl; intro hg))
          exact Wk.outS Sup.auto (.refl _) hk
    · repeat (first | exact endA | refine wkP ?_ | refine opB (fun b => ?_) | refine opA (fun a' c' hc1 hc2 => ?_) | (apply GJ.and; exact rfl; intro hg) | (apply GJ.or; exact rfl; intro hg))
      refine LoopOk.at (ι := Nat × Nat × Bool) Keep.auto (fun (i, n, gr) => [(23, .int .i64 (i : Int)), (4, .int .u64 (n : Int)), (5, .bool gr)]) (fun (i, n, gr) => own) (fun (i, n, gr) => i ≤ l.length ∧ allDig (l.take i) = true ∧ n < 18446744073709551616 ∧ (gr = false → n = valOf (l.take i)) ∧ (gr = true → 18446744073709551616 ≤ valOf (l.take i))) (fun (i, n, gr) => l.length - i) (0, 0, false) ?_ Sub.auto Sup.auto ?_
      · exact ⟨Nat.zero_le _, rfl, by decide, fun _ => rfl, fun h => by cases h⟩
      rintro ⟨i, n, gr⟩ ⟨i1, i2, i3, i4, i5⟩
      dsimp only [List.cons_append, List.nil_append] at i1 i2 i3 i4 i5 ⊢
      repeat (first | exact endA | refine wkP ?_ | refine opB (fun b => ?_) | refine opA (fun a' c' hc1 hc2 => ?_) | (apply GJ.and; exact rfl; intro hg) | (apply GJ.or; exact rfl; intro hg))
      refine Br.cases (fun hg => ?_) (fun hg => ?_)
      · have hi : i < l.length := by omega
        obtain ⟨c, hc⟩ : ∃ c, l[i]? = some c := ⟨_, List.getElem?_eq_getElem hi⟩
        have htk : l.take (i + 1) = l.take i ++ [c] := by rw [List.take_add_one, hc]; rfl
        have hgc : l[(i : Int).toNat]! = c := by rw [Int.toNat_natCast, List.getElem!_eq_getElem?_getD, hc]; rfl
        have hcn := c.toNat_lt
        have hbad : isDig c.toNat = false → allDig l = false := fun h => by
          unfold allDig
          rw [List.all_eq_false]
          exact ⟨c, List.mem_of_getElem? hc, by rw [h]; decide⟩
        repeat (first | exact endA | refine wkP ?_ | refine opB (fun b => ?_) | refine opA (fun a' c' hc1 hc2 => ?_) | (apply GJ.and; exact rfl; intro hg) | (apply GJ.or; exact rfl; intro hg))
        try rw [hgc]
        by_cases hlo : c.toNat < 48
        · have hd := hbad (by simp [isDig]; omega)
          rw [hnum, if_pos hd] at hk
          repeat (first | exact endA | refine wkP ?_ | refine opB (fun b => ?_) | refine opA (fun a' c' hc1 hc2 => ?_) | (apply GJ.and; exact rfl; intro hg) | (apply GJ.or; exact rfl; intro hg))
          exact Wk.outS Sup.auto (.refl _) hk
        by_cases hhi : 57 < c.toNat
        · have hd := hbad (by simp [isDig]; omega)
          rw [hnum, if_pos hd] at hk
          repeat (first | exact endA | refine wkP ?_ | refine opB (fun b => ?_) | refine opA (fun a' c' hc1 hc2 => ?_) | (apply GJ.and; exact rfl; intro hg) | (apply GJ.or; exact rfl; intro hg))
          try rw [hgc]
          repeat (first | exact endA | refine wkP ?_ | refine opB (fun b => ?_) | refine opA (fun a' c' hc1 hc2 => ?_) | (apply GJ.and; exact rfl; intro hg) | (apply GJ.or; exact rfl; intro hg))
          exact Wk.outS Sup.auto (.refl _) hk
        have hdig : isDig c.toNat = true := by simp [isDig]; omega
        have hall : allDig (l.take (i + 1)) = true := by
          rw [htk]; unfold allDig at i2 ⊢; rw [List.all_append, i2]; simp [hdig]
        have hv : valOf (l.take (i + 1)) = 10 * valOf (l.take i) + (c.toNat - 48) := by rw [htk, valOf_snoc]
        repeat (first | exact endA | refine wkP ?_ | refine opB (fun b => ?_) | refine opA (fun a' c' hc1 hc2 => ?_) | (apply GJ.and; exact rfl; intro hg) | (apply GJ.or; exact rfl; intro hg))
        try rw [hgc]
        repeat (first | exact endA | refine wkP ?_ | refine opB (fun b => ?_) | refine opA (fun a' c' hc1 hc2 => ?_) | (apply GJ.and; exact rfl; intro hg) | (apply GJ.or; exact rfl; intro hg))
        try rw [hgc]
        repeat (first | exact endA | refine wkP ?_ | refine opB (fun b => ?_) | refine opA (fun a' c' hc1 hc2 => ?_) | (apply GJ.and; exact rfl; intro hg) | (apply GJ.or; exact rfl; intro hg))
        rw [show ((c.toNat : Int) - 48) % 256 = ((c.toNat - 48 : Nat) : Int) by omega]
        refine wline_ok (m := 10) (x := n) (y := c.toNat - 48) (by decide) i3 (by omega) (fun h => ?_) (fun h => ?_)
        · repeat (first | exact endA | refine wkP ?_ | refine opB (fun b => ?_) | refine opA (fun a' c' hc1 hc2 => ?_) | (apply GJ.and; exact rfl; intro hg) | (apply GJ.or; exact rfl; intro hg))
          refine Wk.id ⟨(i + 1, 10 * n + (c.toNat - 48), gr), ⟨rfl, ?_⟩, ?_, Sub.auto, Sup.auto⟩
          all_goals try dsimp only
          · exact ⟨by omega, hall, h, fun e => by rw [hv, i4 e], fun e => by have := i5 e; omega⟩
          · omega
        · repeat (first | exact endA | refine wkP ?_ | refine opB (fun b => ?_) | refine opA (fun a' c' hc1 hc2 => ?_) | (apply GJ.and; exact rfl; intro hg) | (apply GJ.or; exact rfl; intro hg))
          refine Wk.id ⟨(i + 1, 0, true), ⟨rfl, ?_⟩, ?_, Sub.auto, Sup.auto⟩
          all_goals try dsimp only
          · refine ⟨by omega, hall, by decide, fun e => (by cases e), fun _ => ?_⟩
            rw [hv]
            cases gr with
            | false => rw [← i4 rfl]; exact h
            | true => have := i5 rfl; omega
          · omega
      · obtain rfl : i = l.length := by omega
        rw [List.take_length] at i2 i4 i5
        rw [hnum, if_neg (by rw [i2]; decide)] at hk
        cases gr with
        | true =>
          rw [if_pos (i5 rfl)] at hk
          repeat (first | exact endA | refine wkP ?_ | refine opB (fun b => ?_) | refine opA (fun a' c' hc1 hc2 => ?_) | (apply GJ.and; exact rfl; intro hg) | (apply GJ.or; exact rfl; intro hg))
          exact Wk.outS Sup.auto (.refl _) hk
        | false =>
          rw [← i4 rfl, if_neg (by omega)] at hk
          repeat (first | exact endA | refine wkP ?_ | refine opB (fun b => ?_) | refine opA (fun a' c' hc1 hc2 => ?_) | (apply GJ.and; exact rfl; intro hg) | (apply GJ.or; exact rfl; intro hg))
          exact Wk.outS Sup.auto (.refl _) hk
end
end Go.Proofs.YtefipginoakecaaGreatDoor
end
section
/- Contracts of spec: lists and nodes of one's own. -/
namespace Go.Proofs.YtefipginoakecaaGreatDoor
open Go Go.E
set_option linter.unusedVariables false
set_option maxRecDepth 10000
section
variable {ro : Ro} {own r : Chs} {K : Value → Ro → Chs → Prop} {g : Chunk → Chs}
theorem listI_ok {a : Option Addr} {n c : Nat} {cs : List Value} (hr : Rs ro a n c 1 cs) (h1 : ∀ u ∈ cs, u.oneCell' = true) (hn : n ≤ 100000000) (hk : ∀ a' c', n ≤ c' → c' ≤ maxLen → K (.slice a' n n) ro (.sl a' n c' 3 1 cs :: own)) :
    CallOk Tryz.prog 151 #[.slice a n c] ro own K := by
  refine CallOk.intro (args := [_]) (rs := [_]) T_ok Tryz.func151 Tryz.call151 rfl rfl (by kernel_rfl) rfl rfl ?_
  repeat (first | exact endA | refine wkG ?_ | refine opB (fun b => ?_) | refine opA (fun a' c' hc1 hc2 => ?_) | (show GJ _ _ _ _ _ _ _; first | (apply GJ.and; exact rfl; intro hg) | (apply GJ.or; exact rfl; intro hg) | refine GJ.t omAuto ?_ | refine GJ.f omAuto ?_ | refine GJ.ft omAuto ?_ | refine GJ.ff omAuto ?_))
  refine cloneI_ok hr h1 hn (fun a1 c1 h2 h3 => ?_)
  repeat (first | exact endA | refine wkG ?_ | refine opB (fun b => ?_) | refine opA (fun a' c' hc1 hc2 => ?_) | (show GJ _ _ _ _ _ _ _; first | (apply GJ.and; exact rfl; intro hg) | (apply GJ.or; exact rfl; intro hg) | refine GJ.t omAuto ?_ | refine GJ.f omAuto ?_ | refine GJ.ft omAuto ?_ | refine GJ.ff omAuto ?_))
  refine CallOk.intro (args := [_]) (rs := [_]) T_ok Tryz.func163 Tryz.call163 rfl rfl (by kernel_rfl) rfl rfl ?_
  repeat (first | exact endA | refine wkG ?_ | refine opB (fun b => ?_) | refine opA (fun a' c' hc1 hc2 => ?_) | (show GJ _ _ _ _ _ _ _; first | (apply GJ.and; exact rfl; intro hg) | (apply GJ.or; exact rfl; intro hg) | refine GJ.t omAuto ?_ | refine GJ.f omAuto ?_ | refine GJ.ft omAuto ?_ | refine GJ.ff omAuto ?_))
  refine Wk.id ?_
  repeat (first | exact endA | refine wkG ?_ | refine opB (fun b => ?_) | refine opA (fun a' c' hc1 hc2 => ?_) | (show GJ _ _ _ _ _ _ _; first | (apply GJ.and; exact rfl; intro hg) | (apply GJ.or; exact rfl; intro hg) | refine GJ.t omAuto ?_ | refine GJ.f omAuto ?_ | refine GJ.ft omAuto ?_ | refine GJ.ff omAuto ?_))
  exact Wk.id (hk _ _ h2 h3)
theorem listB_ok {a : Option Addr} {n c : Nat} {cs : List Value} (hr : Rs ro a n c 1 cs) (h1 : ∀ u ∈ cs, u.oneCell' = true) (hn : n ≤ 100000000) (hk : ∀ a' c', n ≤ c' → c' ≤ maxLen → K (.slice a' n n) ro (.sl a' n c' 4 1 cs :: own)) :
    CallOk Tryz.prog 152 #[.slice a n c] ro own K := by
  refine CallOk.intro (args := [_]) (rs := [_]) T_ok Tryz.func152 Tryz.call152 rfl rfl (by kernel_rfl) rfl rfl ?_
  repeat (first | exact endA | refine wkG ?_ | refine opB (fun b => ?_) | refine opA (fun a' c' hc1 hc2 => ?_) | (show GJ _ _ _ _ _ _ _; first | (apply GJ.and; exact rfl; intro hg) | (apply GJ.or; exact rfl; intro hg) | refine GJ.t omAuto ?_ | refine GJ.f omAuto ?_ | refine GJ.ft omAuto ?_ | refine GJ.ff omAuto ?_))
  refine cloneB_ok hr h1 hn (fun a1 c1 h2 h3 => ?_)
  repeat (first | exact endA | refine wkG ?_ | refine opB (fun b => ?_) | refine opA (fun a' c' hc1 hc2 => ?_) | (show GJ _ _ _ _ _ _ _; first | (apply GJ.and; exact rfl; intro hg) | (apply GJ.or; exact rfl; intro hg) | refine GJ.t omAuto ?_ | refine GJ.f omAuto ?_ | refine GJ.ft omAuto ?_ | refine GJ.ff omAuto ?_))
  refine CallOk.intro (args := [_]) (rs := [_]) T_ok Tryz.func164 Tryz.call164 rfl rfl (by kernel_rfl) rfl rfl ?_
  repeat (first | exact endA | refine wkG ?_ | refine opB (fun b => ?_) | refine opA (fun a' c' hc1 hc2 => ?_) | (show GJ _ _ _ _ _ _ _; first | (apply GJ.and; exact rfl; intro hg) | (apply GJ.or; exact rfl; intro hg) | refine GJ.t omAuto ?_ | refine GJ.f omAuto ?_ | refine GJ.ft omAuto ?_ | refine GJ.ff omAuto ?_))
  refine Wk.id ?_
  repeat (first | exact endA | refine wkG ?_ | refine opB (fun b => ?_) | refine opA (fun a' c' hc1 hc2 => ?_) | (show GJ _ _ _ _ _ _ _; first | (apply GJ.and; exact rfl; intro hg) | (apply GJ.or; exact rfl; intro hg) | refine GJ.t omAuto ?_ | refine GJ.f omAuto ?_ | refine GJ.ft omAuto ?_ | refine GJ.ff omAuto ?_))
  exact Wk.id (hk _ _ h2 h3)
theorem listF_ok {a : Option Addr} {n c : Nat} {cs : List Value} (hr : Rs ro a n c 5 cs) (h1 : ∀ u ∈ cs, u.oneCell' = true) (hn : n ≤ 100000000) (hk : ∀ a' c', n ≤ c' → c' ≤ maxLen → K (.slice a' n n) ro (.sl a' n c' 56 5 cs :: own)) :
    CallOk Tryz.prog 153 #[.slice a n c] ro own K := by
  refine CallOk.intro (args := [_]) (rs := [_]) T_ok Tryz.func153 Tryz.call153 rfl rfl (by kernel_rfl) rfl rfl ?_
  repeat (first | exact endA | refine wkG ?_ | refine opB (fun b => ?_) | refine opA (fun a' c' hc1 hc2 => ?_) | (show GJ _ _ _ _ _ _ _; first | (apply GJ.and; exact rfl; intro hg) | (apply GJ.or; exact rfl; intro hg) | refine GJ.t omAuto ?_ | refine GJ.f omAuto ?_ | refine GJ.ft omAuto ?_ | refine GJ.ff omAuto ?_))
  refine cloneF_ok hr h1 hn (fun a1 c1 h2 h3 => ?_)
  repeat (first | exact endA | refine wkG ?_ | refine opB (fun b => ?_) | refine opA (fun a' c' hc1 hc2 => ?_) | (show GJ _ _ _ _ _ _ _; first | (apply GJ.and; exact rfl; intro hg) | (apply GJ.or; exact rfl; intro hg) | refine GJ.t omAuto ?_ | refine GJ.f omAuto ?_ | refine GJ.ft omAuto ?_ | refine GJ.ff omAuto ?_))
  refine CallOk.intro (args := [_]) (rs := [_]) T_ok Tryz.func166 Tryz.call166 rfl rfl (by kernel_rfl) rfl rfl ?_
  repeat (first | exact endA | refine wkG ?_ | refine opB (fun b => ?_) | refine opA (fun a' c' hc1 hc2 => ?_) | (show GJ _ _ _ _ _ _ _; first | (apply GJ.and; exact rfl; intro hg) | (apply GJ.or; exact rfl; intro hg) | refine GJ.t omAuto ?_ | refine GJ.f omAuto ?_ | refine GJ.ft omAuto ?_ | refine GJ.ff omAuto ?_))
  refine Wk.id ?_
  repeat (first | exact endA | refine wkG ?_ | refine opB (fun b => ?_) | refine opA (fun a' c' hc1 hc2 => ?_) | (show GJ _ _ _ _ _ _ _; first | (apply GJ.and; exact rfl; intro hg) | (apply GJ.or; exact rfl; intro hg) | refine GJ.t omAuto ?_ | refine GJ.f omAuto ?_ | refine GJ.ft omAuto ?_ | refine GJ.ff omAuto ?_))
  exact Wk.id (hk _ _ h2 h3)
theorem listC_ok {a : Option Addr} {n c : Nat} {cs : List Value} (hr : Rs ro a n c 2 cs) (h1 : ∀ u ∈ cs, u.oneCell' = true) (hn : n ≤ 100000000) (hk : ∀ a' c', n ≤ c' → c' ≤ maxLen → K (.slice a' n n) ro (.sl a' n c' 113 2 cs :: own)) :
    CallOk Tryz.prog 154 #[.slice a n c] ro own K := by
  refine CallOk.intro (args := [_]) (rs := [_]) T_ok Tryz.func154 Tryz.call154 rfl rfl (by kernel_rfl) rfl rfl ?_
  repeat (first | exact endA | refine wkG ?_ | refine opB (fun b => ?_) | refine opA (fun a' c' hc1 hc2 => ?_) | (show GJ _ _ _ _ _ _ _; first | (apply GJ.and; exact rfl; intro hg) | (apply GJ.or; exact rfl; intro hg) | refine GJ.t omAuto ?_ | refine GJ.f omAuto ?_ | refine GJ.ft omAuto ?_ | refine GJ.ff omAuto ?_))
  refine cloneC_ok hr h1 hn (fun a1 c1 h2 h3 => ?_)
  repeat (first | exact endA | refine wkG ?_ | refine opB (fun b => ?_) | refine opA (fun a' c' hc1 hc2 => ?_) | (show GJ _ _ _ _ _ _ _; first | (apply GJ.and; exact rfl; intro hg) | (apply GJ.or; exact rfl; intro hg) | refine GJ.t omAuto ?_ | refine GJ.f omAuto ?_ | refine GJ.ft omAuto ?_ | refine GJ.ff omAuto ?_))
  refine CallOk.intro (args := [_]) (rs := [_]) T_ok Tryz.func168 Tryz.call168 rfl rfl (by kernel_rfl) rfl rfl ?_
  repeat (first | exact endA | refine wkG ?_ | refine opB (fun b => ?_) | refine opA (fun a' c' hc1 hc2 => ?_) | (show GJ _ _ _ _ _ _ _; first | (apply GJ.and; exact rfl; intro hg) | (apply GJ.or; exact rfl; intro hg) | refine GJ.t omAuto ?_ | refine GJ.f omAuto ?_ | refine GJ.ft omAuto ?_ | refine GJ.ff omAuto ?_))
  refine Wk.id ?_
  repeat (first | exact endA | refine wkG ?_ | refine opB (fun b => ?_) | refine opA (fun a' c' hc1 hc2 => ?_) | (show GJ _ _ _ _ _ _ _; first | (apply GJ.and; exact rfl; intro hg) | (apply GJ.or; exact rfl; intro hg) | refine GJ.t omAuto ?_ | refine GJ.f omAuto ?_ | refine GJ.ft omAuto ?_ | refine GJ.ff omAuto ?_))
  exact Wk.id (hk _ _ h2 h3)
/-- A node's slices as parts of one's own: how much room each has. -/
def nodeC (d : NodeD) (a : NodeA) (k : Nat × Nat × Nat × Nat) : Chs := [.sl a.ka d.kids.length k.1 3 1 (kidsV d.kids), .sl a.la d.last.length k.2.1 4 1 (lastV d.last), .sl a.fa d.fields.length k.2.2.1 56 5 (fieldsV d.fields), .sl a.ca d.cases.length k.2.2.2 113 2 (casesV d.cases)]
/-- Its slices have no room behind. -/
structure ClipA (d : NodeD) (a : NodeA) : Prop where
  kids : a.kc = d.kids.length
  last : a.lc = d.last.length
  fields : a.fc = d.fields.length
  cases : a.cc = d.cases.length
theorem own_ok {d : NodeD} {a : NodeA} (ho : NodeOk ro d a) (hn : d.kids.length ≤ 100000000 ∧ d.last.length ≤ 100000000 ∧ d.fields.length ≤ 100000000 ∧ d.cases.length ≤ 100000000)
    (hk : ∀ a' k, ClipA d a' → K (.agg (nodeV d a').toArray) ro (nodeC d a' k ++ own)) : CallOk Tryz.prog 129 #[.agg (nodeV d a).toArray] ro own K := by
  have hr1 := ho.kids
  have hr2 := ho.last
  have hr3 := ho.fields
  have hr4 := ho.cases
  refine CallOk.intro (args := [_]) (rs := [_]) T_ok Tryz.func129 Tryz.call129 rfl rfl (by kernel_rfl) rfl rfl ?_
  repeat (first | exact endA | refine wkG ?_ | refine opB (fun b => ?_) | refine opA (fun a' c' hc1 hc2 => ?_) | (show GJ _ _ _ _ _ _ _; first | (apply GJ.and; exact rfl; intro hg) | (apply GJ.or; exact rfl; intro hg) | refine GJ.t omAuto ?_ | refine GJ.f omAuto ?_ | refine GJ.ft omAuto ?_ | refine GJ.ff omAuto ?_))
  refine Bs.all ?_
  repeat (first | exact endA | refine wkG ?_ | refine opB (fun b => ?_) | refine opA (fun a' c' hc1 hc2 => ?_) | (show GJ _ _ _ _ _ _ _; first | (apply GJ.and; exact rfl; intro hg) | (apply GJ.or; exact rfl; intro hg) | refine GJ.t omAuto ?_ | refine GJ.f omAuto ?_ | refine GJ.ft omAuto ?_ | refine GJ.ff omAuto ?_))
  refine listI_ok hr1 (kidsV_one _) (by omega) (fun a1 c1 h1 h2 => ?_)
  repeat (first | exact endA | refine wkG ?_ | refine opB (fun b => ?_) | refine opA (fun a' c' hc1 hc2 => ?_) | (show GJ _ _ _ _ _ _ _; first | (apply GJ.and; exact rfl; intro hg) | (apply GJ.or; exact rfl; intro hg) | refine GJ.t omAuto ?_ | refine GJ.f omAuto ?_ | refine GJ.ft omAuto ?_ | refine GJ.ff omAuto ?_))
  refine listB_ok hr2 (lastV_one _) (by omega) (fun a2 c2 h3 h4 => ?_)
  repeat (first | exact endA | refine wkG ?_ | refine opB (fun b => ?_) | refine opA (fun a' c' hc1 hc2 => ?_) | (show GJ _ _ _ _ _ _ _; first | (apply GJ.and; exact rfl; intro hg) | (apply GJ.or; exact rfl; intro hg) | refine GJ.t omAuto ?_ | refine GJ.f omAuto ?_ | refine GJ.ft omAuto ?_ | refine GJ.ff omAuto ?_))
  refine Bs.all ?_
  repeat (first | exact endA | refine wkG ?_ | refine opB (fun b => ?_) | refine opA (fun a' c' hc1 hc2 => ?_) | (show GJ _ _ _ _ _ _ _; first | (apply GJ.and; exact rfl; intro hg) | (apply GJ.or; exact rfl; intro hg) | refine GJ.t omAuto ?_ | refine GJ.f omAuto ?_ | refine GJ.ft omAuto ?_ | refine GJ.ff omAuto ?_))
  refine listF_ok hr3 (fieldsV_one _) (by omega) (fun a3 c3 h5 h6 => ?_)
  repeat (first | exact endA | refine wkG ?_ | refine opB (fun b => ?_) | refine opA (fun a' c' hc1 hc2 => ?_) | (show GJ _ _ _ _ _ _ _; first | (apply GJ.and; exact rfl; intro hg) | (apply GJ.or; exact rfl; intro hg) | refine GJ.t omAuto ?_ | refine GJ.f omAuto ?_ | refine GJ.ft omAuto ?_ | refine GJ.ff omAuto ?_))
  refine listC_ok hr4 (casesV_one _) (by omega) (fun a4 c4 h7 h8 => ?_)
  repeat (first | exact endA | refine wkG ?_ | refine opB (fun b => ?_) | refine opA (fun a' c' hc1 hc2 => ?_) | (show GJ _ _ _ _ _ _ _; first | (apply GJ.and; exact rfl; intro hg) | (apply GJ.or; exact rfl; intro hg) | refine GJ.t omAuto ?_ | refine GJ.f omAuto ?_ | refine GJ.ft omAuto ?_ | refine GJ.ff omAuto ?_))
  exact Wk.outS Sup.auto ((Take.perm (.miss _ (.miss _ (.miss _ (.hit _ _))))).trans ((Take.perm (.miss _ (.miss _ (.hit _ _)))).cons _ |>.trans (((Take.perm (.miss _ (.hit _ _))).cons _).cons _))) (hk ⟨a1, d.kids.length, a2, d.last.length, a3, d.fields.length, a4, d.cases.length⟩ (c1, c2, c3, c4) ⟨rfl, rfl, rfl, rfl⟩)
end
end Go.Proofs.YtefipginoakecaaGreatDoor
end
section
/- Contracts of spec: Clone, a builder. -/
namespace Go.Proofs.YtefipginoakecaaGreatDoor
open Go Go.E
set_option linter.unusedVariables false
set_option maxRecDepth 10000
def nodesC : List NodeD → List NodeA → List (Nat × Nat × Nat × Nat) → Chs
  | d :: ds, a :: xs, k :: ks => nodeC d a k ++ nodesC ds xs ks
  | _, _, _ => []
def NodesClip (ds : List NodeD) (xs : List NodeA) : Prop := ∀ (i : Nat) (d : NodeD) (x : NodeA), ds[i]? = some d → xs[i]? = some x → ClipA d x
theorem NodesClip.snoc {ds : List NodeD} {xs : List NodeA} {d : NodeD} {x : NodeA} (h : NodesClip ds xs) (hl : xs.length = ds.length) (hx : ClipA d x) : NodesClip (ds ++ [d]) (xs ++ [x]) := fun i d' x' h1 h2 => by
  rcases Nat.lt_or_ge i ds.length with hi | hi
  · rw [List.getElem?_append_left hi] at h1
    rw [List.getElem?_append_left (by omega)] at h2
    exact h i d' x' h1 h2
  · rw [List.getElem?_append_right hi] at h1
    rw [List.getElem?_append_right (by omega)] at h2
    have h3 : i - ds.length = 0 := by have := (List.getElem?_eq_some_iff.1 h1).1; simp at this; omega
    rw [h3] at h1
    rw [hl, h3] at h2
    simp at h1 h2
    subst h1; subst h2; exact hx
def specC (s : SpecD) (a : SpecA) (ks : List (Nat × Nat × Nat × Nat)) : Chs :=
  .sl a.na s.nodes.length a.nc 41 18 (nodesV s.nodes a.xs) :: .sl a.da s.defs.length a.dc 46 2 (defsV s.defs) :: nodesC s.nodes a.xs ks
theorem nodesC_snoc {d : NodeD} {x : NodeA} {k : Nat × Nat × Nat × Nat} (ds : List NodeD) : ∀ (xs : List NodeA) (ks : List (Nat × Nat × Nat × Nat)), xs.length = ds.length → ks.length = ds.length → nodesC (ds ++ [d]) (xs ++ [x]) (ks ++ [k]) = nodesC ds xs ks ++ nodeC d x k := by
  induction ds with
  | nil =>
    intro xs ks h1 h2
    obtain rfl := List.eq_nil_of_length_eq_zero h1
    obtain rfl := List.eq_nil_of_length_eq_zero h2
    show nodeC d x k ++ [] = [] ++ nodeC d x k
    rw [List.append_nil, List.nil_append]
  | cons d0 ds ih =>
    intro xs ks h1 h2
    cases xs with
    | nil => simp at h1
    | cons x0 xs =>
      cases ks with
      | nil => simp at h2
      | cons k0 ks =>
        show nodeC d0 x0 k0 ++ nodesC (ds ++ [d]) (xs ++ [x]) (ks ++ [k]) = nodeC d0 x0 k0 ++ nodesC ds xs ks ++ nodeC d x k
        rw [ih xs ks (by simpa using h1) (by simpa using h2), List.append_assoc]
theorem nodesV_snoc {d : NodeD} {x : NodeA} (ds : List NodeD) : ∀ (xs : List NodeA), xs.length = ds.length → nodesV (ds ++ [d]) (xs ++ [x]) = nodesV ds xs ++ nodeV d x := by
  induction ds with
  | nil =>
    intro xs h1
    obtain rfl := List.eq_nil_of_length_eq_zero h1
    show nodeV d x ++ [] = [] ++ nodeV d x
    rw [List.append_nil, List.nil_append]
  | cons d0 ds ih =>
    intro xs h1
    cases xs with
    | nil => simp at h1
    | cons x0 xs =>
      show nodeV d0 x0 ++ nodesV (ds ++ [d]) (xs ++ [x]) = nodeV d0 x0 ++ nodesV ds xs ++ nodeV d x
      rw [ih xs (by simpa using h1), List.append_assoc]
/-- So many that nothing is too great. -/
structure NodeSm (d : NodeD) : Prop where
  kids : d.kids.length ≤ 100000000
  last : d.last.length ≤ 100000000
  fields : d.fields.length ≤ 100000000
  cases : d.cases.length ≤ 100000000
section
variable {ro : Ro} {own r : Chs} {K : Value → Ro → Chs → Prop} {g : Chunk → Chs}
set_option maxHeartbeats 1000000 in
theorem sclone_ok {s : SpecD} {a : SpecA} (ho : SpecOk ro s a) (hn : s.nodes.length ≤ 100000 ∧ s.defs.length ≤ 100000) (hs : ∀ d ∈ s.nodes, NodeSm d)
    (hk : ∀ a' ks, a'.xs.length = s.nodes.length → ks.length = s.nodes.length → NodesClip s.nodes a'.xs → a'.nc ≤ maxLen → a'.dc ≤ maxLen → K (.agg (specV s a').toArray) ro (specC s a' ks ++ own)) : CallOk Tryz.prog 104 #[.agg (specV s a).toArray] ro own K := by
  have hr1 := ho.nodes
  have hr2 := ho.defs
  have hlen := ho.len
  refine CallOk.intro (args := [_]) (rs := [_]) T_ok Tryz.func104 Tryz.call104 rfl rfl (by kernel_rfl) rfl rfl ?_
  repeat (first | exact endA | refine wkG ?_ | refine opB (fun b => ?_) | refine opA (fun a' c' hc1 hc2 => ?_) | (show GJ _ _ _ _ _ _ _; first | (apply GJ.and; exact rfl; intro hg) | (apply GJ.or; exact rfl; intro hg) | refine GJ.t omAuto ?_ | refine GJ.f omAuto ?_ | refine GJ.ft omAuto ?_ | refine GJ.ff omAuto ?_))
  refine cloneD_ok hr2 (defsV_one _) (by omega) (fun da dc h1 h2 => ?_)
  repeat (first | exact endA | refine wkG ?_ | refine opB (fun b => ?_) | refine opA (fun a' c' hc1 hc2 => ?_) | (show GJ _ _ _ _ _ _ _; first | (apply GJ.and; exact rfl; intro hg) | (apply GJ.or; exact rfl; intro hg) | refine GJ.t omAuto ?_ | refine GJ.f omAuto ?_ | refine GJ.ft omAuto ?_ | refine GJ.ff omAuto ?_))
  rename_i b0 b1
  refine LoopOk.at (ι := Nat × List NodeA × List (Nat × Nat × Nat × Nat) × Option Addr × Nat × Nat × List Value × Chs) Keep.auto (fun (i, xs, ks, na, n1, nc, cs, cl) => [(13, .int .i64 (i : Int))]) (fun (i, xs, ks, na, n1, nc, cs, cl) => .blk b 25 [.slice na n1 nc, .slice da s.defs.length dc] :: .sl na n1 nc 41 18 cs :: .sl da s.defs.length dc 46 2 (defsV s.defs) :: .blk b1 25 [.slice none 0 0, .slice none 0 0] :: .blk b0 25 (specV s a) :: (cl ++ own)) (fun (i, xs, ks, na, n1, nc, cs, cl) => i ≤ s.nodes.length ∧ n1 = i ∧ xs.length = i ∧ ks.length = i ∧ n1 ≤ nc ∧ nc ≤ maxLen ∧ cs = nodesV (s.nodes.take i) xs ∧ cl.Perm (nodesC (s.nodes.take i) xs ks) ∧ NodesClip (s.nodes.take i) xs) (fun (i, xs, ks, na, n1, nc, cs, cl) => s.nodes.length - i) (0, [], [], none, 0, 0, [], []) ?_ Sub.auto Sup.auto ?_
  · exact ⟨by omega, rfl, rfl, rfl, by omega, by omega, by simp [nodesV], by simp [nodesC], fun i d x h => by simp at h⟩
  rintro ⟨i, xs, ks, na, n1, nc, cs, cl⟩ ⟨i1, rfl, i3, i4, i5, i6, rfl, i8, i9⟩
  dsimp only [List.cons_append, List.nil_append] at i1 i3 i4 i5 i6 i8 i9 ⊢
  repeat (first | exact endA | refine wkG ?_ | refine opB (fun b => ?_) | refine opA (fun a' c' hc1 hc2 => ?_) | (show GJ _ _ _ _ _ _ _; first | (apply GJ.and; exact rfl; intro hg) | (apply GJ.or; exact rfl; intro hg) | refine GJ.t omAuto ?_ | refine GJ.f omAuto ?_ | refine GJ.ft omAuto ?_ | refine GJ.ff omAuto ?_))
  refine Br.cases (fun hd => ?_) (fun hd => ?_)
  · obtain ⟨d, hd1⟩ : ∃ d, s.nodes[n1]? = some d := ⟨_, List.getElem?_eq_getElem (by omega)⟩
    obtain ⟨x, hx1⟩ : ∃ x, a.xs[n1]? = some x := ⟨_, List.getElem?_eq_getElem (by omega)⟩
    have hno := ho.each _ d x hd1 hx1
    have hdrop := nodesV_drop _ _ _ _ _ hd1 hx1
    have hsm := hs d (List.mem_of_getElem? hd1)
    have htk : s.nodes.take (n1 + 1) = s.nodes.take n1 ++ [d] := by rw [List.take_add_one, hd1]; rfl
    have hsm1 := hsm.kids
    have hsm2 := hsm.last
    have hsm3 := hsm.fields
    have hsm4 := hsm.cases
    repeat (first | exact endA | refine wkG ?_ | refine opB (fun b => ?_) | refine opA (fun a' c' hc1 hc2 => ?_) | (show GJ _ _ _ _ _ _ _; first | (apply GJ.and; exact rfl; intro hg) | (apply GJ.or; exact rfl; intro hg) | refine GJ.t omAuto ?_ | refine GJ.f omAuto ?_ | refine GJ.ft omAuto ?_ | refine GJ.ff omAuto ?_))
    rw [Int.toNat_natCast]
    refine OpOk.loadRow rfl rfl (LdN.at hr1 hdrop) rfl ?_
    repeat (first | exact endA | refine wkG ?_ | refine opB (fun b => ?_) | refine opA (fun a' c' hc1 hc2 => ?_) | (show GJ _ _ _ _ _ _ _; first | (apply GJ.and; exact rfl; intro hg) | (apply GJ.or; exact rfl; intro hg) | refine GJ.t omAuto ?_ | refine GJ.f omAuto ?_ | refine GJ.ft omAuto ?_ | refine GJ.ff omAuto ?_))
    refine Bs.all ?_
    repeat (first | exact endA | refine wkG ?_ | refine opB (fun b => ?_) | refine opA (fun a' c' hc1 hc2 => ?_) | (show GJ _ _ _ _ _ _ _; first | (apply GJ.and; exact rfl; intro hg) | (apply GJ.or; exact rfl; intro hg) | refine GJ.t omAuto ?_ | refine GJ.f omAuto ?_ | refine GJ.ft omAuto ?_ | refine GJ.ff omAuto ?_))
    refine own_ok hno ⟨hsm1, hsm2, hsm3, hsm4⟩ (fun x' k hcl => ?_)
    dsimp only [nodeC, List.cons_append, List.nil_append]
    repeat (first | exact endA | refine wkG ?_ | refine opB (fun b => ?_) | refine opA (fun a' c' hc1 hc2 => ?_) | (show GJ _ _ _ _ _ _ _; first | (apply GJ.and; exact rfl; intro hg) | (apply GJ.or; exact rfl; intro hg) | refine GJ.t omAuto ?_ | refine GJ.f omAuto ?_ | refine GJ.ft omAuto ?_ | refine GJ.ff omAuto ?_))
    refine Wk.id ⟨(n1 + 1, xs ++ [x'], ks ++ [k], _, _, _, _, nodeC d x' k ++ cl), ⟨rfl, ?_⟩, ?_, Sub.auto, Sup.auto⟩
    all_goals try dsimp only
    · refine ⟨by omega, rfl, by simp [i3], by simp [i4], by omega, by omega, ?_, ?_, ?_⟩
      · rw [htk, nodesV_snoc _ _ (by simp; omega)]; rfl
      · rw [htk, nodesC_snoc _ _ _ (by simp; omega) (by simp; omega)]
        exact ((i8.append_left _).trans List.perm_append_comm)
      · rw [htk]; exact i9.snoc (by simp; omega) hcl
    · omega
  · obtain rfl : n1 = s.nodes.length := by omega
    rw [List.take_length] at i8 i9 ⊢
    repeat (first | exact endA | refine wkG ?_ | refine opB (fun b => ?_) | refine opA (fun a' c' hc1 hc2 => ?_) | (show GJ _ _ _ _ _ _ _; first | (apply GJ.and; exact rfl; intro hg) | (apply GJ.or; exact rfl; intro hg) | refine GJ.t omAuto ?_ | refine GJ.f omAuto ?_ | refine GJ.ft omAuto ?_ | refine GJ.ff omAuto ?_))
    refine Wk.outS (own1 := .sl na s.nodes.length nc 41 18 (nodesV s.nodes xs) :: .sl da s.defs.length dc 46 2 (defsV s.defs) :: (cl ++ own)) Sup.auto ?_ (hk ⟨na, nc, da, dc, xs⟩ ks i3 i4 i9 i6 h2)
    exact ((i8.append_right own).cons _).cons _
end
end Go.Proofs.YtefipginoakecaaGreatDoor
end
section
/- Contracts of spec: what is made, and lasts; a builder. -/
namespace Go.Proofs.YtefipginoakecaaGreatDoor
open Go Go.E
set_option linter.unusedVariables false
set_option maxRecDepth 10000
theorem NodeOk.made {ro : Ro} {d : NodeD} {a : NodeA} {k : Nat × Nat × Nat × Nat} (hc : ClipA d a) (h : ∀ c ∈ nodeC d a k, c.holds ro) : NodeOk ro d a := by
  have h1 := Rs.last (h (.sl a.ka d.kids.length k.1 3 1 (kidsV d.kids)) (by simp [nodeC]))
  have h2 := Rs.last (h (.sl a.la d.last.length k.2.1 4 1 (lastV d.last)) (by simp [nodeC]))
  have h3 := Rs.last (h (.sl a.fa d.fields.length k.2.2.1 56 5 (fieldsV d.fields)) (by simp [nodeC]))
  have h4 := Rs.last (h (.sl a.ca d.cases.length k.2.2.2 113 2 (casesV d.cases)) (by simp [nodeC]))
  exact ⟨hc.kids ▸ h1.clip, hc.last ▸ h2.clip, hc.fields ▸ h3.clip, hc.cases ▸ h4.clip⟩
theorem NodeOk.le {ro ro' : Ro} {d : NodeD} {a : NodeA} (h : NodeOk ro d a) (hl : Le ro ro') : NodeOk ro' d a := ⟨h.kids.up, h.last.up, h.fields.up, h.cases.up⟩
theorem nodesC_mem : ∀ (ds : List NodeD) (xs : List NodeA) (ks : List (Nat × Nat × Nat × Nat)) (i : Nat) (d : NodeD) (x : NodeA), ks.length = ds.length → ds[i]? = some d → xs[i]? = some x → ∃ k, ∀ c ∈ nodeC d x k, c ∈ nodesC ds xs ks := by
  intro ds
  induction ds with
  | nil => intro xs ks i d x _ h; simp at h
  | cons d0 ds ih =>
    intro xs ks i d x hl h1 h2
    cases xs with
    | nil => simp at h2
    | cons x0 xs =>
      cases ks with
      | nil => simp at hl
      | cons k0 ks =>
        cases i with
        | zero =>
          simp at h1 h2; subst h1; subst h2
          exact ⟨k0, fun c hc => List.mem_append.2 (.inl hc)⟩
        | succ i =>
          obtain ⟨k, hk⟩ := ih xs ks i d x (by simpa using hl) (by simpa using h1) (by simpa using h2)
          exact ⟨k, fun c hc => List.mem_append.2 (.inr (hk c hc))⟩
theorem SpecOk.made {ro : Ro} {s : SpecD} {a : SpecA} {ks : List (Nat × Nat × Nat × Nat)} (h1 : a.xs.length = s.nodes.length) (h2 : ks.length = s.nodes.length) (hc : NodesClip s.nodes a.xs) (h : ∀ c ∈ specC s a ks, c.holds ro) : SpecOk ro s a :=
  ⟨h1, Rs.last (h (.sl a.na s.nodes.length a.nc 41 18 (nodesV s.nodes a.xs)) (by simp [specC])), fun i d x g1 g2 => by
    obtain ⟨k, hk⟩ := nodesC_mem _ _ _ i d x h2 g1 g2
    exact NodeOk.made (k := k) (hc i d x g1 g2) (fun c hc => h c (by simp [specC, hk c hc])), Rs.last (h (.sl a.da s.defs.length a.dc 46 2 (defsV s.defs)) (by simp [specC]))⟩
section
variable {ro : Ro} {own r : Chs} {K : Value → Ro → Chs → Prop} {g : Chunk → Chs}
theorem own_last {d : NodeD} {a : NodeA} (ho : NodeOk ro d a) (hs : NodeSm d) (hk : ∀ ro' a', Le ro ro' → NodeOk ro' d a' → K (.agg (nodeV d a').toArray) ro' own) : CallOk Tryz.prog 129 #[.agg (nodeV d a).toArray] ro own K :=
  CallOk.lastly (Q := fun v l => ∃ a' k, ClipA d a' ∧ v = .agg (nodeV d a').toArray ∧ l = nodeC d a' k) (own_ok ho ⟨hs.kids, hs.last, hs.fields, hs.cases⟩ (fun a' k hc => ⟨rfl, _, rfl, a', k, hc, rfl, rfl⟩)) (fun ro' v l hl hh ⟨a', k, hc, hv, he⟩ => by
    subst hv; subst he
    exact hk ro' a' hl (NodeOk.made hc hh))
theorem sclone_last {s : SpecD} {a : SpecA} (ho : SpecOk ro s a) (hn : s.nodes.length ≤ 100000 ∧ s.defs.length ≤ 100000) (hs : ∀ d ∈ s.nodes, NodeSm d) (hk : ∀ ro' a', Le ro ro' → SpecOk ro' s a' → K (.agg (specV s a').toArray) ro' own) :
    CallOk Tryz.prog 104 #[.agg (specV s a).toArray] ro own K :=
  CallOk.lastly (Q := fun v l => ∃ a' ks, a'.xs.length = s.nodes.length ∧ ks.length = s.nodes.length ∧ NodesClip s.nodes a'.xs ∧ v = .agg (specV s a').toArray ∧ l = specC s a' ks) (sclone_ok ho hn hs (fun a' ks h1 h2 h3 _ _ => ⟨rfl, _, rfl, a', ks, h1, h2, h3, rfl, rfl⟩)) (fun ro' v l hl hh ⟨a', ks, h1, h2, h3, hv, he⟩ => by
    subst hv; subst he
    exact hk ro' a' hl (SpecOk.made h1 h2 h3 hh))
/-- A builder's parts, what it has put together. -/
structure BuildOk (ro : Ro) (s : SpecD) (a : SpecA) : Prop where
  len : a.xs.length = s.nodes.length
  each : ∀ (i : Nat) (d : NodeD) (x : NodeA), s.nodes[i]? = some d → a.xs[i]? = some x → NodeOk ro d x
  nc : s.nodes.length ≤ a.nc ∧ a.nc ≤ maxLen
  dc : s.defs.length ≤ a.dc ∧ a.dc ≤ maxLen
end
end Go.Proofs.YtefipginoakecaaGreatDoor
end
section
/- The reader of specifications in memory: its parts, and its first steps. -/
namespace Go.Proofs.YtefipginoakecaaGreatDoor
open Go Go.E
set_option linter.unusedVariables false
set_option linter.unusedSectionVars false
set_option linter.unusedSimpArgs false
set_option maxRecDepth 10000
def fatV (l : List TokD) (s : PS) : Nat := if s.code = 0 then 0 else (l[s.fat]?.getD endT).a
def readV (la : Option Addr) (lc : Nat) (l : List TokD) (s : PS) (a : SpecA) : List Value := [.slice la l.length lc, .int .i64 (s.at' : Int), .slice a.na s.nodes.length a.nc, .slice a.da s.defs.length a.dc, .int .i64 (s.code : Int), .int .i64 (fatV l s : Int)]
/-- Tokens that last, the last one of which, and no other one, is the end. -/
structure ToksOk (ro : Ro) (la : Option Addr) (lc : Nat) (l : List TokD) : Prop where
  rs : Rs ro la l.length lc 3 (toksV l)
  pos : 0 < l.length
  last : ∀ (i : Nat) (t : TokD), l[i]? = some t → (t.kind = 5 ↔ i + 1 = l.length)
  le : l.length ≤ 8193
  text : ∀ t ∈ l, t.text.length ≤ 65536
theorem ToksOk.up {ro ro' : Ro} {la : Option Addr} {lc : Nat} {l : List TokD} (h : ToksOk ro la lc l) (hl : Le ro ro') : ToksOk ro' la lc l := ⟨Rs.up h.rs, h.pos, h.last, h.le, h.text⟩
/-- Where the reader stands. -/
structure RdOk (ro : Ro) (l : List TokD) (s : PS) (a : SpecA) : Prop where
  at' : s.at' < l.length
  fat : s.fat < l.length
  code : s.code ≤ 1000
  build : BuildOk ro ⟨s.nodes, s.defs⟩ a
  sm : ∀ d ∈ s.nodes, NodeSm d
  nn : s.nodes.length ≤ 2048
  nd : s.defs.length ≤ 64
theorem Nf.self : ∀ l : List Value, Nf l l
  | [] => Nf.nil
  | x :: l => Nf.cons x (Nf.self l)
section
variable {ro ro' : Ro} {l : List TokD} {s : PS} {a : SpecA} {la : Option Addr} {lc : Nat}
theorem RdOk.up (h : RdOk ro l s a) (hl : Le ro ro') : RdOk ro' l s a := ⟨h.at', h.fat, h.code, ⟨h.build.len, fun i d x h1 h2 => (h.build.each i d x h1 h2).le hl, h.build.nc, h.build.dc⟩, h.sm, h.nn, h.nd⟩
theorem RdOk.wrong (h : RdOk ro l s a) (e : Nat) (he : e ≤ 1000) : RdOk ro l (wrongP e s) a := by
  unfold wrongP
  split
  · exact ⟨h.at', h.at', he, h.build, h.sm, h.nn, h.nd⟩
  · exact h
theorem peekT_at (ht : ToksOk ro la lc l) (h : RdOk ro l s a) : ∃ i, (if s.code = 0 then s.at' else l.length - 1) = i ∧ l[i]? = some (peekP (listE l) s) := by
  unfold peekP listE
  by_cases hc : s.code = 0
  · rw [if_pos hc, if_pos hc]
    refine ⟨_, rfl, ?_⟩
    dsimp only
    rw [List.getElem?_eq_getElem h.at']; rfl
  · rw [if_neg hc, if_neg hc]
    refine ⟨_, rfl, ?_⟩
    dsimp only
    have hp := ht.pos
    rw [List.getLast?_eq_getElem?, List.getElem?_eq_getElem (by omega)]; rfl
theorem peekT_mem (ht : ToksOk ro la lc l) (h : RdOk ro l s a) : peekP (listE l) s ∈ l := by
  obtain ⟨i, _, hi⟩ := peekT_at ht h
  exact List.mem_of_getElem? hi
/-- What isn't the end may be stepped over. -/
theorem RdOk.step (ht : ToksOk ro la lc l) (h : RdOk ro l s a) (hk : (peekP (listE l) s).kind ≠ 5) : RdOk ro l (stepP s) a := by
  obtain ⟨i, e, hi⟩ := peekT_at ht h
  have hl := (List.getElem?_eq_some_iff.1 hi).1
  have h5 := mt (ht.last i _ hi).2 hk
  refine ⟨?_, h.fat, h.code, h.build, h.sm, h.nn, h.nd⟩
  show s.at' + 1 < l.length
  have := h.at'
  split at e <;> omega
end
section
variable {ro : Ro} {own q : Chs} {K : Value → Ro → Chs → Prop} {l : List TokD} {s : PS} {a : SpecA} {la : Option Addr} {lc r : Nat}
abbrev rdC (r : Nat) (la : Option Addr) (lc : Nat) (l : List TokD) (s : PS) (a : SpecA) : Chunk := .blk r 125 (readV la lc l s a)
theorem rok_ok (h : RdOk ro l s a) (ht : Take own (rdC r la lc l s a) q) (hk : K (.bool (decide (s.code = 0))) ro (rdC r la lc l s a :: q)) : CallOk Tryz.prog 74 #[ptr' r] ro own K := by
  refine CallOk.perm ht.perm ?_
  have e : decide ((s.code : Int) = 0) = decide (s.code = 0) := decide_eq_decide.2 (by omega)
  refine CallOk.intro (args := [_]) (rs := [_]) T_ok Tryz.func74 Tryz.call74 rfl rfl (by kernel_rfl) rfl rfl ?_
  repeat (first | exact endA | refine wkP ?_ | refine opB (fun b => ?_) | refine opA (fun a' c' hc1 hc2 => ?_) | (apply GJ.and; exact rfl; intro hg) | (apply GJ.or; exact rfl; intro hg))
  rw [e]
  exact Wk.id hk
theorem rpeek_ok (hT : ToksOk ro la lc l) (h : RdOk ro l s a) (ht : Take own (rdC r la lc l s a) q) (hk : K (.agg (peekP (listE l) s).v.toArray) ro (rdC r la lc l s a :: q)) : CallOk Tryz.prog 75 #[ptr' r] ro own K := by
  refine CallOk.perm ht.perm ?_
  have hr := hT.rs
  have hle := hr.le
  have hmx := hr.max
  unfold maxLen at hmx
  have hp := hT.pos
  have hat := h.at'
  have hl2 := hT.le
  obtain ⟨i, hi, hti⟩ := peekT_at hT h
  generalize peekP (listE l) s = t at *
  have hdr := toksV_drop l i t hti
  obtain ⟨tk, ta, tt⟩ := t
  dsimp only [TokD.v] at hdr hk ⊢
  refine CallOk.intro (args := [_]) (rs := [_]) T_ok Tryz.func75 Tryz.call75 rfl rfl (by kernel_rfl) rfl rfl ?_
  repeat (first | exact endA | refine wkP ?_ | refine opB (fun b => ?_) | refine opA (fun a' c' hc1 hc2 => ?_) | (apply GJ.and; exact rfl; intro hg) | (apply GJ.or; exact rfl; intro hg))
  refine rok_ok h Take.auto ?_
  by_cases hc : s.code = 0
  · rw [if_pos hc] at hi
    subst hi
    repeat (first | exact endA | refine wkP ?_ | refine opB (fun b => ?_) | refine opA (fun a' c' hc1 hc2 => ?_) | (apply GJ.and; exact rfl; intro hg) | (apply GJ.or; exact rfl; intro hg))
    refine QOk.loadRow rfl rfl (LdN.atR (own := q) (Rs.rds (own := q) (ro' := ro) hr) hdr (by rw [Int.toNat_natCast])) rfl ?_
    repeat (first | exact endA | refine wkP ?_ | refine opB (fun b => ?_) | refine opA (fun a' c' hc1 hc2 => ?_) | (apply GJ.and; exact rfl; intro hg) | (apply GJ.or; exact rfl; intro hg))
    exact Wk.outS Sup.auto (.refl _) hk
  · rw [if_neg hc] at hi
    subst hi
    repeat (first | exact endA | refine wkP ?_ | refine opB (fun b => ?_) | refine opA (fun a' c' hc1 hc2 => ?_) | (apply GJ.and; exact rfl; intro hg) | (apply GJ.or; exact rfl; intro hg))
    refine QOk.loadRow rfl rfl (LdN.atR (own := q) (Rs.rds (own := q) (ro' := ro) hr) hdr (by rw [show ((l.length : Int) - 1).toNat = l.length - 1 by omega])) rfl ?_
    repeat (first | exact endA | refine wkP ?_ | refine opB (fun b => ?_) | refine opA (fun a' c' hc1 hc2 => ?_) | (apply GJ.and; exact rfl; intro hg) | (apply GJ.or; exact rfl; intro hg))
    exact Wk.outS Sup.auto (.refl _) hk
theorem rwrong_ok {e : Nat} (he : e ≠ 0) (hT : ToksOk ro la lc l) (h : RdOk ro l s a) (ht : Take own (rdC r la lc l s a) q) (hk : K (.tuple #[]) ro (rdC r la lc l (wrongP e s) a :: q)) : CallOk Tryz.prog 103 #[ptr' r, .int .i64 (e : Int)] ro own K := by
  refine CallOk.perm ht.perm ?_
  refine CallOk.intro (args := [_, _]) (rs := []) T_ok Tryz.func103 Tryz.call103 rfl rfl (by kernel_rfl) rfl rfl ?_
  by_cases hc : s.code = 0
  · have hw : readV la lc l (wrongP e s) a = [.slice la l.length lc, .int .i64 (s.at' : Int), .slice a.na s.nodes.length a.nc, .slice a.da s.defs.length a.dc, .int .i64 (e : Int), .int .i64 ((peekP (listE l) s).a : Int)] := by
      unfold wrongP peekP listE readV fatV
      rw [if_pos hc, if_pos hc]
      dsimp only
      rw [if_neg he]
    unfold rdC at hk
    rw [hw] at hk
    repeat (first | exact endA | refine wkP ?_ | refine opB (fun b => ?_) | refine opA (fun a' c' hc1 hc2 => ?_) | (apply GJ.and; exact rfl; intro hg) | (apply GJ.or; exact rfl; intro hg))
    refine rpeek_ok hT h Take.auto ?_
    generalize peekP (listE l) s = z at *
    obtain ⟨tk, ta, tt⟩ := z
    dsimp only [TokD.v] at hk ⊢
    unfold rdC readV
    repeat (first | exact endA | refine wkP ?_ | refine opB (fun b => ?_) | refine opA (fun a' c' hc1 hc2 => ?_) | (apply GJ.and; exact rfl; intro hg) | (apply GJ.or; exact rfl; intro hg))
    refine OpOk.storePart (o := 0 + 4) (vs := [.int .i64 (e : Int), .int .i64 (ta : Int)]) rfl rfl rfl rfl rfl (by show 0 + 4 + 2 ≤ 6; decide) (cs' := [.slice la l.length lc, .int .i64 (s.at' : Int), .slice a.na s.nodes.length a.nc, .slice a.da s.defs.length a.dc, .int .i64 (e : Int), .int .i64 (ta : Int)]) (Nf.self _) ?_
    repeat (first | exact endA | refine wkP ?_ | refine opB (fun b => ?_) | refine opA (fun a' c' hc1 hc2 => ?_) | (apply GJ.and; exact rfl; intro hg) | (apply GJ.or; exact rfl; intro hg))
    exact Wk.outS Sup.auto (.refl _) hk
  · have hw : wrongP e s = s := by unfold wrongP; rw [if_neg hc]
    rw [hw] at hk
    repeat (first | exact endA | refine wkP ?_ | refine opB (fun b => ?_) | refine opA (fun a' c' hc1 hc2 => ?_) | (apply GJ.and; exact rfl; intro hg) | (apply GJ.or; exact rfl; intro hg))
    exact Wk.outS Sup.auto (.refl _) hk
theorem ris_ok {k : Nat} {t : List UInt8} (hT : ToksOk ro la lc l) (h : RdOk ro l s a) (ht : Take own (rdC r la lc l s a) q) (hk : K (.bool (isP (listE l) k t s)) ro (rdC r la lc l s a :: q)) : CallOk Tryz.prog 124 #[ptr' r, .int .i64 (k : Int), str t] ro own K := by
  refine CallOk.perm ht.perm ?_
  refine CallOk.intro (args := [_, _, _]) (rs := [_]) T_ok Tryz.func124 Tryz.call124 rfl rfl (by kernel_rfl) rfl rfl ?_
  repeat (first | exact endA | refine wkP ?_ | refine opB (fun b => ?_) | refine opA (fun a' c' hc1 hc2 => ?_) | (apply GJ.and; exact rfl; intro hg) | (apply GJ.or; exact rfl; intro hg))
  refine rpeek_ok hT h Take.auto ?_
  unfold isP at hk
  generalize peekP (listE l) s = z at *
  obtain ⟨tk, ta, tt⟩ := z
  dsimp only [TokD.v] at hk ⊢
  rw [← show decide ((tk : Int) = (k : Int)) = decide (tk = k) from decide_eq_decide.2 (by omega)] at hk
  repeat (first | exact endA | refine wkP ?_ | refine opB (fun b => ?_) | refine opA (fun a' c' hc1 hc2 => ?_) | (apply GJ.and; exact rfl; intro hg) | (apply GJ.or; exact rfl; intro hg))
  exact Wk.outS Sup.auto (.refl _) hk
theorem stepC {r : Nat} : rdC r la lc l (stepP s) a = .blk r 125 [.slice la l.length lc, .int .i64 ((s.at' : Int) + 1), .slice a.na s.nodes.length a.nc, .slice a.da s.defs.length a.dc, .int .i64 (s.code : Int), .int .i64 (fatV l s : Int)] := rfl
theorem reat_ok {k : Nat} {t : List UInt8} (hk5 : k ≠ 5) (hT : ToksOk ro la lc l) (h : RdOk ro l s a) (ht : Take own (rdC r la lc l s a) q) (hk : RdOk ro l (eatP (listE l) k t s).2 a → K (.bool (eatP (listE l) k t s).1) ro (rdC r la lc l (eatP (listE l) k t s).2 a :: q)) : CallOk Tryz.prog 142 #[ptr' r, .int .i64 (k : Int), str t] ro own K := by
  refine CallOk.perm ht.perm ?_
  refine CallOk.intro (args := [_, _, _]) (rs := [_]) T_ok Tryz.func142 Tryz.call142 rfl rfl (by kernel_rfl) rfl rfl ?_
  repeat (first | exact endA | refine wkP ?_ | refine opB (fun b => ?_) | refine opA (fun a' c' hc1 hc2 => ?_) | (apply GJ.and; exact rfl; intro hg) | (apply GJ.or; exact rfl; intro hg))
  refine ris_ok hT h Take.auto ?_
  unfold eatP at hk
  have hstep := h.step hT
  have hi : isP (listE l) k t s = true → (peekP (listE l) s).kind = k := fun hi => by
    unfold isP at hi
    rw [Bool.and_eq_true, decide_eq_true_eq] at hi
    exact hi.1
  cases hc : isP (listE l) k t s with
  | false =>
    rw [hc, if_neg (by decide)] at hk
    repeat (first | exact endA | refine wkP ?_ | refine opB (fun b => ?_) | refine opA (fun a' c' hc1 hc2 => ?_) | (apply GJ.and; exact rfl; intro hg) | (apply GJ.or; exact rfl; intro hg))
    exact Wk.outS Sup.auto (.refl _) (hk h)
  | true =>
    rw [hc, if_pos rfl] at hk
    have hk := hk (hstep (by rw [hi hc]; exact hk5))
    dsimp only at hk
    rw [stepC] at hk
    have hat := h.at'
    have hl2 := hT.le
    unfold rdC readV
    repeat (first | exact endA | refine wkP ?_ | refine opB (fun b => ?_) | refine opA (fun a' c' hc1 hc2 => ?_) | (apply GJ.and; exact rfl; intro hg) | (apply GJ.or; exact rfl; intro hg))
    exact Wk.outS Sup.auto (.refl _) hk
theorem rsign_ok {t : List UInt8} (hT : ToksOk ro la lc l) (h : RdOk ro l s a) (ht : Take own (rdC r la lc l s a) q) (hk : RdOk ro l (signP (listE l) t s).2 a → K (.bool (signP (listE l) t s).1) ro (rdC r la lc l (signP (listE l) t s).2 a :: q)) : CallOk Tryz.prog 122 #[ptr' r, str t] ro own K := by
  refine CallOk.perm ht.perm ?_
  refine CallOk.intro (args := [_, _]) (rs := [_]) T_ok Tryz.func122 Tryz.call122 rfl rfl (by kernel_rfl) rfl rfl ?_
  repeat (first | exact endA | refine wkP ?_ | refine opB (fun b => ?_) | refine opA (fun a' c' hc1 hc2 => ?_) | (apply GJ.and; exact rfl; intro hg) | (apply GJ.or; exact rfl; intro hg))
  refine reat_ok (k := 4) (by decide) hT h Take.auto (fun h2 => ?_)
  repeat (first | exact endA | refine wkP ?_ | refine opB (fun b => ?_) | refine opA (fun a' c' hc1 hc2 => ?_) | (apply GJ.and; exact rfl; intro hg) | (apply GJ.or; exact rfl; intro hg))
  exact Wk.outS Sup.auto (.refl _) (hk h2)
theorem rword_ok {t : List UInt8} (hT : ToksOk ro la lc l) (h : RdOk ro l s a) (ht : Take own (rdC r la lc l s a) q) (hk : RdOk ro l (kwP (listE l) t s).2 a → K (.bool (kwP (listE l) t s).1) ro (rdC r la lc l (kwP (listE l) t s).2 a :: q)) : CallOk Tryz.prog 146 #[ptr' r, str t] ro own K := by
  refine CallOk.perm ht.perm ?_
  refine CallOk.intro (args := [_, _]) (rs := [_]) T_ok Tryz.func146 Tryz.call146 rfl rfl (by kernel_rfl) rfl rfl ?_
  repeat (first | exact endA | refine wkP ?_ | refine opB (fun b => ?_) | refine opA (fun a' c' hc1 hc2 => ?_) | (apply GJ.and; exact rfl; intro hg) | (apply GJ.or; exact rfl; intro hg))
  refine reat_ok (k := 1) (by decide) hT h Take.auto (fun h2 => ?_)
  repeat (first | exact endA | refine wkP ?_ | refine opB (fun b => ?_) | refine opA (fun a' c' hc1 hc2 => ?_) | (apply GJ.and; exact rfl; intro hg) | (apply GJ.or; exact rfl; intro hg))
  exact Wk.outS Sup.auto (.refl _) (hk h2)
theorem rmust_ok {t : List UInt8} (hT : ToksOk ro la lc l) (h : RdOk ro l s a) (ht : Take own (rdC r la lc l s a) q) (hk : RdOk ro l (mustP (listE l) t s) a → K (.tuple #[]) ro (rdC r la lc l (mustP (listE l) t s) a :: q)) : CallOk Tryz.prog 100 #[ptr' r, str t] ro own K := by
  refine CallOk.perm ht.perm ?_
  refine CallOk.intro (args := [_, _]) (rs := []) T_ok Tryz.func100 Tryz.call100 rfl rfl (by kernel_rfl) rfl rfl ?_
  repeat (first | exact endA | refine wkP ?_ | refine opB (fun b => ?_) | refine opA (fun a' c' hc1 hc2 => ?_) | (apply GJ.and; exact rfl; intro hg) | (apply GJ.or; exact rfl; intro hg))
  refine rsign_ok hT h Take.auto (fun h2 => ?_)
  unfold mustP at hk
  cases hc : (signP (listE l) t s).1 with
  | true =>
    rw [hc, if_pos rfl] at hk
    repeat (first | exact endA | refine wkP ?_ | refine opB (fun b => ?_) | refine opA (fun a' c' hc1 hc2 => ?_) | (apply GJ.and; exact rfl; intro hg) | (apply GJ.or; exact rfl; intro hg))
    exact Wk.outS Sup.auto (.refl _) (hk h2)
  | false =>
    rw [hc, if_neg (by decide)] at hk
    have hs : (signP (listE l) t s).2 = s := by
      unfold signP eatP at hc ⊢
      split at hc
      · cases hc
      · rename_i hn
        rw [if_neg hn]
    rw [hs]
    repeat (first | exact endA | refine wkP ?_ | refine opB (fun b => ?_) | refine opA (fun a' c' hc1 hc2 => ?_) | (apply GJ.and; exact rfl; intro hg) | (apply GJ.or; exact rfl; intro hg))
    refine rwrong_ok (e := 5) (by decide) hT h Take.auto ?_
    repeat (first | exact endA | refine wkP ?_ | refine opB (fun b => ?_) | refine opA (fun a' c' hc1 hc2 => ?_) | (apply GJ.and; exact rfl; intro hg) | (apply GJ.or; exact rfl; intro hg))
    exact Wk.outS Sup.auto (.refl _) (hk (h.wrong 5 (by decide)))
end
end Go.Proofs.YtefipginoakecaaGreatDoor
end
section
/- Contracts of parse: Word, Fixed; strings.Contains and strconv.Itoa off the shelf. -/
namespace Go.Proofs
open Go.Shelf
def Tryz.laysItoa_ren : Go.Shelf.Ren := ⟨fun | 171 => 68 | 243 => 95 | 246 => 114 | 283 => 135 | 284 => 136 | 285 => 137 | 286 => 138 | 129 => 157 | 317 => 156 | 318 => 158 | 319 => 159 | 320 => 160 | 337 => 171 | 338 => 172 | n => n, fun | 3 => 3 | 9 => 9 | 2 => 2 | 4 => 4 | 171 => 191 | 0 => 0 | 53 => 33 | 37 => 104 | 5 => 5 | 173 => 194 | 212 => 210 | 51 => 186 | 20 => 20 | 213 => 211 | 46 => 171 | 232 => 234 | 233 => 235 | n => n, fun | 17 => 2 | 18 => 4 | 19 => 5 | n => n⟩
theorem Tryz.laysItoa : Go.Proofs.Lays.n171 Tryz.prog Tryz.laysItoa_ren := {
  mixed := by kernel_rfl
  f129 := Tryz.func157.trans (congrArg some (by kernel_rfl))
  f171 := Tryz.func68.trans (congrArg some (by kernel_rfl))
  f243 := Tryz.func95.trans (congrArg some (by kernel_rfl))
  f246 := Tryz.func114.trans (congrArg some (by kernel_rfl))
  f283 := Tryz.func135.trans (congrArg some (by kernel_rfl))
  f284 := Tryz.func136.trans (congrArg some (by kernel_rfl))
  f285 := Tryz.func137.trans (congrArg some (by kernel_rfl))
  f286 := Tryz.func138.trans (congrArg some (by kernel_rfl))
  f317 := Tryz.func156.trans (congrArg some (by kernel_rfl))
  f318 := Tryz.func158.trans (congrArg some (by kernel_rfl))
  f319 := Tryz.func159.trans (congrArg some (by kernel_rfl))
  f320 := Tryz.func160.trans (congrArg some (by kernel_rfl))
  f337 := Tryz.func171.trans (congrArg some (by kernel_rfl))
  f338 := Tryz.func172.trans (congrArg some (by kernel_rfl))
  t0 := Tryz.underlying0
  a0 := Tryz.isAgg0
  z0 := Tryz.sizeOf0
  v0 := Tryz.zeroValue0
  t2 := Tryz.underlying2
  a2 := Tryz.isAgg2
  z2 := Tryz.sizeOf2
  v2 := Tryz.zeroValue2
  t3 := Tryz.underlying3
  a3 := Tryz.isAgg3
  z3 := Tryz.sizeOf3
  v3 := Tryz.zeroValue3
  t4 := Tryz.underlying4
  a4 := Tryz.isAgg4
  z4 := Tryz.sizeOf4
  v4 := Tryz.zeroValue4
  t5 := Tryz.underlying5
  a5 := Tryz.isAgg5
  z5 := Tryz.sizeOf5
  v5 := Tryz.zeroValue5
  t9 := Tryz.underlying9
  a9 := Tryz.isAgg9
  z9 := Tryz.sizeOf9
  v9 := Tryz.zeroValue9
  t20 := Tryz.underlying20
  a20 := Tryz.isAgg20
  z20 := Tryz.sizeOf20
  v20 := Tryz.zeroValue20
  t37 := Tryz.underlying104
  a37 := Tryz.isAgg104
  z37 := Tryz.sizeOf104
  v37 := Tryz.zeroValue104
  t46 := Tryz.underlying171
  a46 := Tryz.isAgg171
  z46 := Tryz.sizeOf171
  v46 := Tryz.zeroValue171
  t51 := Tryz.underlying186
  a51 := Tryz.isAgg186
  z51 := Tryz.sizeOf186
  v51 := Tryz.zeroValue186
  t53 := Tryz.underlying33
  a53 := Tryz.isAgg33
  z53 := Tryz.sizeOf33
  v53 := Tryz.zeroValue33
  t171 := Tryz.underlying191
  a171 := Tryz.isAgg191
  z171 := Tryz.sizeOf191
  v171 := Tryz.zeroValue191
  t173 := Tryz.underlying194
  a173 := Tryz.isAgg194
  z173 := Tryz.sizeOf194
  v173 := Tryz.zeroValue194
  t212 := Tryz.underlying210
  a212 := Tryz.isAgg210
  z212 := Tryz.sizeOf210
  v212 := Tryz.zeroValue210
  t213 := Tryz.underlying211
  a213 := Tryz.isAgg211
  z213 := Tryz.sizeOf211
  t232 := Tryz.underlying234
  a232 := Tryz.isAgg234
  z232 := Tryz.sizeOf234
  v232 := Tryz.zeroValue234
  t233 := Tryz.underlying235
  a233 := Tryz.isAgg235
  z233 := Tryz.sizeOf235
  v233 := Tryz.zeroValue235
  g17 := by kernel_rfl
  g18 := by kernel_rfl
  g19 := by kernel_rfl }
end Go.Proofs
namespace Go.Proofs
open Go.Shelf
def Tryz.laysContains_ren : Go.Shelf.Ren := ⟨fun | 143 => 66 | 144 => 28 | 217 => 109 | 219 => 93 | 224 => 111 | 225 => 110 | 266 => 132 | 267 => 112 | 314 => 133 | n => n, fun | 3 => 3 | 4 => 4 | 5 => 5 | 9 => 9 | 46 => 171 | 51 => 186 | 146 => 187 | n => n, fun | 1 => 0 | n => n⟩
theorem Tryz.laysContains : Go.Proofs.Lays.n144 Tryz.prog Tryz.laysContains_ren := {
  mixed := by kernel_rfl
  f143 := Tryz.func66.trans (congrArg some (by kernel_rfl))
  f144 := Tryz.func28.trans (congrArg some (by kernel_rfl))
  f217 := Tryz.func109.trans (congrArg some (by kernel_rfl))
  f219 := Tryz.func93.trans (congrArg some (by kernel_rfl))
  f224 := Tryz.func111.trans (congrArg some (by kernel_rfl))
  f225 := Tryz.func110.trans (congrArg some (by kernel_rfl))
  f266 := Tryz.func132.trans (congrArg some (by kernel_rfl))
  f267 := Tryz.func112.trans (congrArg some (by kernel_rfl))
  f314 := Tryz.func133.trans (congrArg some (by kernel_rfl))
  t3 := Tryz.underlying3
  a3 := Tryz.isAgg3
  z3 := Tryz.sizeOf3
  v3 := Tryz.zeroValue3
  t4 := Tryz.underlying4
  a4 := Tryz.isAgg4
  z4 := Tryz.sizeOf4
  v4 := Tryz.zeroValue4
  t5 := Tryz.underlying5
  a5 := Tryz.isAgg5
  z5 := Tryz.sizeOf5
  v5 := Tryz.zeroValue5
  t9 := Tryz.underlying9
  a9 := Tryz.isAgg9
  z9 := Tryz.sizeOf9
  v9 := Tryz.zeroValue9
  t46 := Tryz.underlying171
  a46 := Tryz.isAgg171
  z46 := Tryz.sizeOf171
  v46 := Tryz.zeroValue171
  t51 := Tryz.underlying186
  a51 := Tryz.isAgg186
  z51 := Tryz.sizeOf186
  v51 := Tryz.zeroValue186
  t146 := Tryz.underlying187
  a146 := Tryz.isAgg187
  z146 := Tryz.sizeOf187
  v146 := Tryz.zeroValue187
  g1 := by kernel_rfl }
end Go.Proofs
namespace Go.E
open Go
/-- A contract off the shelf that reads a cell that lasts. -/
theorem CallOk.ofCell {P : Program} {f : FuncId} {ro : Ro} {own : Chs} {K : Value → Ro → Chs → Prop} {args : Array Value} {v x : Value} {b : Nat} (enter : ∀ args w, (callFunc f args).run P w = .ok (.enter f args) w) (hl : Ld ro own b 0 x)
    (h : ∀ w : World, w.cell? ⟨b, 0, none⟩ = some x → Calls P f args w fun e w' => e = .returned v ∧ w' = w) (hk : K v ro own) : CallOk P f args ro own K :=
  CallOk.body enter fun h0 hs w hw => (h w (by subst hw; rw [cell_eq]; exact hl _ hs)).mono fun e w' ⟨he, hb⟩ => ⟨v, he, by subst hb; exact ⟨rfl, rfl, rfl, rfl⟩, ro, own, Le.refl _, by subst hb; rw [hw]; exact hs, hk⟩
end Go.E
namespace Go.Proofs.YtefipginoakecaaGreatDoor
open Go Go.E
set_option linter.unusedVariables false
set_option linter.unusedSectionVars false
set_option linter.unusedSimpArgs false
set_option maxRecDepth 10000
/-- What bytealg.MaxLen holds lasts. -/
def MaxOk (ro : Ro) : Prop := ∃ m : Int, ∀ own, Ld ro own 0 0 (.int .i64 m)
theorem MaxOk.le {ro ro' : Ro} (h : MaxOk ro) (hl : Le ro ro') : MaxOk ro' := by
  obtain ⟨m, hm⟩ := h
  exact ⟨m, fun own g hs => hm own g (hs.leq ⟨hl.le⟩)⟩
theorem itoa_ok {ro : Ro} {own : Chs} {K : Value → Ro → Chs → Prop} {z : Int} (hz : 0 ≤ z ∧ z < 100) (hk : K (str (Lib.itoa z)) ro own) : CallOk Tryz.prog 68 #[.int .i64 z] ro own K := by
  obtain ⟨n, rfl⟩ : ∃ n : Nat, z = (n : Int) := ⟨z.toNat, by omega⟩
  have e : Lib.itoa (n : Int) = Lib.decDigits n := by unfold Lib.itoa; rw [if_neg (by omega), Int.toNat_natCast]
  rw [e] at hk
  refine CallOk.ofBelow Tryz.call68 (fun w => ?_) hk
  have h := Go.Proofs.Any.strconv_Itoa_small Tryz.laysItoa n (by omega) w
  rw [show Tryz.laysItoa_ren.f 171 = 68 by kernel_rfl] at h
  refine h.mono fun e w' ⟨he, hb⟩ => ⟨he, ?_⟩
  rw [hb]
  exact Go.RowKit.Below.refl _ _
section
variable {ro : Ro} {own q : Chs} {K : Value → Ro → Chs → Prop}
theorem contains_ok {x y : List UInt8} (hM : MaxOk ro) (hx : x.length ≤ 1000000) (hk : K (.bool (Lib.contains x y)) ro own) : CallOk Tryz.prog 28 #[str x, str y] ro own K := by
  obtain ⟨m, hm⟩ := hM
  refine CallOk.ofCell Tryz.call28 (hm own) (fun w hw => ?_) hk
  have h := Go.Proofs.Any.strings_Contains Tryz.laysContains ⟨x.toArray⟩ ⟨y.toArray⟩ m w (by simp [ByteArray.size]; omega) hw
  rw [show Tryz.laysContains_ren.f 144 = 28 by kernel_rfl] at h
  exact h
end
end Go.Proofs.YtefipginoakecaaGreatDoor
end
