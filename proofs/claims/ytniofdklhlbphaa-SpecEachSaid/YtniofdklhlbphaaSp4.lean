/- Contracts of spec: Check, Def, Root. -/
import Derived.Test.YtniofdklhlbphaaSp3
namespace Go.Proofs.Ytniofdklhlbphaa
open Go Go.E
set_option linter.unusedVariables false
set_option maxRecDepth 10000
/-- Where a specification's slices lie. -/
structure SpecA where
  na : Option Addr
  nc : Nat
  da : Option Addr
  dc : Nat
  xs : List NodeA
def specV (s : SpecD) (a : SpecA) : List Value := [.slice a.na s.nodes.length a.nc, .slice a.da s.defs.length a.dc]
def nodesV : List NodeD → List NodeA → List Value
  | d :: ds, a :: xs => nodeV d a ++ nodesV ds xs
  | _, _ => []
structure SpecOk (ro : Ro) (s : SpecD) (a : SpecA) : Prop where
  len : a.xs.length = s.nodes.length
  nodes : Rs ro a.na s.nodes.length a.nc 18 (nodesV s.nodes a.xs)
  each : ∀ (i : Nat) (d : NodeD) (x : NodeA), s.nodes[i]? = some d → a.xs[i]? = some x → NodeOk ro d x
  defs : Rs ro a.da s.defs.length a.dc 2 (defsV s.defs)
theorem nodesV_drop : ∀ (ds : List NodeD) (xs : List NodeA) (i : Nat) (d : NodeD) (a : NodeA), ds[i]? = some d → xs[i]? = some a → ((nodesV ds xs).drop (i * 18)).take 18 = nodeV d a := by
  intro ds
  induction ds with
  | nil => intro xs i d a h; simp at h
  | cons x ds ih =>
    intro xs i d a h1 h2
    cases xs with
    | nil => simp at h2
    | cons y xs =>
      cases i with
      | zero => simp at h1 h2; subst h1; subst h2; rfl
      | succ i =>
        rw [show (i + 1) * 18 = i * 18 + 18 by omega, Nat.add_comm]
        show List.take 18 (List.drop (18 + i * 18) (nodeV x y ++ nodesV ds xs)) = _
        rw [← List.drop_drop, List.drop_left' (by rfl)]
        exact ih xs i d a (by simpa using h1) (by simpa using h2)
theorem nodesV_len : ∀ (ds : List NodeD) (xs : List NodeA), xs.length = ds.length → (nodesV ds xs).length = ds.length * 18
  | [], [], _ => rfl
  | d :: ds, a :: xs, h => by
    have := nodesV_len ds xs (by simpa using h)
    simp only [nodesV, List.length_append, this, List.length_cons]
    show 18 + _ = _
    omega
theorem nodesV_one : ∀ (ds : List NodeD) (xs : List NodeA), ∀ u ∈ nodesV ds xs, u.oneCell' = true
  | [], _, u, h => by simp [nodesV] at h
  | d :: ds, [], u, h => by simp [nodesV] at h
  | d :: ds, a :: xs, u, h => by
    simp only [nodesV, List.mem_append] at h
    rcases h with h | h
    · simp [nodeV] at h
      rcases h with rfl | rfl | rfl | rfl | rfl | rfl | rfl | rfl | rfl | rfl | rfl | rfl | rfl | rfl | rfl | rfl | rfl | rfl <;> rfl
    · exact nodesV_one ds xs u h
/-! ### what Check answers -/
def ownAll (lim : Nat) : List Int → List Bool → Except Int (List Bool)
  | [], o => .ok o
  | k :: ks, o => if k < 0 ∨ (lim : Int) ≤ k then .error 3 else if o[k.toNat]! = true then .error 4 else ownAll lim ks (o.set k.toNat true)
def nodesAll : Nat → List NodeD → List Bool → Except Int (List Bool)
  | _, [], o => .ok o
  | i, d :: ds, o => if formD d ≠ 0 then .error (formD d) else match ownAll i (kidsD d) o with
    | .error e => .error e
    | .ok o => nodesAll (i + 1) ds o
def checkE (s : SpecD) : Except Int (List Bool) := match nodesAll 0 s.nodes (List.replicate s.nodes.length false) with
  | .error e => .error e
  | .ok o => ownAll s.nodes.length (s.defs.map (·.type)) o
def checkD (s : SpecD) : Int := if 2048 < s.nodes.length ∨ 64 < s.defs.length ∨ s.defs.length = 0 then 2 else match checkE s with
  | .error e => e
  | .ok o => if false ∈ o then 3 else 0
theorem ownAll_len {lim : Nat} : ∀ {ks : List Int} {o o' : List Bool}, ownAll lim ks o = .ok o' → o'.length = o.length
  | [], o, o', h => by simp [ownAll] at h; subst h; rfl
  | k :: ks, o, o', h => by
    unfold ownAll at h
    split at h
    · cases h
    · split at h
      · cases h
      · have := ownAll_len h
        simpa using this
theorem form_small {d : NodeD} (h : formD d = 0) : d.kids.length ≤ 64 ∧ d.fields.length ≤ 64 ∧ d.cases.length ≤ 64 := by
  unfold formD at h
  grind
section
variable {ro : Ro} {own r : Chs} {K : Value → Ro → Chs → Prop} {g : Chunk → Chs}
theorem drop_bang {α : Type} [Inhabited α] {l : List α} {j : Nat} (h : j < l.length) : l.drop j = l[j]! :: l.drop (j + 1) := by
  rw [List.drop_eq_getElem_cons h, List.getElem!_eq_getElem?_getD, List.getElem?_eq_getElem h]; rfl
theorem lastV_get {o : List Bool} {k : Nat} (h : k < o.length) : (lastV o)[k]? = some (.bool o[k]!) := getMap h
theorem lastV_set (o : List Bool) (k : Nat) (b : Bool) : (lastV o).set k (.bool b) = lastV (o.set k b) := by simp [lastV, List.map_set]
theorem containsB_ok {a : Option Addr} {n c : Nat} {o : List Bool} (hr : Rds ro own a n c 1 (lastV o)) (hk : K (.bool (decide (false ∈ o))) ro own) : CallOk Try.prog 22 #[.slice a n c, .bool false] ro own K := by
  have hn : o.length = n := by have := hr.n1; simpa [lastV] using this
  have hm := hr.max
  have hidx : ∀ K' : Value → Ro → Chs → Prop, (∀ i : Int, -1 ≤ i → i ≤ maxLen → (0 ≤ i ↔ false ∈ o) → K' (.int .i64 i) ro own) → CallOk Try.prog 31 #[.slice a n c, .bool false] ro own K' := by
    intro K' hk'
    have hle := hr.le
    unfold maxLen at hm hk'
    refine CallOk.intro (args := [_, _]) (rs := [_]) T_ok Try.func31 Try.call31 rfl rfl (by kernel_rfl) rfl rfl ?_
    repeat (first
      | (show _ ∧ _; exact ⟨rfl, rfl, rfl⟩)
      | refine wkG ?_
      | (show OpOk _ _ _ _ _ _ _; first | refine opB (fun b => ?_) | refine opA (fun a' c' hc1 hc2 => ?_))
      | (show GJ _ _ _ _ _ _ _; first | (apply GJ.and; exact rfl; intro hg) | (apply GJ.or; exact rfl; intro hg) | refine GJ.t omAuto ?_ | refine GJ.f omAuto ?_ | refine GJ.ft omAuto ?_ | refine GJ.ff omAuto ?_))
    refine LoopOk.at (ι := Nat) Keep.auto (fun i => [(8, .int .i64 (i : Int))]) (fun i => own) (fun i => i ≤ n ∧ ¬ false ∈ o.take i) (fun i => n - i) 0 ?_ Sub.auto Sup.auto ?_
    · exact ⟨by omega, by simp⟩
    rintro i ⟨i1, i2⟩
    dsimp only [List.cons_append, List.nil_append]
    repeat (first
      | (show _ ∧ _; exact ⟨rfl, rfl, rfl⟩)
      | refine wkG ?_
      | (show OpOk _ _ _ _ _ _ _; first | refine opB (fun b => ?_) | refine opA (fun a' c' hc1 hc2 => ?_))
      | (show GJ _ _ _ _ _ _ _; first | (apply GJ.and; exact rfl; intro hg) | (apply GJ.or; exact rfl; intro hg) | refine GJ.t omAuto ?_ | refine GJ.f omAuto ?_ | refine GJ.ft omAuto ?_ | refine GJ.ff omAuto ?_))
    refine Br.cases (fun hc => ?_) (fun hc => ?_)
    · have hget := lastV_get (o := o) (k := i) (by omega)
      have htk : o.take (i + 1) = o.take i ++ [o[i]!] := by rw [List.take_add_one, List.getElem?_eq_getElem (by omega), List.getElem!_eq_getElem?_getD, List.getElem?_eq_getElem (by omega)]; rfl
      have hmem : o[i]! ∈ o := by rw [List.getElem!_eq_getElem?_getD, List.getElem?_eq_getElem (by omega)]; exact List.getElem_mem _
      repeat (first
        | (show _ ∧ _; exact ⟨rfl, rfl, rfl⟩)
        | refine wkG ?_
        | (show OpOk _ _ _ _ _ _ _; first | refine opB (fun b => ?_) | refine opA (fun a' c' hc1 hc2 => ?_))
        | (show GJ _ _ _ _ _ _ _; first | (apply GJ.and; exact rfl; intro hg) | (apply GJ.or; exact rfl; intro hg) | refine GJ.t omAuto ?_ | refine GJ.f omAuto ?_ | refine GJ.ft omAuto ?_ | refine GJ.ff omAuto ?_))
      rw [Int.toNat_natCast]
      refine Br.cases (fun hd => ?_) (fun hd => ?_)
      · repeat (first
          | (show _ ∧ _; exact ⟨rfl, rfl, rfl⟩)
          | refine wkG ?_
          | (show OpOk _ _ _ _ _ _ _; first | refine opB (fun b => ?_) | refine opA (fun a' c' hc1 hc2 => ?_))
          | (show GJ _ _ _ _ _ _ _; first | (apply GJ.and; exact rfl; intro hg) | (apply GJ.or; exact rfl; intro hg) | refine GJ.t omAuto ?_ | refine GJ.f omAuto ?_ | refine GJ.ft omAuto ?_ | refine GJ.ff omAuto ?_))
        exact Wk.outS Sup.auto (.refl _) (hk' i (by omega) (by omega) ⟨fun _ => hd ▸ hmem, fun _ => by omega⟩)
      · repeat (first
          | (show _ ∧ _; exact ⟨rfl, rfl, rfl⟩)
          | refine wkG ?_
          | (show OpOk _ _ _ _ _ _ _; first | refine opB (fun b => ?_) | refine opA (fun a' c' hc1 hc2 => ?_))
          | (show GJ _ _ _ _ _ _ _; first | (apply GJ.and; exact rfl; intro hg) | (apply GJ.or; exact rfl; intro hg) | refine GJ.t omAuto ?_ | refine GJ.f omAuto ?_ | refine GJ.ft omAuto ?_ | refine GJ.ff omAuto ?_))
        refine Wk.id ⟨i + 1, ⟨rfl, ?_⟩, ?_, Sub.auto, Sup.auto⟩
        all_goals try dsimp only
        · refine ⟨by omega, fun hm2 => ?_⟩
          rw [htk, List.mem_append] at hm2
          rcases hm2 with hm2 | hm2
          · exact i2 hm2
          · exact hd (List.mem_singleton.1 hm2)
        · omega
    · obtain rfl : i = n := by omega
      rw [List.take_of_length_le (by omega)] at i2
      repeat (first
        | (show _ ∧ _; exact ⟨rfl, rfl, rfl⟩)
        | refine wkG ?_
        | (show OpOk _ _ _ _ _ _ _; first | refine opB (fun b => ?_) | refine opA (fun a' c' hc1 hc2 => ?_))
        | (show GJ _ _ _ _ _ _ _; first | (apply GJ.and; exact rfl; intro hg) | (apply GJ.or; exact rfl; intro hg) | refine GJ.t omAuto ?_ | refine GJ.f omAuto ?_ | refine GJ.ft omAuto ?_ | refine GJ.ff omAuto ?_))
      exact Wk.outS Sup.auto (.refl _) (hk' (-1) (by omega) (by omega) ⟨fun h => by omega, fun h => absurd h i2⟩)
  refine CallOk.intro (args := [_, _]) (rs := [_]) T_ok Try.func22 Try.call22 rfl rfl (by kernel_rfl) rfl rfl ?_
  repeat (first
    | (show _ ∧ _; exact ⟨rfl, rfl, rfl⟩)
    | refine wkG ?_
    | (show OpOk _ _ _ _ _ _ _; first | refine opB (fun b => ?_) | refine opA (fun a' c' hc1 hc2 => ?_))
    | (show GJ _ _ _ _ _ _ _; first | (apply GJ.and; exact rfl; intro hg) | (apply GJ.or; exact rfl; intro hg) | refine GJ.t omAuto ?_ | refine GJ.f omAuto ?_ | refine GJ.ft omAuto ?_ | refine GJ.ff omAuto ?_))
  refine hidx _ (fun i h1 h2 h3 => ?_)
  repeat (first
    | (show _ ∧ _; exact ⟨rfl, rfl, rfl⟩)
    | refine wkG ?_
    | (show OpOk _ _ _ _ _ _ _; first | refine opB (fun b => ?_) | refine opA (fun a' c' hc1 hc2 => ?_))
    | (show GJ _ _ _ _ _ _ _; first | (apply GJ.and; exact rfl; intro hg) | (apply GJ.or; exact rfl; intro hg) | refine GJ.t omAuto ?_ | refine GJ.f omAuto ?_ | refine GJ.ft omAuto ?_ | refine GJ.ff omAuto ?_))
  refine Wk.outV Sup.auto hk (congrArg Value.bool ?_)
  exact decide_eq_decide.2 h3.symm
set_option maxHeartbeats 1000000 in
theorem check_ok {s : SpecD} {a : SpecA} (ho : SpecOk ro s a) (hk : K (.int .i64 (checkD s)) ro own) : CallOk Try.prog 6 #[.agg (specV s a).toArray] ro own K := by
  have hr1 := ho.nodes
  have hr2 := ho.defs
  have hlen := ho.len
  have hm1 := hr1.max
  have hm2 := hr2.max
  have hle1 := hr1.le
  have hle2 := hr2.le
  unfold maxLen at hm1 hm2
  refine CallOk.intro (args := [_]) (rs := [_]) T_ok Try.func6 Try.call6 rfl rfl (by kernel_rfl) rfl rfl ?_
  repeat (first
    | (show _ ∧ _; exact ⟨rfl, rfl, rfl⟩)
    | refine wkG ?_
    | (show OpOk _ _ _ _ _ _ _; first | refine opB (fun b => ?_) | refine opA (fun a' c' hc1 hc2 => ?_))
    | (show GJ _ _ _ _ _ _ _; first | (apply GJ.and; exact rfl; intro hg) | (apply GJ.or; exact rfl; intro hg) | refine GJ.t omAuto ?_ | refine GJ.f omAuto ?_ | refine GJ.ft omAuto ?_ | refine GJ.ff omAuto ?_))
  refine Br.cases (fun hc => ?_) (fun hc => ?_)
  · have e : checkD s = 2 := by unfold checkD; rw [if_pos (by omega)]
    rw [e] at hk
    repeat (first
      | (show _ ∧ _; exact ⟨rfl, rfl, rfl⟩)
      | refine wkG ?_
      | (show OpOk _ _ _ _ _ _ _; first | refine opB (fun b => ?_) | refine opA (fun a' c' hc1 hc2 => ?_))
      | (show GJ _ _ _ _ _ _ _; first | (apply GJ.and; exact rfl; intro hg) | (apply GJ.or; exact rfl; intro hg) | refine GJ.t omAuto ?_ | refine GJ.f omAuto ?_ | refine GJ.ft omAuto ?_ | refine GJ.ff omAuto ?_))
    exact Wk.outS Sup.auto (.refl _) hk
  have e : checkD s = match checkE s with
    | .error e => e
    | .ok o => if false ∈ o then 3 else 0 := by unfold checkD; rw [if_neg (by omega)]
  repeat (first
    | (show _ ∧ _; exact ⟨rfl, rfl, rfl⟩)
    | refine wkG ?_
    | (show OpOk _ _ _ _ _ _ _; first | refine opB (fun b => ?_) | refine opA (fun a' c' hc1 hc2 => ?_))
    | (show GJ _ _ _ _ _ _ _; first | (apply GJ.and; exact rfl; intro hg) | (apply GJ.or; exact rfl; intro hg) | refine GJ.t omAuto ?_ | refine GJ.f omAuto ?_ | refine GJ.ft omAuto ?_ | refine GJ.ff omAuto ?_))
  rename_i b0
  refine LoopOk.at (ι := Nat × List Value × List Bool) Keep.auto (fun (i, cs, o) => [(34, .int .i64 (i : Int))]) (fun (i, cs, o) => .sl (some ⟨b, 0, none⟩) s.nodes.length s.nodes.length 4 1 cs :: .blk b0 25 (specV s a) :: own) (fun (i, cs, o) => i ≤ s.nodes.length ∧ o.length = s.nodes.length ∧ cs = lastV o ∧ nodesAll i (s.nodes.drop i) o = nodesAll 0 s.nodes (List.replicate s.nodes.length false)) (fun (i, cs, o) => s.nodes.length - i) (0, _, List.replicate s.nodes.length false) ?_ Sub.auto Sup.auto ?_
  · exact ⟨by omega, by simp, by simp [lastV], rfl⟩
  rintro ⟨i, cs, o⟩ ⟨i1, i2, rfl, i3⟩
  dsimp only [List.cons_append, List.nil_append]
  repeat (first
    | (show _ ∧ _; exact ⟨rfl, rfl, rfl⟩)
    | refine wkG ?_
    | (show OpOk _ _ _ _ _ _ _; first | refine opB (fun b => ?_) | refine opA (fun a' c' hc1 hc2 => ?_))
    | (show GJ _ _ _ _ _ _ _; first | (apply GJ.and; exact rfl; intro hg) | (apply GJ.or; exact rfl; intro hg) | refine GJ.t omAuto ?_ | refine GJ.f omAuto ?_ | refine GJ.ft omAuto ?_ | refine GJ.ff omAuto ?_))
  refine Br.cases (fun hd => ?_) (fun hd => ?_)
  · obtain ⟨d, hd1⟩ : ∃ d, s.nodes[i]? = some d := ⟨_, List.getElem?_eq_getElem (by omega)⟩
    obtain ⟨x, hx1⟩ : ∃ x, a.xs[i]? = some x := ⟨_, List.getElem?_eq_getElem (by omega)⟩
    have hno := ho.each i d x hd1 hx1
    have hdrop := nodesV_drop _ _ _ _ _ hd1 hx1
    rw [List.drop_eq_getElem_cons (by omega), (List.getElem?_eq_some_iff.1 hd1).2, nodesAll] at i3
    repeat (first
      | (show _ ∧ _; exact ⟨rfl, rfl, rfl⟩)
      | refine wkG ?_
      | (show OpOk _ _ _ _ _ _ _; first | refine opB (fun b => ?_) | refine opA (fun a' c' hc1 hc2 => ?_))
      | (show GJ _ _ _ _ _ _ _; first | (apply GJ.and; exact rfl; intro hg) | (apply GJ.or; exact rfl; intro hg) | refine GJ.t omAuto ?_ | refine GJ.f omAuto ?_ | refine GJ.ft omAuto ?_ | refine GJ.ff omAuto ?_))
    rw [Int.toNat_natCast]
    refine OpOk.loadRow rfl rfl (LdN.at hr1 hdrop) rfl ?_
    repeat (first
      | (show _ ∧ _; exact ⟨rfl, rfl, rfl⟩)
      | refine wkG ?_
      | (show OpOk _ _ _ _ _ _ _; first | refine opB (fun b => ?_) | refine opA (fun a' c' hc1 hc2 => ?_))
      | (show GJ _ _ _ _ _ _ _; first | (apply GJ.and; exact rfl; intro hg) | (apply GJ.or; exact rfl; intro hg) | refine GJ.t omAuto ?_ | refine GJ.f omAuto ?_ | refine GJ.ft omAuto ?_ | refine GJ.ff omAuto ?_))
    refine form_ok ?_
    repeat (first
      | (show _ ∧ _; exact ⟨rfl, rfl, rfl⟩)
      | refine wkG ?_
      | (show OpOk _ _ _ _ _ _ _; first | refine opB (fun b => ?_) | refine opA (fun a' c' hc1 hc2 => ?_))
      | (show GJ _ _ _ _ _ _ _; first | (apply GJ.and; exact rfl; intro hg) | (apply GJ.or; exact rfl; intro hg) | refine GJ.t omAuto ?_ | refine GJ.f omAuto ?_ | refine GJ.ft omAuto ?_ | refine GJ.ff omAuto ?_))
    refine Br.cases (fun hf => ?_) (fun hf => ?_)
    · rw [if_pos hf] at i3
      have e2 : checkD s = formD d := by rw [e, checkE, ← i3]
      rw [e2] at hk
      repeat (first
        | (show _ ∧ _; exact ⟨rfl, rfl, rfl⟩)
        | refine wkG ?_
        | (show OpOk _ _ _ _ _ _ _; first | refine opB (fun b => ?_) | refine opA (fun a' c' hc1 hc2 => ?_))
        | (show GJ _ _ _ _ _ _ _; first | (apply GJ.and; exact rfl; intro hg) | (apply GJ.or; exact rfl; intro hg) | refine GJ.t omAuto ?_ | refine GJ.f omAuto ?_ | refine GJ.ft omAuto ?_ | refine GJ.ff omAuto ?_))
      exact Wk.outS Sup.auto (.refl _) hk
    · rw [if_neg hf] at i3
      have hsm := form_small (d := d) (by omega)
      repeat (first
        | (show _ ∧ _; exact ⟨rfl, rfl, rfl⟩)
        | refine wkG ?_
        | (show OpOk _ _ _ _ _ _ _; first | refine opB (fun b => ?_) | refine opA (fun a' c' hc1 hc2 => ?_))
        | (show GJ _ _ _ _ _ _ _; first | (apply GJ.and; exact rfl; intro hg) | (apply GJ.or; exact rfl; intro hg) | refine GJ.t omAuto ?_ | refine GJ.f omAuto ?_ | refine GJ.ft omAuto ?_ | refine GJ.ff omAuto ?_))
      refine kids_ok hno (by omega) (fun a' n' c' h1 h2 h3 => ?_)
      generalize hks : kidsD d = ks at *
      repeat (first
        | (show _ ∧ _; exact ⟨rfl, rfl, rfl⟩)
        | refine wkG ?_
        | (show OpOk _ _ _ _ _ _ _; first | refine opB (fun b => ?_) | refine opA (fun a' c' hc1 hc2 => ?_))
        | (show GJ _ _ _ _ _ _ _; first | (apply GJ.and; exact rfl; intro hg) | (apply GJ.or; exact rfl; intro hg) | refine GJ.t omAuto ?_ | refine GJ.f omAuto ?_ | refine GJ.ft omAuto ?_ | refine GJ.ff omAuto ?_))
      rename_i b1
      refine LoopOk.at (ι := Nat × List Bool) Keep.auto (fun (j, o2) => [(47, .int .i64 (j : Int))]) (fun (j, o2) => .sl a' n' c' 3 1 (kidsV ks) :: .blk b 49 (nodeV d x) :: .sl (some ⟨b1, 0, none⟩) s.nodes.length s.nodes.length 4 1 (lastV o2) :: .blk b0 25 (specV s a) :: own) (fun (j, o2) => j ≤ n' ∧ o2.length = s.nodes.length ∧ ownAll i (ks.drop j) o2 = ownAll i ks o) (fun (j, o2) => n' - j) (0, o) ?_ Sub.auto Sup.auto ?_
      · exact ⟨by omega, i2, rfl⟩
      rintro ⟨j, o2⟩ ⟨j1, j2, j3⟩
      dsimp only [List.cons_append, List.nil_append]
      repeat (first
        | (show _ ∧ _; exact ⟨rfl, rfl, rfl⟩)
        | refine wkG ?_
        | (show OpOk _ _ _ _ _ _ _; first | refine opB (fun b => ?_) | refine opA (fun a' c' hc1 hc2 => ?_))
        | (show GJ _ _ _ _ _ _ _; first | (apply GJ.and; exact rfl; intro hg) | (apply GJ.or; exact rfl; intro hg) | refine GJ.t omAuto ?_ | refine GJ.f omAuto ?_ | refine GJ.ft omAuto ?_ | refine GJ.ff omAuto ?_))
      refine Br.cases (fun hg => ?_) (fun hg => ?_)
      · rw [drop_bang (by omega), ownAll] at j3
        repeat (first
          | (show _ ∧ _; exact ⟨rfl, rfl, rfl⟩)
          | refine wkG ?_
          | (show OpOk _ _ _ _ _ _ _; first | refine opB (fun b => ?_) | refine opA (fun a' c' hc1 hc2 => ?_))
          | (show GJ _ _ _ _ _ _ _; first | (apply GJ.and; exact rfl; intro hg) | (apply GJ.or; exact rfl; intro hg) | refine GJ.t omAuto ?_ | refine GJ.f omAuto ?_ | refine GJ.ft omAuto ?_ | refine GJ.ff omAuto ?_))
        rw [Int.toNat_natCast]
        generalize ks[j]! = k at j3
        refine Br.cases (fun hh => ?_) (fun hh => ?_)
        · rw [if_pos (by omega)] at j3
          rw [← j3] at i3
          have e2 : checkD s = 3 := by rw [e, checkE, ← i3]
          rw [e2] at hk
          repeat (first
            | (show _ ∧ _; exact ⟨rfl, rfl, rfl⟩)
            | refine wkG ?_
            | (show OpOk _ _ _ _ _ _ _; first | refine opB (fun b => ?_) | refine opA (fun a' c' hc1 hc2 => ?_))
            | (show GJ _ _ _ _ _ _ _; first | (apply GJ.and; exact rfl; intro hg) | (apply GJ.or; exact rfl; intro hg) | refine GJ.t omAuto ?_ | refine GJ.f omAuto ?_ | refine GJ.ft omAuto ?_ | refine GJ.ff omAuto ?_))
          exact Wk.outS Sup.auto (.refl _) hk
        · rw [if_neg (by omega)] at j3
          repeat (first
            | (show _ ∧ _; exact ⟨rfl, rfl, rfl⟩)
            | refine wkG ?_
            | (show OpOk _ _ _ _ _ _ _; first | refine opB (fun b => ?_) | refine opA (fun a' c' hc1 hc2 => ?_))
            | (show GJ _ _ _ _ _ _ _; first | (apply GJ.and; exact rfl; intro hg) | (apply GJ.or; exact rfl; intro hg) | refine GJ.t omAuto ?_ | refine GJ.f omAuto ?_ | refine GJ.ft omAuto ?_ | refine GJ.ff omAuto ?_))
          refine Br.cases (fun hi => ?_) (fun hi => ?_)
          · rw [if_pos hi] at j3
            rw [← j3] at i3
            have e2 : checkD s = 4 := by rw [e, checkE, ← i3]
            rw [e2] at hk
            repeat (first
              | (show _ ∧ _; exact ⟨rfl, rfl, rfl⟩)
              | refine wkG ?_
              | (show OpOk _ _ _ _ _ _ _; first | refine opB (fun b => ?_) | refine opA (fun a' c' hc1 hc2 => ?_))
              | (show GJ _ _ _ _ _ _ _; first | (apply GJ.and; exact rfl; intro hg) | (apply GJ.or; exact rfl; intro hg) | refine GJ.t omAuto ?_ | refine GJ.f omAuto ?_ | refine GJ.ft omAuto ?_ | refine GJ.ff omAuto ?_))
            exact Wk.outS Sup.auto (.refl _) hk
          · rw [if_neg hi] at j3
            repeat (first
              | (show _ ∧ _; exact ⟨rfl, rfl, rfl⟩)
              | refine wkG ?_
              | (show OpOk _ _ _ _ _ _ _; first | refine opB (fun b => ?_) | refine opA (fun a' c' hc1 hc2 => ?_))
              | (show GJ _ _ _ _ _ _ _; first | (apply GJ.and; exact rfl; intro hg) | (apply GJ.or; exact rfl; intro hg) | refine GJ.t omAuto ?_ | refine GJ.f omAuto ?_ | refine GJ.ft omAuto ?_ | refine GJ.ff omAuto ?_))
            refine OpOk.storeSl rfl rfl rfl rfl (by simp [lastV]; omega) ?_
            rw [lastV_set]
            have h3' := h3
            unfold maxLen at h3'
            repeat (first
              | (show _ ∧ _; exact ⟨rfl, rfl, rfl⟩)
              | refine wkG ?_
              | (show OpOk _ _ _ _ _ _ _; first | refine opB (fun b => ?_) | refine opA (fun a' c' hc1 hc2 => ?_))
              | (show GJ _ _ _ _ _ _ _; first | (apply GJ.and; exact rfl; intro hg) | (apply GJ.or; exact rfl; intro hg) | refine GJ.t omAuto ?_ | refine GJ.f omAuto ?_ | refine GJ.ft omAuto ?_ | refine GJ.ff omAuto ?_))
            refine Wk.id ⟨(j + 1, _), ⟨rfl, ?_⟩, ?_, Sub.auto, Sup.auto⟩
            all_goals try dsimp only
            · exact ⟨by omega, by simp [j2], j3⟩
            · omega
      · obtain rfl : j = n' := by omega
        rw [List.drop_of_length_le (by omega), ownAll] at j3
        rw [← j3] at i3
        repeat (first
          | (show _ ∧ _; exact ⟨rfl, rfl, rfl⟩)
          | refine wkG ?_
          | (show OpOk _ _ _ _ _ _ _; first | refine opB (fun b => ?_) | refine opA (fun a' c' hc1 hc2 => ?_))
          | (show GJ _ _ _ _ _ _ _; first | (apply GJ.and; exact rfl; intro hg) | (apply GJ.or; exact rfl; intro hg) | refine GJ.t omAuto ?_ | refine GJ.f omAuto ?_ | refine GJ.ft omAuto ?_ | refine GJ.ff omAuto ?_))
        refine Wk.id ⟨(i + 1, _, o2), ⟨rfl, ?_⟩, ?_, Sub.auto, Sup.auto⟩
        all_goals try dsimp only
        · exact ⟨by omega, j2, rfl, i3⟩
        · omega
  · obtain rfl : i = s.nodes.length := by omega
    rw [List.drop_length, nodesAll] at i3
    have e3 : checkD s = match ownAll s.nodes.length (s.defs.map (·.type)) o with
      | .error e => e
      | .ok o => if false ∈ o then 3 else 0 := by rw [e, checkE, ← i3]
    generalize hts : s.defs.map (·.type) = ts at e3
    repeat (first
      | (show _ ∧ _; exact ⟨rfl, rfl, rfl⟩)
      | refine wkG ?_
      | (show OpOk _ _ _ _ _ _ _; first | refine opB (fun b => ?_) | refine opA (fun a' c' hc1 hc2 => ?_))
      | (show GJ _ _ _ _ _ _ _; first | (apply GJ.and; exact rfl; intro hg) | (apply GJ.or; exact rfl; intro hg) | refine GJ.t omAuto ?_ | refine GJ.f omAuto ?_ | refine GJ.ft omAuto ?_ | refine GJ.ff omAuto ?_))
    refine LoopOk.at (ι := Nat × List Bool) Keep.auto (fun (j, o2) => [(70, .int .i64 (j : Int))]) (fun (j, o2) => .sl (some ⟨b, 0, none⟩) s.nodes.length s.nodes.length 4 1 (lastV o2) :: .blk b0 25 (specV s a) :: own) (fun (j, o2) => j ≤ s.defs.length ∧ o2.length = s.nodes.length ∧ ownAll s.nodes.length (ts.drop j) o2 = ownAll s.nodes.length ts o) (fun (j, o2) => s.defs.length - j) (0, o) ?_ Sub.auto Sup.auto ?_
    · exact ⟨by omega, i2, rfl⟩
    rintro ⟨j, o2⟩ ⟨j1, j2, j3⟩
    dsimp only [List.cons_append, List.nil_append]
    have htl : ts.length = s.defs.length := by rw [← hts]; simp
    repeat (first
      | (show _ ∧ _; exact ⟨rfl, rfl, rfl⟩)
      | refine wkG ?_
      | (show OpOk _ _ _ _ _ _ _; first | refine opB (fun b => ?_) | refine opA (fun a' c' hc1 hc2 => ?_))
      | (show GJ _ _ _ _ _ _ _; first | (apply GJ.and; exact rfl; intro hg) | (apply GJ.or; exact rfl; intro hg) | refine GJ.t omAuto ?_ | refine GJ.f omAuto ?_ | refine GJ.ft omAuto ?_ | refine GJ.ff omAuto ?_))
    refine Br.cases (fun hg => ?_) (fun hg => ?_)
    · have hd := defsV_drop s.defs (i := j) (by omega)
      have hty : ts[j]! = (s.defs[j]'(by omega)).type := by
        subst hts
        rw [List.getElem!_eq_getElem?_getD, List.getElem?_map, List.getElem?_eq_getElem (show j < s.defs.length by omega)]; rfl
      rw [drop_bang (by omega), ownAll, hty] at j3
      generalize s.defs[j]'(by omega) = df at hd j3
      repeat (first
        | (show _ ∧ _; exact ⟨rfl, rfl, rfl⟩)
        | refine wkG ?_
        | (show OpOk _ _ _ _ _ _ _; first | refine opB (fun b => ?_) | refine opA (fun a' c' hc1 hc2 => ?_))
        | (show GJ _ _ _ _ _ _ _; first | (apply GJ.and; exact rfl; intro hg) | (apply GJ.or; exact rfl; intro hg) | refine GJ.t omAuto ?_ | refine GJ.f omAuto ?_ | refine GJ.ft omAuto ?_ | refine GJ.ff omAuto ?_))
      rw [Int.toNat_natCast]
      refine OpOk.loadRow rfl rfl (LdN.at hr2 hd) rfl ?_
      repeat (first
        | (show _ ∧ _; exact ⟨rfl, rfl, rfl⟩)
        | refine wkG ?_
        | (show OpOk _ _ _ _ _ _ _; first | refine opB (fun b => ?_) | refine opA (fun a' c' hc1 hc2 => ?_))
        | (show GJ _ _ _ _ _ _ _; first | (apply GJ.and; exact rfl; intro hg) | (apply GJ.or; exact rfl; intro hg) | refine GJ.t omAuto ?_ | refine GJ.f omAuto ?_ | refine GJ.ft omAuto ?_ | refine GJ.ff omAuto ?_))
      refine Br.cases (fun hh => ?_) (fun hh => ?_)
      · rw [if_pos (by omega)] at j3
        have e2 : checkD s = 3 := by rw [e3, ← j3]
        rw [e2] at hk
        repeat (first
          | (show _ ∧ _; exact ⟨rfl, rfl, rfl⟩)
          | refine wkG ?_
          | (show OpOk _ _ _ _ _ _ _; first | refine opB (fun b => ?_) | refine opA (fun a' c' hc1 hc2 => ?_))
          | (show GJ _ _ _ _ _ _ _; first | (apply GJ.and; exact rfl; intro hg) | (apply GJ.or; exact rfl; intro hg) | refine GJ.t omAuto ?_ | refine GJ.f omAuto ?_ | refine GJ.ft omAuto ?_ | refine GJ.ff omAuto ?_))
        exact Wk.outS Sup.auto (.refl _) hk
      · rw [if_neg (by omega)] at j3
        repeat (first
          | (show _ ∧ _; exact ⟨rfl, rfl, rfl⟩)
          | refine wkG ?_
          | (show OpOk _ _ _ _ _ _ _; first | refine opB (fun b => ?_) | refine opA (fun a' c' hc1 hc2 => ?_))
          | (show GJ _ _ _ _ _ _ _; first | (apply GJ.and; exact rfl; intro hg) | (apply GJ.or; exact rfl; intro hg) | refine GJ.t omAuto ?_ | refine GJ.f omAuto ?_ | refine GJ.ft omAuto ?_ | refine GJ.ff omAuto ?_))
        refine Br.cases (fun hi => ?_) (fun hi => ?_)
        · rw [if_pos hi] at j3
          have e2 : checkD s = 4 := by rw [e3, ← j3]
          rw [e2] at hk
          repeat (first
            | (show _ ∧ _; exact ⟨rfl, rfl, rfl⟩)
            | refine wkG ?_
            | (show OpOk _ _ _ _ _ _ _; first | refine opB (fun b => ?_) | refine opA (fun a' c' hc1 hc2 => ?_))
            | (show GJ _ _ _ _ _ _ _; first | (apply GJ.and; exact rfl; intro hg) | (apply GJ.or; exact rfl; intro hg) | refine GJ.t omAuto ?_ | refine GJ.f omAuto ?_ | refine GJ.ft omAuto ?_ | refine GJ.ff omAuto ?_))
          exact Wk.outS Sup.auto (.refl _) hk
        · rw [if_neg hi] at j3
          repeat (first
            | (show _ ∧ _; exact ⟨rfl, rfl, rfl⟩)
            | refine wkG ?_
            | (show OpOk _ _ _ _ _ _ _; first | refine opB (fun b => ?_) | refine opA (fun a' c' hc1 hc2 => ?_))
            | (show GJ _ _ _ _ _ _ _; first | (apply GJ.and; exact rfl; intro hg) | (apply GJ.or; exact rfl; intro hg) | refine GJ.t omAuto ?_ | refine GJ.f omAuto ?_ | refine GJ.ft omAuto ?_ | refine GJ.ff omAuto ?_))
          refine OpOk.storeSl rfl rfl rfl rfl (by simp [lastV]; omega) ?_
          rw [lastV_set]
          repeat (first
            | (show _ ∧ _; exact ⟨rfl, rfl, rfl⟩)
            | refine wkG ?_
            | (show OpOk _ _ _ _ _ _ _; first | refine opB (fun b => ?_) | refine opA (fun a' c' hc1 hc2 => ?_))
            | (show GJ _ _ _ _ _ _ _; first | (apply GJ.and; exact rfl; intro hg) | (apply GJ.or; exact rfl; intro hg) | refine GJ.t omAuto ?_ | refine GJ.f omAuto ?_ | refine GJ.ft omAuto ?_ | refine GJ.ff omAuto ?_))
          refine Wk.id ⟨(j + 1, _), ⟨rfl, ?_⟩, ?_, Sub.auto, Sup.auto⟩
          all_goals try dsimp only
          · exact ⟨by omega, by simp [j2], j3⟩
          · omega
    · obtain rfl : j = s.defs.length := by omega
      rw [List.drop_of_length_le (by omega), ownAll] at j3
      rw [← j3] at e3
      have e4 : checkD s = if false ∈ o2 then 3 else 0 := e3
      repeat (first
        | (show _ ∧ _; exact ⟨rfl, rfl, rfl⟩)
        | refine wkG ?_
        | (show OpOk _ _ _ _ _ _ _; first | refine opB (fun b => ?_) | refine opA (fun a' c' hc1 hc2 => ?_))
        | (show GJ _ _ _ _ _ _ _; first | (apply GJ.and; exact rfl; intro hg) | (apply GJ.or; exact rfl; intro hg) | refine GJ.t omAuto ?_ | refine GJ.f omAuto ?_ | refine GJ.ft omAuto ?_ | refine GJ.ff omAuto ?_))
      refine containsB_ok (o := o2) (Rds.hasSl (by omega) (by unfold maxLen; omega) (by simp [lastV, j2])) ?_
      repeat (first
        | (show _ ∧ _; exact ⟨rfl, rfl, rfl⟩)
        | refine wkG ?_
        | (show OpOk _ _ _ _ _ _ _; first | refine opB (fun b => ?_) | refine opA (fun a' c' hc1 hc2 => ?_))
        | (show GJ _ _ _ _ _ _ _; first | (apply GJ.and; exact rfl; intro hg) | (apply GJ.or; exact rfl; intro hg) | refine GJ.t omAuto ?_ | refine GJ.f omAuto ?_ | refine GJ.ft omAuto ?_ | refine GJ.ff omAuto ?_))
      refine Br.cases (fun hi => ?_) (fun hi => ?_)
      · rw [e4, if_pos hi] at hk
        repeat (first
          | (show _ ∧ _; exact ⟨rfl, rfl, rfl⟩)
          | refine wkG ?_
          | (show OpOk _ _ _ _ _ _ _; first | refine opB (fun b => ?_) | refine opA (fun a' c' hc1 hc2 => ?_))
          | (show GJ _ _ _ _ _ _ _; first | (apply GJ.and; exact rfl; intro hg) | (apply GJ.or; exact rfl; intro hg) | refine GJ.t omAuto ?_ | refine GJ.f omAuto ?_ | refine GJ.ft omAuto ?_ | refine GJ.ff omAuto ?_))
        exact Wk.outS Sup.auto (.refl _) hk
      · rw [e4, if_neg hi] at hk
        repeat (first
          | (show _ ∧ _; exact ⟨rfl, rfl, rfl⟩)
          | refine wkG ?_
          | (show OpOk _ _ _ _ _ _ _; first | refine opB (fun b => ?_) | refine opA (fun a' c' hc1 hc2 => ?_))
          | (show GJ _ _ _ _ _ _ _; first | (apply GJ.and; exact rfl; intro hg) | (apply GJ.or; exact rfl; intro hg) | refine GJ.t omAuto ?_ | refine GJ.f omAuto ?_ | refine GJ.ft omAuto ?_ | refine GJ.ff omAuto ?_))
        exact Wk.outS Sup.auto (.refl _) hk
def defD : List DefD → List UInt8 → Int
  | [], _ => -1
  | d :: ds, n => if d.name = n then d.type else defD ds n
def rootD (s : SpecD) : Int := (s.defs.getLast?.map (·.type)).getD (-1)
theorem def_ok {s : SpecD} {a : SpecA} {name : List UInt8} (ho : SpecOk ro s a) (hk : K (.int .i64 (defD s.defs name)) ro own) : CallOk Try.prog 15 #[.agg (specV s a).toArray, str name] ro own K := by
  have hr2 := ho.defs
  have hm2 := hr2.max
  have hle2 := hr2.le
  unfold maxLen at hm2
  refine CallOk.intro (args := [_, _]) (rs := [_]) T_ok Try.func15 Try.call15 rfl rfl (by kernel_rfl) rfl rfl ?_
  repeat (first
    | (show _ ∧ _; exact ⟨rfl, rfl, rfl⟩)
    | refine wkG ?_
    | (show OpOk _ _ _ _ _ _ _; first | refine opB (fun b => ?_) | refine opA (fun a' c' hc1 hc2 => ?_))
    | (show GJ _ _ _ _ _ _ _; first | (apply GJ.and; exact rfl; intro hg) | (apply GJ.or; exact rfl; intro hg) | refine GJ.t omAuto ?_ | refine GJ.f omAuto ?_ | refine GJ.ft omAuto ?_ | refine GJ.ff omAuto ?_))
  refine LoopOk.at (ι := Nat) Keep.auto (fun i => [(10, .int .i64 (i : Int))]) (fun i => .blk b 25 (specV s a) :: own) (fun i => i ≤ s.defs.length ∧ defD (s.defs.drop i) name = defD s.defs name) (fun i => s.defs.length - i) 0 ?_ Sub.auto Sup.auto ?_
  · exact ⟨by omega, rfl⟩
  rintro i ⟨i1, i2⟩
  dsimp only [List.cons_append, List.nil_append]
  repeat (first
    | (show _ ∧ _; exact ⟨rfl, rfl, rfl⟩)
    | refine wkG ?_
    | (show OpOk _ _ _ _ _ _ _; first | refine opB (fun b => ?_) | refine opA (fun a' c' hc1 hc2 => ?_))
    | (show GJ _ _ _ _ _ _ _; first | (apply GJ.and; exact rfl; intro hg) | (apply GJ.or; exact rfl; intro hg) | refine GJ.t omAuto ?_ | refine GJ.f omAuto ?_ | refine GJ.ft omAuto ?_ | refine GJ.ff omAuto ?_))
  refine Br.cases (fun hg => ?_) (fun hg => ?_)
  · have hd := defsV_drop s.defs (i := i) (by omega)
    rw [List.drop_eq_getElem_cons (by omega), defD] at i2
    generalize s.defs[i]'(by omega) = df at hd i2
    repeat (first
      | (show _ ∧ _; exact ⟨rfl, rfl, rfl⟩)
      | refine wkG ?_
      | (show OpOk _ _ _ _ _ _ _; first | refine opB (fun b => ?_) | refine opA (fun a' c' hc1 hc2 => ?_))
      | (show GJ _ _ _ _ _ _ _; first | (apply GJ.and; exact rfl; intro hg) | (apply GJ.or; exact rfl; intro hg) | refine GJ.t omAuto ?_ | refine GJ.f omAuto ?_ | refine GJ.ft omAuto ?_ | refine GJ.ff omAuto ?_))
    rw [Int.toNat_natCast]
    refine OpOk.loadRow rfl rfl (LdN.at hr2 hd) rfl ?_
    repeat (first
      | (show _ ∧ _; exact ⟨rfl, rfl, rfl⟩)
      | refine wkG ?_
      | (show OpOk _ _ _ _ _ _ _; first | refine opB (fun b => ?_) | refine opA (fun a' c' hc1 hc2 => ?_))
      | (show GJ _ _ _ _ _ _ _; first | (apply GJ.and; exact rfl; intro hg) | (apply GJ.or; exact rfl; intro hg) | refine GJ.t omAuto ?_ | refine GJ.f omAuto ?_ | refine GJ.ft omAuto ?_ | refine GJ.ff omAuto ?_))
    refine Br.cases (fun hh => ?_) (fun hh => ?_)
    · rw [if_pos hh] at i2
      rw [← i2] at hk
      repeat (first
        | (show _ ∧ _; exact ⟨rfl, rfl, rfl⟩)
        | refine wkG ?_
        | (show OpOk _ _ _ _ _ _ _; first | refine opB (fun b => ?_) | refine opA (fun a' c' hc1 hc2 => ?_))
        | (show GJ _ _ _ _ _ _ _; first | (apply GJ.and; exact rfl; intro hg) | (apply GJ.or; exact rfl; intro hg) | refine GJ.t omAuto ?_ | refine GJ.f omAuto ?_ | refine GJ.ft omAuto ?_ | refine GJ.ff omAuto ?_))
      exact Wk.outS Sup.auto (.refl _) hk
    · rw [if_neg hh] at i2
      repeat (first
        | (show _ ∧ _; exact ⟨rfl, rfl, rfl⟩)
        | refine wkG ?_
        | (show OpOk _ _ _ _ _ _ _; first | refine opB (fun b => ?_) | refine opA (fun a' c' hc1 hc2 => ?_))
        | (show GJ _ _ _ _ _ _ _; first | (apply GJ.and; exact rfl; intro hg) | (apply GJ.or; exact rfl; intro hg) | refine GJ.t omAuto ?_ | refine GJ.f omAuto ?_ | refine GJ.ft omAuto ?_ | refine GJ.ff omAuto ?_))
      refine Wk.id ⟨i + 1, ⟨rfl, ?_⟩, ?_, Sub.auto, Sup.auto⟩
      all_goals try dsimp only
      · exact ⟨by omega, i2⟩
      · omega
  · obtain rfl : i = s.defs.length := by omega
    rw [List.drop_length, defD] at i2
    rw [← i2] at hk
    repeat (first
      | (show _ ∧ _; exact ⟨rfl, rfl, rfl⟩)
      | refine wkG ?_
      | (show OpOk _ _ _ _ _ _ _; first | refine opB (fun b => ?_) | refine opA (fun a' c' hc1 hc2 => ?_))
      | (show GJ _ _ _ _ _ _ _; first | (apply GJ.and; exact rfl; intro hg) | (apply GJ.or; exact rfl; intro hg) | refine GJ.t omAuto ?_ | refine GJ.f omAuto ?_ | refine GJ.ft omAuto ?_ | refine GJ.ff omAuto ?_))
    exact Wk.outS Sup.auto (.refl _) hk
theorem root_ok {s : SpecD} {a : SpecA} (ho : SpecOk ro s a) (hk : K (.int .i64 (rootD s)) ro own) : CallOk Try.prog 9 #[.agg (specV s a).toArray] ro own K := by
  have hr2 := ho.defs
  have hm2 := hr2.max
  have hle2 := hr2.le
  unfold maxLen at hm2
  refine CallOk.intro (args := [_]) (rs := [_]) T_ok Try.func9 Try.call9 rfl rfl (by kernel_rfl) rfl rfl ?_
  repeat (first
    | (show _ ∧ _; exact ⟨rfl, rfl, rfl⟩)
    | refine wkG ?_
    | (show OpOk _ _ _ _ _ _ _; first | refine opB (fun b => ?_) | refine opA (fun a' c' hc1 hc2 => ?_))
    | (show GJ _ _ _ _ _ _ _; first | (apply GJ.and; exact rfl; intro hg) | (apply GJ.or; exact rfl; intro hg) | refine GJ.t omAuto ?_ | refine GJ.f omAuto ?_ | refine GJ.ft omAuto ?_ | refine GJ.ff omAuto ?_))
  refine Br.cases (fun hg => ?_) (fun hg => ?_)
  · have e : s.defs = [] := List.eq_nil_of_length_eq_zero (by omega)
    rw [rootD, e] at hk
    repeat (first
      | (show _ ∧ _; exact ⟨rfl, rfl, rfl⟩)
      | refine wkG ?_
      | (show OpOk _ _ _ _ _ _ _; first | refine opB (fun b => ?_) | refine opA (fun a' c' hc1 hc2 => ?_))
      | (show GJ _ _ _ _ _ _ _; first | (apply GJ.and; exact rfl; intro hg) | (apply GJ.or; exact rfl; intro hg) | refine GJ.t omAuto ?_ | refine GJ.f omAuto ?_ | refine GJ.ft omAuto ?_ | refine GJ.ff omAuto ?_))
    exact Wk.outS Sup.auto (.refl _) hk
  · obtain ⟨n, hn⟩ : ∃ n, s.defs.length = n + 1 := ⟨s.defs.length - 1, by omega⟩
    have hd := defsV_drop s.defs (i := n) (by omega)
    have hl : rootD s = (s.defs[n]'(by omega)).type := by
      unfold rootD
      rw [List.getLast?_eq_getElem?, show s.defs.length - 1 = n by omega, List.getElem?_eq_getElem (show n < s.defs.length by omega)]
      rfl
    rw [hl] at hk
    generalize s.defs[n]'(by omega) = df at hd hk
    have hcell : (defsV s.defs)[n * 2 + 1]? = some (.int .i64 df.type) := by
      have := congrArg (·[1]?) hd
      simpa [defV, List.getElem?_take, List.getElem?_drop] using this
    repeat (first
      | (show _ ∧ _; exact ⟨rfl, rfl, rfl⟩)
      | refine wkG ?_
      | (show OpOk _ _ _ _ _ _ _; first | refine opB (fun b => ?_) | refine opA (fun a' c' hc1 hc2 => ?_))
      | (show GJ _ _ _ _ _ _ _; first | (apply GJ.and; exact rfl; intro hg) | (apply GJ.or; exact rfl; intro hg) | refine GJ.t omAuto ?_ | refine GJ.f omAuto ?_ | refine GJ.ft omAuto ?_ | refine GJ.ff omAuto ?_))
    rw [show ((s.defs.length : Int) - 1).toNat * 2 = n * 2 by omega, Nat.add_assoc]
    refine OpOk.load rfl rfl (Ld.rs hr2 hcell) ?_
    repeat (first
      | (show _ ∧ _; exact ⟨rfl, rfl, rfl⟩)
      | refine wkG ?_
      | (show OpOk _ _ _ _ _ _ _; first | refine opB (fun b => ?_) | refine opA (fun a' c' hc1 hc2 => ?_))
      | (show GJ _ _ _ _ _ _ _; first | (apply GJ.and; exact rfl; intro hg) | (apply GJ.or; exact rfl; intro hg) | refine GJ.t omAuto ?_ | refine GJ.f omAuto ?_ | refine GJ.ft omAuto ?_ | refine GJ.ff omAuto ?_))
    exact Wk.outS Sup.auto (.refl _) hk
end
end Go.Proofs.Ytniofdklhlbphaa
