/- Texts of a walk, one behind the other. -/
import Derived.Test.YtefipginoakecaaGreatDoorMg8
section
/- A whole specification read; the law's small. -/
namespace Go.Proofs.YtefipginoakecaaGreatDoor
open Go Go.E
set_option linter.unusedVariables false
set_option maxRecDepth 10000
theorem read_def {ro : Ro} {cs : List Value} (h : Wf Tryz.prog ro 46 cs) : ∃ f : DefD, cs = defV f ∧ In64 f.type ∧ f.name.length ≤ reachBytes := by
  have hu := Tryz.underlying46
  have hl : cs.length = 2 := (Wf.struct_inv hu h).1.trans (by kernel_rfl)
  match cs, hl, h with
  | [v0, v1], _, h =>
    obtain ⟨l0, rfl, hl0⟩ := Wf.str_inv Tryz.underlying9 (Wf.fld (i := 0) (off := 0) (k := 1) hu h rfl rfl rfl (by kernel_rfl))
    obtain ⟨n1, rfl, w1⟩ := Wf.int_inv Tryz.underlying3 (Wf.fld (i := 1) (off := 1) (k := 1) hu h rfl rfl rfl (by kernel_rfl))
    exact ⟨⟨l0, n1⟩, rfl, wf_i64 w1, hl0⟩
theorem nodes_flat (l : List (NodeD × NodeA)) : (l.map fun p => nodeV p.1 p.2).flatten = nodesV (l.map (·.1)) (l.map (·.2)) := by
  induction l with
  | nil => rfl
  | cons p l ih => simp only [List.map_cons, List.flatten_cons, ih]; rfl
/-- Numbers of their kinds, all through. -/
structure SpecIn (s : SpecD) : Prop where
  nodes : ∀ d ∈ s.nodes, NodeIn d
  defs : ∀ d ∈ s.defs, In64 d.type
  names : ∀ d ∈ s.nodes, ∀ f ∈ d.fields, f.name.length ≤ reachBytes
  texts : ∀ d ∈ s.nodes, d.text.length ≤ reachBytes ∧ d.ereg.length ≤ reachBytes ∧ d.reg.length ≤ reachBytes
  dnames : ∀ d ∈ s.defs, d.name.length ≤ reachBytes
theorem read_spec {ro : Ro} {cs : List Value} (h : Wf Tryz.prog ro 25 cs) : ∃ (s : SpecD) (a : SpecA), cs = specV s a ∧ SpecIn s ∧ SpecOk ro s a := by
  have hu := Tryz.underlying25
  have hl : cs.length = 2 := (Wf.struct_inv hu h).1.trans (by kernel_rfl)
  match cs, hl, h with
  | [v0, v1], _, h =>
    obtain ⟨na, nn, nc, ncs, rfl, nr, nl, nw⟩ := Wf.slice_inv (s := 18) Tryz.underlying22 (by kernel_rfl) (by omega) (Wf.fld (i := 0) (off := 0) (k := 1) hu h rfl rfl rfl (by kernel_rfl))
    obtain ⟨da, dn, dc, dcs, rfl, dr, dl, dw⟩ := Wf.slice_inv (s := 2) Tryz.underlying23 (by kernel_rfl) (by omega) (Wf.fld (i := 1) (off := 1) (k := 1) hu h rfl rfl rfl (by kernel_rfl))
    obtain ⟨ns, rfl, hn⟩ := all_read (V := fun p : NodeD × NodeA => nodeV p.1 p.2) (G := fun p => NodeIn p.1 ∧ NodeOk ro p.1 p.2 ∧ (∀ f ∈ p.1.fields, f.name.length ≤ reachBytes) ∧ p.1.text.length ≤ reachBytes ∧ p.1.ereg.length ≤ reachBytes ∧ p.1.reg.length ≤ reachBytes) (fun i x hx => by obtain ⟨d, x', e, g1, g2, g3⟩ := read_nodeT (nw i x hx); exact ⟨(d, x'), e, g1, g2, g3⟩)
    obtain ⟨ds, rfl, hd⟩ := all_read (V := defV) (fun i x hx => read_def (dw i x hx))
    rw [List.length_map] at nl dl
    subst nl; subst dl
    rw [nodes_flat] at nr
    refine ⟨⟨ns.map (·.1), ds⟩, ⟨na, nc, da, dc, ns.map (·.2)⟩, by simp [specV], ⟨fun d hd' => ?_, fun d hd' => (hd d hd').1, fun d hd' => ?_, fun d hd' => ?_, fun d hd' => (hd d hd').2⟩, ⟨by simp, by simpa using nr, fun i d x g1 g2 => ?_, by rw [defsV, List.flatMap_def]; exact dr⟩⟩
    · obtain ⟨p, hp, rfl⟩ := List.mem_map.1 hd'
      exact (hn p hp).1
    · obtain ⟨p, hp, rfl⟩ := List.mem_map.1 hd'
      exact (hn p hp).2.2.1
    · obtain ⟨p, hp, rfl⟩ := List.mem_map.1 hd'
      exact (hn p hp).2.2.2
    · rw [List.getElem?_map] at g1 g2
      cases hp : ns[i]? with
      | none => rw [hp] at g1; cases g1
      | some p =>
        rw [hp] at g1 g2
        cases g1; cases g2
        exact (hn p (List.mem_of_getElem? hp)).2.1
section
variable {ro : Ro} {own r : Chs} {K : Value → Ro → Chs → Prop} {g : Chunk → Chs}
end
end Go.Proofs.YtefipginoakecaaGreatDoor
end
section
/- Law 14: ScopeDeep. -/
namespace Go.Proofs.YtefipginoakecaaGreatDoor
open Go Go.E
set_option linter.unusedVariables false
set_option linter.unusedSectionVars false
set_option linter.unusedSimpArgs false
set_option maxRecDepth 10000
theorem TextIn.of {s : SpecD} (h : SpecIn s) : TextIn s := by
  have e : reachBytes ≤ 4611686018427387904 := by decide
  exact ⟨fun d hd f hf => Nat.le_trans (h.names d hd f hf) e, fun d hd => Nat.le_trans (h.texts d hd).1 e, fun d hd => Nat.le_trans (h.dnames d hd) e⟩
theorem scope_zero {s : SpecD} (h : scopeS s = (0, 0)) : checkD s = 0 ∧ (defsS s [] s.defs).1 = 0 ∧ depI s (rootD s) ≤ 200 := by
  unfold scopeS at h
  split at h
  · rename_i hc; exact absurd (congrArg Prod.fst h) hc
  rename_i hc
  split at h
  · rename_i hd; exact absurd (congrArg Prod.fst h) hd
  rename_i hd
  split at h
  · cases h
  · exact ⟨Decidable.of_not_not hc, Decidable.of_not_not hd, by omega⟩
section
variable {ro : Ro} {own : Chs} {K : Value → Ro → Chs → Prop} {s : SpecD} {a : SpecA}
set_option maxHeartbeats 8000000 in
theorem sdeep_law (ho : SpecOk ro s a) (hi : SpecIn s) (hS : SpOk ro) (hM : MaxOk ro) (hk : ∀ ro', K (.bool true) ro' own) : CallOk Tryz.prog 3 #[.agg (specV s a).toArray] ro own K := by
  have hT := TextIn.of hi
  have hcl : (Value.agg (specV s a).toArray).cells.toList = specV s a := rfl
  refine CallOk.intro (args := [_]) (rs := [_]) T_ok Tryz.func3 Tryz.call3 rfl rfl (by kernel_rfl) rfl rfl ?_
  repeat (first | exact endA | refine wkP ?_ | refine opB (fun b => ?_) | refine opA (fun a' c' hc1 hc2 => ?_) | (apply GJ.and; exact rfl; intro hg) | (apply GJ.or; exact rfl; intro hg))
  rw [hcl]
  obtain ⟨bS, hbS⟩ : ∃ z : Nat, z = b := ⟨_, rfl⟩
  subst hbS
  refine checks14_ok hS hM (fun ro1 hl1 => ?_)
  have ho1 := ho.lift hl1
  have hM1 := hM.le hl1
  have hk1 := hk ro1
  repeat (first | exact endA | refine wkP ?_ | refine opB (fun b => ?_) | refine opA (fun a' c' hc1 hc2 => ?_) | (apply GJ.and; exact rfl; intro hg) | (apply GJ.or; exact rfl; intro hg))
  refine small14_ok ho1 (fun hs => ?_) (fun hs => ?_)
  · repeat (first | exact endA | refine wkP ?_ | refine opB (fun b => ?_) | refine opA (fun a' c' hc1 hc2 => ?_) | (apply GJ.and; exact rfl; intro hg) | (apply GJ.or; exact rfl; intro hg))
    exact Wk.outS Sup.auto (.refl _) hk1
  by_cases h3 : s.defs.length ≤ 3
  rotate_left
  · repeat (first | exact endA | refine wkP ?_ | refine opB (fun b => ?_) | refine opA (fun a' c' hc1 hc2 => ?_) | (apply GJ.and; exact rfl; intro hg) | (apply GJ.or; exact rfl; intro hg))
    exact Wk.outS Sup.auto (.refl _) hk1
  by_cases h100 : s.nodes.length ≤ 100
  rotate_left
  · repeat (first | exact endA | refine wkP ?_ | refine opB (fun b => ?_) | refine opA (fun a' c' hc1 hc2 => ?_) | (apply GJ.and; exact rfl; intro hg) | (apply GJ.or; exact rfl; intro hg))
    exact Wk.outS Sup.auto (.refl _) hk1
  repeat (first | exact endA | refine wkP ?_ | refine opB (fun b => ?_) | refine opA (fun a' c' hc1 hc2 => ?_) | (apply GJ.and; exact rfl; intro hg) | (apply GJ.or; exact rfl; intro hg))
  refine scheck_ok ho1 hM1 hT (fun ro2 hl2 => ?_)
  have ho2 := ho1.lift hl2
  have hk2 := hk ro2
  have hz0 := scope_zero (s := s)
  generalize scopeS s = z at *
  obtain ⟨z1, z2⟩ := z
  dsimp only [flV]
  by_cases hz : z1 = 0 ∧ z2 = 0
  rotate_left
  · have hq : (decide (z1 = 0) && (decide (z2 = 0) && true)) = false := by
      rw [Bool.and_true, ← Bool.decide_and]; exact decide_eq_false hz
    repeat (first | exact endA | refine wkP ?_ | refine opB (fun b => ?_) | refine opA (fun a' c' hc1 hc2 => ?_) | (apply GJ.and; exact rfl; intro hg) | (apply GJ.or; exact rfl; intro hg))
    refine OpOk.neqStruct (q := decide (z1 = 0) && (decide (z2 = 0) && true)) rfl rfl rfl rfl (by kernel_rfl) (by kernel_rfl) (by kernel_rfl) ?_
    rw [hq]
    repeat (first | exact endA | refine wkP ?_ | refine opB (fun b => ?_) | refine opA (fun a' c' hc1 hc2 => ?_) | (apply GJ.and; exact rfl; intro hg) | (apply GJ.or; exact rfl; intro hg))
    exact Wk.outS Sup.auto (.refl _) hk2
  obtain ⟨rfl, rfl⟩ := hz
  obtain ⟨hc, hd, _⟩ := hz0 rfl
  have RK := rank_ok hc hd
  have hr1 := ho2.nodes
  have hm := hr1.max
  have hnc := hr1.le
  unfold maxLen at hm
  repeat (first | exact endA | refine wkP ?_ | refine opB (fun b => ?_) | refine opA (fun a' c' hc1 hc2 => ?_) | (apply GJ.and; exact rfl; intro hg) | (apply GJ.or; exact rfl; intro hg))
  refine OpOk.neqStruct (q := true) rfl rfl rfl (by rfl) (by kernel_rfl) (by kernel_rfl) (by kernel_rfl) ?_
  repeat (first | exact endA | refine wkP ?_ | refine opB (fun b => ?_) | refine opA (fun a' c' hc1 hc2 => ?_) | (apply GJ.and; exact rfl; intro hg) | (apply GJ.or; exact rfl; intro hg))
  refine LoopOk.at (ι := Nat) Keep.auto (fun i => [(31, .int .i64 (i : Int))]) (fun i => .blk bS 25 (specV s a) :: own) (fun i => i ≤ s.nodes.length) (fun i => s.nodes.length - i) 0 ?_ Sub.auto Sup.auto ?_
  · exact Nat.zero_le _
  rintro i i1
  dsimp only [List.cons_append, List.nil_append] at i1 ⊢
  by_cases hi : i < s.nodes.length
  · obtain ⟨t, d, ht, hd, hdk, hsame⟩ := tgt_stable RK (fuelS s) i hi (RK.lt i)
    obtain ⟨x, hx⟩ : ∃ x, a.xs[t]? = some x := ⟨_, List.getElem?_eq_getElem (by rw [ho.len]; exact (List.getElem?_eq_some_iff.1 hd).1)⟩
    obtain ⟨e, he⟩ : ∃ e, s.nodes[i]? = some e := ⟨_, List.getElem?_eq_getElem hi⟩
    obtain ⟨y, hy⟩ : ∃ y, a.xs[i]? = some y := ⟨_, List.getElem?_eq_getElem (by rw [ho.len]; exact hi)⟩
    have htl := (List.getElem?_eq_some_iff.1 hd).1
    have hgt : (nodesV s.nodes a.xs)[t * 18 + 0]? = some (.int .i64 d.kind) := by rw [node_get hd hx (by decide)]; rfl
    have hgi : (nodesV s.nodes a.xs)[i * 18 + 0]? = some (.int .i64 e.kind) := by rw [node_get he hy (by decide)]; rfl
    repeat (first | exact endA | refine wkP ?_ | refine opB (fun b => ?_) | refine opA (fun a' c' hc1 hc2 => ?_) | (apply GJ.and; exact rfl; intro hg) | (apply GJ.or; exact rfl; intro hg))
    refine target_ok ho2 RK hi ?_
    rw [ht]
    repeat (first | exact endA | refine wkP ?_ | refine opB (fun b => ?_) | refine opA (fun a' c' hc1 hc2 => ?_) | (apply GJ.and; exact rfl; intro hg) | (apply GJ.or; exact rfl; intro hg))
    rw [Int.toNat_natCast, Nat.add_assoc]
    refine OpOk.load rfl rfl (Ld.rs hr1 hgt) ?_
    repeat (first | exact endA | refine wkP ?_ | refine opB (fun b => ?_) | refine opA (fun a' c' hc1 hc2 => ?_) | (apply GJ.and; exact rfl; intro hg) | (apply GJ.or; exact rfl; intro hg))
    rw [Int.toNat_natCast, Nat.add_assoc]
    refine OpOk.load rfl rfl (Ld.rs hr1 hgi) ?_
    by_cases hek : e.kind = 13
    · repeat (first | exact endA | refine wkP ?_ | refine opB (fun b => ?_) | refine opA (fun a' c' hc1 hc2 => ?_) | (apply GJ.and; exact rfl; intro hg) | (apply GJ.or; exact rfl; intro hg))
      refine Wk.id ⟨i + 1, ⟨rfl, ?_⟩, ?_, Sub.auto, Sup.auto⟩
      all_goals try dsimp only
      · omega
      · omega
    · have hte := hsame e he hek
      repeat (first | exact endA | refine wkP ?_ | refine opB (fun b => ?_) | refine opA (fun a' c' hc1 hc2 => ?_) | (apply GJ.and; exact rfl; intro hg) | (apply GJ.or; exact rfl; intro hg))
      refine Wk.id ⟨i + 1, ⟨rfl, ?_⟩, ?_, Sub.auto, Sup.auto⟩
      all_goals try dsimp only
      · omega
      · omega
  · obtain rfl : i = s.nodes.length := by omega
    obtain ⟨r, hr, hrl⟩ := root_in hc
    repeat (first | exact endA | refine wkP ?_ | refine opB (fun b => ?_) | refine opA (fun a' c' hc1 hc2 => ?_) | (apply GJ.and; exact rfl; intro hg) | (apply GJ.or; exact rfl; intro hg))
    refine deep_ok ho2 hc RK ?_
    repeat (first | exact endA | refine wkP ?_ | refine opB (fun b => ?_) | refine opA (fun a' c' hc1 hc2 => ?_) | (apply GJ.and; exact rfl; intro hg) | (apply GJ.or; exact rfl; intro hg))
    refine root_ok ho2 ?_
    rw [hr]
    repeat (first | exact endA | refine wkP ?_ | refine opB (fun b => ?_) | refine opA (fun a' c' hc1 hc2 => ?_) | (apply GJ.and; exact rfl; intro hg) | (apply GJ.or; exact rfl; intro hg))
    refine depth_ok ho2 hc RK (rkI s r + 1) r (by omega) hrl _ _ ?_
    repeat (first | exact endA | refine wkP ?_ | refine opB (fun b => ?_) | refine opA (fun a' c' hc1 hc2 => ?_) | (apply GJ.and; exact rfl; intro hg) | (apply GJ.or; exact rfl; intro hg))
    refine target_neg ?_
    repeat (first | exact endA | refine wkP ?_ | refine opB (fun b => ?_) | refine opA (fun a' c' hc1 hc2 => ?_) | (apply GJ.and; exact rfl; intro hg) | (apply GJ.or; exact rfl; intro hg))
    exact Wk.outV Sup.auto hk2 (congrArg Value.bool (by simp))
end
end Go.Proofs.YtefipginoakecaaGreatDoor
end
section
/- Law 14: ScopeNeeded. -/
namespace Go.Proofs.YtefipginoakecaaGreatDoor
open Go Go.E
set_option linter.unusedVariables false
set_option linter.unusedSectionVars false
set_option linter.unusedSimpArgs false
set_option maxRecDepth 10000
/-- What a name's type uses are names ahead of it. -/
theorem used_ahead {s : SpecD} (hc : checkD s = 0) (hd : (defsS s [] s.defs).1 = 0) {j : Nat} {d : DefD} (hj : s.defs[j]? = some d) {x : List UInt8} (hx : x ∈ usedS s d.type) : ∃ (i : Nat) (e : DefD), i < j ∧ s.defs[i]? = some e ∧ e.name = x := by
  have hv := Ahead.of hc
  obtain ⟨g1, g2, g3⟩ := defs_ok hd List.nodup_nil
  have hk := g3 j d hj
  rw [List.nil_append] at hk
  obtain ⟨p1, p2⟩ := defs_inS hc d (List.mem_of_getElem? hj)
  obtain ⟨z, hz⟩ := Int.eq_ofNat_of_zero_le p1
  rw [hz] at hk hx p2
  obtain ⟨k, hkm, e, he, he13, hex⟩ := usedS_mem.1 hx
  have hin := kind_uses hv s.nodes.length z [] (by omega) (by omega) hk k hkm e he he13
  rw [hex] at hin
  obtain ⟨f, hf, hfx⟩ := List.mem_map.1 hin
  obtain ⟨i, hi⟩ := List.getElem?_of_mem hf
  have hij : i < j := by
    have := (List.getElem?_eq_some_iff.1 hi).1
    rw [List.length_take] at this
    omega
  rw [List.getElem?_take, if_pos hij] at hi
  exact ⟨i, f, hij, hi, hfx⟩
theorem names_inj {s : SpecD} (hd : (defsS s [] s.defs).1 = 0) {i j : Nat} {d e : DefD} (hi : s.defs[i]? = some d) (hj : s.defs[j]? = some e) (h : d.name = e.name) : i = j := by
  obtain ⟨g1, _, _⟩ := defs_ok hd List.nodup_nil
  rw [List.nil_append] at g1
  have h1 : (s.defs.map (·.name))[i]? = some d.name := by rw [List.getElem?_map, hi]; rfl
  have h2 : (s.defs.map (·.name))[j]? = some d.name := by rw [List.getElem?_map, hj, h]; rfl
  obtain ⟨l1, e1⟩ := List.getElem?_eq_some_iff.1 h1
  obtain ⟨l2, e2⟩ := List.getElem?_eq_some_iff.1 h2
  have hp := List.pairwise_iff_getElem.1 (List.nodup_iff_pairwise_ne.1 g1)
  rcases Nat.lt_trichotomy i j with h | h | h
  · exact absurd (e1.trans e2.symm) (hp i j l1 l2 h)
  · exact h
  · exact absurd (e2.trans e1.symm) (hp j i l2 l1 h)
theorem nd_mono {s : SpecD} : ∀ {k m : Nat} {x : List UInt8}, k ≤ m → x ∈ ndS s k → x ∈ ndS s m
  | k, 0, x, h, hx => by
    have : k = 0 := by omega
    subst this; exact hx
  | k, m + 1, x, h, hx => by
    by_cases e : k = m + 1
    · subst e; exact hx
    · have h1 := nd_mono (s := s) (k := k) (m := m) (by omega) hx
      rw [ndS]
      split
      · exact h1
      · unfold stepN
        split
        · exact List.mem_append.2 (.inl (List.mem_append.2 (.inl h1)))
        · exact h1
/-- What one more name brings. -/
theorem nd_step {s : SpecD} {k : Nat} {d : DefD} (hd : s.defs[s.defs.length - (k + 1)]? = some d) (x : List UInt8) : x ∈ ndS s (k + 1) ↔ x ∈ ndS s k ∨ ((k = 0 ∨ d.name ∈ ndS s k) ∧ (x = d.name ∨ x ∈ usedS s d.type)) := by
  rw [ndS, hd]
  dsimp only
  unfold stepN
  by_cases h : k = 0 ∨ d.name ∈ ndS s k
  · rw [if_pos (h.imp (fun h => decide_eq_true h) id), List.mem_append, List.mem_append, List.mem_singleton, or_assoc]
    exact ⟨fun h2 => h2.imp id (fun h3 => ⟨h, h3⟩), fun h2 => h2.imp id (fun h3 => h3.2)⟩
  · rw [if_neg (fun h2 => h (h2.imp (fun h => of_decide_eq_true h) id))]
    exact ⟨.inl, fun h2 => h2.elim id (fun h3 => absurd h3.1 h)⟩
/-- Names from some place on are no more needed by what comes ahead of them. -/
theorem nd_late {s : SpecD} (hc : checkD s = 0) (hd : (defsS s [] s.defs).1 = 0) {i : Nat} {e : DefD} (hi : s.defs[i]? = some e) : ∀ m : Nat, s.defs.length - i ≤ m → m ≤ s.defs.length → e.name ∈ ndS s m → e.name ∈ ndS s (s.defs.length - i)
  | m, h1, h2, hx => by
    have hil := (List.getElem?_eq_some_iff.1 hi).1
    by_cases h : m = s.defs.length - i
    · rw [h] at hx; exact hx
    · obtain ⟨k, rfl⟩ : ∃ k, m = k + 1 := ⟨m - 1, by omega⟩
      obtain ⟨d, hdk⟩ : ∃ d, s.defs[s.defs.length - (k + 1)]? = some d := ⟨_, List.getElem?_eq_getElem (by omega)⟩
      rcases (nd_step hdk _).1 hx with hx | ⟨_, hx | hx⟩
      · exact nd_late hc hd hi k (by omega) (by omega) hx
      · have := names_inj hd hi hdk hx
        omega
      · obtain ⟨j, f, hj, hjf, hjn⟩ := used_ahead hc hd hdk hx
        have := names_inj hd hi hjf hjn.symm
        omega
/-- A name is needed just if it is the last one, or a needed name behind it uses it. -/
theorem need_iff {s : SpecD} (hc : checkD s = 0) (hd : (defsS s [] s.defs).1 = 0) {i : Nat} {d : DefD} (hi : s.defs[i]? = some d) :
    d.name ∈ ndS s s.defs.length ↔ (i + 1 = s.defs.length ∨ ∃ (j : Nat) (e : DefD), i < j ∧ s.defs[j]? = some e ∧ e.name ∈ ndS s s.defs.length ∧ d.name ∈ usedS s e.type) := by
  have hil := (List.getElem?_eq_some_iff.1 hi).1
  -- within what is needed by names behind it
  have key : ∀ m, m ≤ s.defs.length - (i + 1) → (d.name ∈ ndS s m ↔ ∃ (j : Nat) (e : DefD), s.defs.length - m ≤ j ∧ s.defs[j]? = some e ∧ e.name ∈ ndS s s.defs.length ∧ d.name ∈ usedS s e.type) := by
    intro m
    induction m with
    | zero =>
      intro _
      refine ⟨fun h => by simp [ndS] at h, fun ⟨j, e, hj, he, _⟩ => ?_⟩
      have := (List.getElem?_eq_some_iff.1 he).1
      omega
    | succ k ih =>
      intro hk
      obtain ⟨f, hf⟩ : ∃ f, s.defs[s.defs.length - (k + 1)]? = some f := ⟨_, List.getElem?_eq_getElem (by omega)⟩
      have hneed : (k = 0 ∨ f.name ∈ ndS s k) ↔ f.name ∈ ndS s s.defs.length := by
        refine ⟨fun h => nd_mono (k := k + 1) (by omega) ((nd_step hf _).2 (.inr ⟨h, .inl rfl⟩)), fun h => ?_⟩
        have h2 := nd_late hc hd hf s.defs.length (by omega) (Nat.le_refl _) h
        rw [show s.defs.length - (s.defs.length - (k + 1)) = k + 1 by omega] at h2
        rcases (nd_step hf _).1 h2 with h3 | ⟨h3, _⟩
        · exact .inr h3
        · exact h3
      rw [nd_step hf, ih (by omega)]
      refine ⟨?_, ?_⟩
      · rintro (⟨j, e, h1, h2⟩ | ⟨h1, h2 | h2⟩)
        · exact ⟨j, e, by omega, h2⟩
        · have := names_inj hd hi hf h2
          omega
        · exact ⟨_, f, Nat.le_refl _, hf, hneed.1 h1, h2⟩
      · rintro ⟨j, e, h1, h2, h3, h4⟩
        by_cases hj : j = s.defs.length - (k + 1)
        · subst hj
          rw [hf] at h2; cases h2
          exact .inr ⟨hneed.2 h3, .inr h4⟩
        · exact .inl ⟨j, e, by omega, h2, h3, h4⟩
  have hlast : d.name ∈ ndS s s.defs.length ↔ d.name ∈ ndS s (s.defs.length - i) := ⟨nd_late hc hd hi _ (by omega) (Nat.le_refl _), nd_mono (by omega)⟩
  rw [hlast, show s.defs.length - i = (s.defs.length - (i + 1)) + 1 by omega, nd_step (by rw [show s.defs.length - (s.defs.length - (i + 1) + 1) = i by omega]; exact hi)]
  have hkk := key _ (Nat.le_refl _)
  rw [show s.defs.length - (s.defs.length - (i + 1)) = i + 1 by omega] at hkk
  refine ⟨?_, ?_⟩
  · rintro (h | ⟨h | h, _⟩)
    · obtain ⟨j, e, h1, h2⟩ := hkk.1 h
      exact .inr ⟨j, e, by omega, h2⟩
    · exact .inl (by omega)
    · obtain ⟨j, e, h1, h2⟩ := hkk.1 h
      exact .inr ⟨j, e, by omega, h2⟩
  · rintro (h | ⟨j, e, h1, h2⟩)
    · exact .inr ⟨.inl (by omega), .inl rfl⟩
    · exact .inl (hkk.2 ⟨j, e, by omega, h2⟩)
theorem needed_mem {s : SpecD} (hd : (defsS s [] s.defs).1 = 0) {i : Nat} {d : DefD} (hi : s.defs[i]? = some d) : d.name ∈ neededS s ↔ d.name ∈ ndS s s.defs.length := by
  unfold neededS
  rw [List.mem_map]
  refine ⟨fun ⟨e, he, hn⟩ => ?_, fun h => ⟨d, List.mem_filter.2 ⟨List.mem_of_getElem? hi, decide_eq_true h⟩, rfl⟩⟩
  rw [← hn]
  exact of_decide_eq_true (List.mem_filter.1 he).2
/-- The last one of them is the whole's. -/
theorem needed_last {s : SpecD} (hc : checkD s = 0) (hd : (defsS s [] s.defs).1 = 0) : ∃ l, neededS s = l ++ [(s.defs[s.defs.length - 1]?.map (·.name)).getD []] ∧ 0 < s.defs.length := by
  obtain ⟨_, _, _, _, _, _, h5, _⟩ := checkD_ok hc
  have hp : 0 < s.defs.length := by
    rcases Nat.eq_zero_or_pos s.defs.length with h | h
    · exact absurd (List.eq_nil_of_length_eq_zero h) h5
    · exact h
  obtain ⟨d, hdd⟩ : ∃ d, s.defs[s.defs.length - 1]? = some d := ⟨_, List.getElem?_eq_getElem (by omega)⟩
  have hn : d.name ∈ ndS s s.defs.length := (need_iff hc hd hdd).2 (.inl (by omega))
  have hsp : s.defs = s.defs.dropLast ++ [d] := by
    have h1 := List.dropLast_concat_getLast h5
    rw [List.getLast_eq_getElem] at h1
    have h2 : s.defs[s.defs.length - 1] = d := Option.some.inj ((List.getElem?_eq_getElem (by omega)).symm.trans hdd)
    rw [h2] at h1
    exact h1.symm
  refine ⟨((s.defs.dropLast).filter (fun d => decide (d.name ∈ ndS s s.defs.length))).map (·.name), ?_, hp⟩
  rw [hdd]
  unfold neededS
  generalize hL : s.defs.length = L at *
  conv => lhs; rw [hsp]
  rw [List.filter_append, List.map_append]
  congr 1
  simp [hn]
end Go.Proofs.YtefipginoakecaaGreatDoor
end
section
/- Law 14: ScopeNeeded, its walk. -/
namespace Go.Proofs.YtefipginoakecaaGreatDoor
open Go Go.E
set_option linter.unusedVariables false
set_option linter.unusedSectionVars false
set_option linter.unusedSimpArgs false
set_option maxRecDepth 10000
theorem defsV_cut : ∀ (l : List DefD) (k : Nat), (defsV l).drop (k * 2) = defsV (l.drop k)
  | l, 0 => rfl
  | [], k + 1 => by simp [defsV]
  | d :: l, k + 1 => by
    rw [List.drop_succ_cons, ← defsV_cut l k]
    show (defV d ++ defsV l).drop ((k + 1) * 2) = _
    rw [show (k + 1) * 2 = (defV d).length + k * 2 by show _ = 2 + _; omega, List.drop_append]
    simp
/-- Does a needed name, so far, use it? -/
def NeedU (s : SpecD) (N : List (List UInt8)) (d : DefD) (i c : Nat) (u : Bool) : Prop := u = true ↔ ∃ (j : Nat) (e : DefD), i < j ∧ j < i + 1 + c ∧ s.defs[j]? = some e ∧ e.name ∈ N ∧ d.name ∈ usedS s e.type
theorem NeedU.step {s : SpecD} {N : List (List UInt8)} {d e : DefD} {i c : Nat} {u u' : Bool} (j2 : NeedU s N d i c u) (he : s.defs[i + 1 + c]? = some e) (hu' : u' = true ↔ u = true ∨ (e.name ∈ N ∧ d.name ∈ usedS s e.type)) : NeedU s N d i (c + 1) u' := by
  unfold NeedU at j2 ⊢
  rw [hu', j2]
  refine ⟨?_, ?_⟩
  · rintro (⟨j, f, g1, g2, g3⟩ | ⟨g1, g2⟩)
    · exact ⟨j, f, g1, by omega, g3⟩
    · exact ⟨i + 1 + c, e, by omega, by omega, he, g1, g2⟩
  · rintro ⟨j, f, g1, g2, g3, g4, g5⟩
    by_cases hj : j = i + 1 + c
    · subst hj
      rw [he] at g3; cases g3
      exact .inr ⟨g4, g5⟩
    · exact .inl ⟨j, f, g1, by omega, g3, g4, g5⟩
theorem NeedU.fin {s : SpecD} {N : List (List UInt8)} {d : DefD} {i : Nat} {u : Bool} (j2 : NeedU s N d i (s.defs.length - (i + 1)) u) (hki : d.name ∈ N ↔ (i + 1 = s.defs.length ∨ ∃ (j : Nat) (e : DefD), i < j ∧ s.defs[j]? = some e ∧ e.name ∈ ndS s s.defs.length ∧ d.name ∈ usedS s e.type))
    (hmem2 : ∀ (i : Nat) (d : DefD), s.defs[i]? = some d → (d.name ∈ N ↔ d.name ∈ ndS s s.defs.length)) : decide (d.name ∈ N) = (u || decide (i + 1 = s.defs.length)) := by
  unfold NeedU at j2
  rw [Bool.eq_iff_iff, decide_eq_true_iff, hki, Bool.or_eq_true, decide_eq_true_iff, j2, or_comm]
  refine or_congr ⟨?_, ?_⟩ Iff.rfl
  · rintro ⟨j, e, g1, g2, g3, g4⟩
    have := (List.getElem?_eq_some_iff.1 g2).1
    exact ⟨j, e, g1, by omega, g2, (hmem2 j e g2).2 g3, g4⟩
  · rintro ⟨j, e, g1, g2, g3, g4, g5⟩
    exact ⟨j, e, g1, g3, (hmem2 j e g3).1 g4, g5⟩
section
variable {ro : Ro} {own : Chs} {K : Value → Ro → Chs → Prop} {s : SpecD} {a : SpecA}
set_option maxHeartbeats 8000000 in
theorem sneeded_law (ho : SpecOk ro s a) (hi : SpecIn s) (hS : SpOk ro) (hM : MaxOk ro) (hk : ∀ ro', K (.bool true) ro' own) : CallOk Tryz.prog 4 #[.agg (specV s a).toArray] ro own K := by
  have hT := TextIn.of hi
  have hcl : (Value.agg (specV s a).toArray).cells.toList = specV s a := rfl
  refine CallOk.intro (args := [_]) (rs := [_]) T_ok Tryz.func4 Tryz.call4 rfl rfl (by kernel_rfl) rfl rfl ?_
  repeat (first | exact endA | refine wkP ?_ | refine opB (fun b => ?_) | refine opA (fun a' c' hc1 hc2 => ?_) | (apply GJ.and; exact rfl; intro hg) | (apply GJ.or; exact rfl; intro hg))
  rw [hcl]
  obtain ⟨bS, hbS⟩ : ∃ z : Nat, z = b := ⟨_, rfl⟩
  subst hbS
  refine checks14_ok hS hM (fun ro1 hl1 => ?_)
  have ho1 := ho.lift hl1
  have hM1 := hM.le hl1
  have hk1 := hk ro1
  repeat (first | exact endA | refine wkP ?_ | refine opB (fun b => ?_) | refine opA (fun a' c' hc1 hc2 => ?_) | (apply GJ.and; exact rfl; intro hg) | (apply GJ.or; exact rfl; intro hg))
  refine small14_ok ho1 (fun hs => ?_) (fun hs => ?_)
  · repeat (first | exact endA | refine wkP ?_ | refine opB (fun b => ?_) | refine opA (fun a' c' hc1 hc2 => ?_) | (apply GJ.and; exact rfl; intro hg) | (apply GJ.or; exact rfl; intro hg))
    exact Wk.outS Sup.auto (.refl _) hk1
  repeat (first | exact endA | refine wkP ?_ | refine opB (fun b => ?_) | refine opA (fun a' c' hc1 hc2 => ?_) | (apply GJ.and; exact rfl; intro hg) | (apply GJ.or; exact rfl; intro hg))
  refine scheck_ok ho1 hM1 hT (fun ro2 hl2 => ?_)
  have ho2 := ho1.lift hl2
  have hk2 := hk ro2
  have hz0 := scope_zero (s := s)
  generalize scopeS s = z at *
  obtain ⟨z1, z2⟩ := z
  dsimp only [flV]
  by_cases hz : z1 = 0 ∧ z2 = 0
  rotate_left
  · have hq : (decide (z1 = 0) && (decide (z2 = 0) && true)) = false := by
      rw [Bool.and_true, ← Bool.decide_and]; exact decide_eq_false hz
    repeat (first | exact endA | refine wkP ?_ | refine opB (fun b => ?_) | refine opA (fun a' c' hc1 hc2 => ?_) | (apply GJ.and; exact rfl; intro hg) | (apply GJ.or; exact rfl; intro hg))
    refine OpOk.neqStruct (q := decide (z1 = 0) && (decide (z2 = 0) && true)) rfl rfl rfl rfl (by kernel_rfl) (by kernel_rfl) (by kernel_rfl) ?_
    rw [hq]
    repeat (first | exact endA | refine wkP ?_ | refine opB (fun b => ?_) | refine opA (fun a' c' hc1 hc2 => ?_) | (apply GJ.and; exact rfl; intro hg) | (apply GJ.or; exact rfl; intro hg))
    exact Wk.outS Sup.auto (.refl _) hk2
  obtain ⟨rfl, rfl⟩ := hz
  obtain ⟨hc, hd, _⟩ := hz0 rfl
  have hr2 := ho2.defs
  have hm := hr2.max
  have hnc := hr2.le
  unfold maxLen at hm
  obtain ⟨hnn, hnd⟩ : s.nodes.length ≤ 2048 ∧ s.defs.length ≤ 64 := by
    obtain ⟨_, _, _, _, h1, h2, _, _⟩ := checkD_ok hc
    exact ⟨h1, h2⟩
  have hdi := defs_inS hc
  clear hz0
  repeat (first | exact endA | refine wkP ?_ | refine opB (fun b => ?_) | refine opA (fun a' c' hc1 hc2 => ?_) | (apply GJ.and; exact rfl; intro hg) | (apply GJ.or; exact rfl; intro hg))
  refine OpOk.neqStruct (q := true) rfl rfl rfl (by rfl) (by kernel_rfl) (by kernel_rfl) (by kernel_rfl) ?_
  repeat (first | exact endA | refine wkP ?_ | refine opB (fun b => ?_) | refine opA (fun a' c' hc1 hc2 => ?_) | (apply GJ.and; exact rfl; intro hg) | (apply GJ.or; exact rfl; intro hg))
  refine needed_ok ho2 hc hT (fun oa oc h1 h2 => ?_)
  have h3 := h2
  unfold maxLen at h3
  obtain ⟨l, hN, hn0⟩ := needed_last hc hd
  obtain ⟨dl, hdl⟩ : ∃ d, s.defs[s.defs.length - 1]? = some d := ⟨_, List.getElem?_eq_getElem (by omega)⟩
  rw [hdl] at hN
  have hNl : (neededS s).length = l.length + 1 := by rw [hN]; simp
  have hmem := fun (i : Nat) (d : DefD) (h : s.defs[i]? = some d) => (needed_mem hd h).trans (need_iff hc hd h)
  have hmem2 := fun (i : Nat) (d : DefD) (h : s.defs[i]? = some d) => needed_mem hd h
  have hlast : (neededS s)[(((neededS s).length : Int) - 1).toNat]! = dl.name := by rw [show (((neededS s).length : Int) - 1).toNat = l.length by omega, hN]; simp
  have hmm : ((neededS s).map str).length = (neededS s).length := List.length_map ..
  generalize neededS s = N at *
  have hld : (defsV s.defs)[(s.defs.length - 1) * 2 + 0]? = some (str dl.name) := by
    have := defsV_drop s.defs (i := s.defs.length - 1) (by omega)
    rw [show s.defs[s.defs.length - 1] = dl from Option.some.inj ((List.getElem?_eq_getElem (by omega)).symm.trans hdl)] at this
    have h0 := congrArg (·[0]?) this
    simpa [defV, List.getElem?_take, List.getElem?_drop] using h0
  repeat (first | exact endA | refine wkP ?_ | refine opB (fun b => ?_) | refine opA (fun a' c' hc1 hc2 => ?_) | (apply GJ.and; exact rfl; intro hg) | (apply GJ.or; exact rfl; intro hg))
  rw [show ((s.defs.length : Int) - 1).toNat = s.defs.length - 1 by omega, Nat.add_assoc]
  refine QOk.load rfl rfl (Ld.rs hr2 hld) ?_
  rw [hlast]
  repeat (first | exact endA | refine wkP ?_ | refine opB (fun b => ?_) | refine opA (fun a' c' hc1 hc2 => ?_) | (apply GJ.and; exact rfl; intro hg) | (apply GJ.or; exact rfl; intro hg))
  refine Br.f (fun h => h rfl) ?_
  repeat (first | exact endA | refine wkP ?_ | refine opB (fun b => ?_) | refine opA (fun a' c' hc1 hc2 => ?_) | (apply GJ.and; exact rfl; intro hg) | (apply GJ.or; exact rfl; intro hg))
  clear hlast hN hNl hld hdl
  refine LoopOk.at (ι := Nat) Keep.auto (fun i => [(46, .int .i64 (i : Int))]) (fun i => .sl oa N.length oc 9 1 (N.map str) :: .blk bS 25 (specV s a) :: own) (fun i => i ≤ s.defs.length) (fun i => s.defs.length - i) 0 ?_ Sub.auto Sup.auto ?_
  · exact Nat.zero_le _
  rintro i i1
  dsimp only [List.cons_append, List.nil_append] at i1 ⊢
  by_cases hlt : i < s.defs.length
  · obtain ⟨d, hd⟩ : ∃ d, s.defs[i]? = some d := ⟨_, List.getElem?_eq_getElem hlt⟩
    have hde : s.defs[i] = d := Option.some.inj ((List.getElem?_eq_getElem hlt).symm.trans hd)
    have hdd := defsV_drop s.defs hlt
    rw [hde] at hdd
    have hcut := hr2.cut (i + 1) s.defs.length (by omega) (Nat.le_refl _)
    have hcv : ((defsV s.defs).drop ((i + 1) * 2)).take ((s.defs.length - (i + 1)) * 2) = defsV (s.defs.drop (i + 1)) := by
      rw [defsV_cut, List.take_of_length_le (by rw [defsV_len, List.length_drop]; omega)]
    rw [hcv] at hcut
    have hki : (fun _ : Unit => d.name ∈ N ↔ (i + 1 = s.defs.length ∨ ∃ (j : Nat) (e : DefD), i < j ∧ s.defs[j]? = some e ∧ e.name ∈ ndS s s.defs.length ∧ d.name ∈ usedS s e.type)) () := hmem i d hd
    repeat (first | exact endA | refine wkP ?_ | refine opB (fun b => ?_) | refine opA (fun a' c' hc1 hc2 => ?_) | (apply GJ.and; exact rfl; intro hg) | (apply GJ.or; exact rfl; intro hg))
    rw [Int.toNat_natCast]
    refine OpOk.loadRow rfl rfl (LdN.at hr2 hdd) rfl ?_
    repeat (first | exact endA | refine wkP ?_ | refine opB (fun b => ?_) | refine opA (fun a' c' hc1 hc2 => ?_) | (apply GJ.and; exact rfl; intro hg) | (apply GJ.or; exact rfl; intro hg))
    obtain ⟨bD, hbD⟩ : ∃ z : Nat, z = b := ⟨_, rfl⟩
    subst hbD
    rw [show ((i : Int) + 1).toNat = i + 1 by omega, Int.toNat_natCast]
    refine LoopOk.at (ι := Nat × Bool) Keep.auto (fun (c, u) => [(57, .int .i64 (c : Int)), (6, .bool u)]) (fun (c, u) => .blk bD 46 (defV d) :: .sl oa N.length oc 9 1 (N.map str) :: .blk bS 25 (specV s a) :: own) (fun (c, u) => c ≤ s.defs.length - (i + 1) ∧ NeedU s N d i c u) (fun (c, u) => s.defs.length - (i + 1) - c) (0, false) ?_ Sub.auto Sup.auto ?_
    · exact ⟨Nat.zero_le _, by unfold NeedU; simp; omega⟩
    rintro ⟨c, u⟩ ⟨j1, j2⟩
    dsimp only [List.cons_append, List.nil_append] at j1 j2 ⊢
    by_cases hcl2 : c < s.defs.length - (i + 1)
    · obtain ⟨e, he⟩ : ∃ e, s.defs[i + 1 + c]? = some e := ⟨_, List.getElem?_eq_getElem (by omega)⟩
      have hee : (s.defs.drop (i + 1))[c]? = some e := by rw [List.getElem?_drop]; exact he
      have hlc : c < (s.defs.drop (i + 1)).length := by rw [List.length_drop]; exact hcl2
      have hed := defsV_drop (s.defs.drop (i + 1)) hlc
      rw [show (s.defs.drop (i + 1))[c] = e from Option.some.inj ((List.getElem?_eq_getElem hlc).symm.trans hee)] at hed
      have hemem := List.mem_of_getElem? he
      obtain ⟨q1, q2⟩ := hdi e hemem
      obtain ⟨y, hy0⟩ := Int.eq_ofNat_of_zero_le q1
      have hpl := pre_len hc hemem
      have hstep := fun u' => j2.step (u' := u') he
      repeat (first | exact endA | refine wkP ?_ | refine opB (fun b => ?_) | refine opA (fun a' c' hc1 hc2 => ?_) | (apply GJ.and; exact rfl; intro hg) | (apply GJ.or; exact rfl; intro hg))
      rw [Int.toNat_natCast]
      refine OpOk.loadRow rfl rfl (LdN.at hcut hed) rfl ?_
      cases u with
      | true =>
        have hs := hstep true (by simp)
        repeat (first | exact endA | refine wkP ?_ | refine opB (fun b => ?_) | refine opA (fun a' c' hc1 hc2 => ?_) | (apply GJ.and; exact rfl; intro hg) | (apply GJ.or; exact rfl; intro hg))
        refine Wk.id ⟨(c + 1, true), ⟨rfl, ?_⟩, ?_, Sub.auto, Sup.auto⟩
        all_goals try dsimp only
        · exact ⟨by omega, hs⟩
        · omega
      | false =>
        by_cases hin : e.name ∈ N
        · repeat (first | exact endA | refine wkP ?_ | refine opB (fun b => ?_) | refine opA (fun a' c' hc1 hc2 => ?_) | (apply GJ.and; exact rfl; intro hg) | (apply GJ.or; exact rfl; intro hg))
          refine containsT_ok Rds.auto rfl ?_
          rw [decide_eq_true hin]
          repeat (first | exact endA | refine wkP ?_ | refine opB (fun b => ?_) | refine opA (fun a' c' hc1 hc2 => ?_) | (apply GJ.and; exact rfl; intro hg) | (apply GJ.or; exact rfl; intro hg))
          rw [hy0] at hpl hstep ⊢
          refine used_ok ho2 hc hT (i := y) (by omega) (by omega) (fun oa2 oc2 g1 g2 => ?_)
          have g3 := g2
          unfold maxLen at g3
          have hull : ((usedS s (y : Int)).map str).length = (usedS s (y : Int)).length := List.length_map ..
          have hs := hstep (decide (d.name ∈ usedS s (y : Int))) (by simp [hin])
          generalize usedS s (y : Int) = us at *
          repeat (first | exact endA | refine wkP ?_ | refine opB (fun b => ?_) | refine opA (fun a' c' hc1 hc2 => ?_) | (apply GJ.and; exact rfl; intro hg) | (apply GJ.or; exact rfl; intro hg))
          refine containsT_ok Rds.auto rfl ?_
          generalize decide (d.name ∈ us) = v at *
          repeat (first | exact endA | refine wkP ?_ | refine opB (fun b => ?_) | refine opA (fun a' c' hc1 hc2 => ?_) | (apply GJ.and; exact rfl; intro hg) | (apply GJ.or; exact rfl; intro hg))
          refine Wk.id ⟨(c + 1, v), ⟨rfl, ?_⟩, ?_, Sub.auto, Sup.auto⟩
          all_goals try dsimp only
          · exact ⟨by omega, hs⟩
          · omega
        · have hs := hstep false (by simp [hin])
          repeat (first | exact endA | refine wkP ?_ | refine opB (fun b => ?_) | refine opA (fun a' c' hc1 hc2 => ?_) | (apply GJ.and; exact rfl; intro hg) | (apply GJ.or; exact rfl; intro hg))
          refine containsT_ok Rds.auto rfl ?_
          rw [decide_eq_false hin]
          repeat (first | exact endA | refine wkP ?_ | refine opB (fun b => ?_) | refine opA (fun a' c' hc1 hc2 => ?_) | (apply GJ.and; exact rfl; intro hg) | (apply GJ.or; exact rfl; intro hg))
          refine Wk.id ⟨(c + 1, false), ⟨rfl, ?_⟩, ?_, Sub.auto, Sup.auto⟩
          all_goals try dsimp only
          · exact ⟨by omega, hs⟩
          · omega
    · obtain rfl : c = s.defs.length - (i + 1) := by omega
      have hfin := j2.fin hki hmem2
      repeat (first | exact endA | refine wkP ?_ | refine opB (fun b => ?_) | refine opA (fun a' c' hc1 hc2 => ?_) | (apply GJ.and; exact rfl; intro hg) | (apply GJ.or; exact rfl; intro hg))
      refine containsT_ok Rds.auto rfl ?_
      rw [hfin]
      cases u with
      | true =>
        clear hki hfin j2
        repeat (first | exact endA | refine wkP ?_ | refine opB (fun b => ?_) | refine opA (fun a' c' hc1 hc2 => ?_) | (apply GJ.and; exact rfl; intro hg) | (apply GJ.or; exact rfl; intro hg))
        refine Br.f (fun h => h (by simp)) ?_
        repeat (first | exact endA | refine wkP ?_ | refine opB (fun b => ?_) | refine opA (fun a' c' hc1 hc2 => ?_) | (apply GJ.and; exact rfl; intro hg) | (apply GJ.or; exact rfl; intro hg))
        refine Wk.id ⟨i + 1, ⟨rfl, ?_⟩, ?_, Sub.auto, Sup.auto⟩
        all_goals try dsimp only
        · omega
        · omega
      | false =>
        clear hki hfin j2
        by_cases hie : i + 1 = s.defs.length
        · rw [decide_eq_true hie]
          repeat (first | exact endA | refine wkP ?_ | refine opB (fun b => ?_) | refine opA (fun a' c' hc1 hc2 => ?_) | (apply GJ.and; exact rfl; intro hg) | (apply GJ.or; exact rfl; intro hg))
          refine Br.f (fun h => h (by simp <;> omega)) ?_
          repeat (first | exact endA | refine wkP ?_ | refine opB (fun b => ?_) | refine opA (fun a' c' hc1 hc2 => ?_) | (apply GJ.and; exact rfl; intro hg) | (apply GJ.or; exact rfl; intro hg))
          refine Wk.id ⟨i + 1, ⟨rfl, ?_⟩, ?_, Sub.auto, Sup.auto⟩
          all_goals try dsimp only
          · omega
          · omega
        · rw [decide_eq_false hie]
          repeat (first | exact endA | refine wkP ?_ | refine opB (fun b => ?_) | refine opA (fun a' c' hc1 hc2 => ?_) | (apply GJ.and; exact rfl; intro hg) | (apply GJ.or; exact rfl; intro hg))
          refine Br.f (fun h => h (by simp <;> omega)) ?_
          repeat (first | exact endA | refine wkP ?_ | refine opB (fun b => ?_) | refine opA (fun a' c' hc1 hc2 => ?_) | (apply GJ.and; exact rfl; intro hg) | (apply GJ.or; exact rfl; intro hg))
          refine Wk.id ⟨i + 1, ⟨rfl, ?_⟩, ?_, Sub.auto, Sup.auto⟩
          all_goals try dsimp only
          · omega
          · omega
  · obtain rfl : i = s.defs.length := by omega
    repeat (first | exact endA | refine wkP ?_ | refine opB (fun b => ?_) | refine opA (fun a' c' hc1 hc2 => ?_) | (apply GJ.and; exact rfl; intro hg) | (apply GJ.or; exact rfl; intro hg))
    exact Wk.outS Sup.auto (.refl _) hk2
end
end Go.Proofs.YtefipginoakecaaGreatDoor
end
