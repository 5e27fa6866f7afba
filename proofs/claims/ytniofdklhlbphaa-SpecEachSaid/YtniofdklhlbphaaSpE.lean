/- A whole specification read; the law's small. -/
import Derived.Test.YtniofdklhlbphaaSpD
namespace Go.Proofs.Ytniofdklhlbphaa
open Go Go.E
set_option linter.unusedVariables false
set_option maxRecDepth 10000
/-- Few parts. -/
def FewD (d : NodeD) : Prop := d.kids.length ≤ 100 ∧ d.fields.length ≤ 100 ∧ d.cases.length ≤ 100 ∧ d.last.length ≤ 100
def SmallS (s : SpecD) : Prop := (∀ d ∈ s.nodes, FewD d) ∧ s.nodes.length ≤ 300 ∧ s.defs.length ≤ 100
theorem read_def {ro : Ro} {cs : List Value} (h : Wf Try.prog ro 32 cs) : ∃ f : DefD, cs = defV f ∧ In64 f.type := by
  have hu := Try.underlying32
  have hl : cs.length = 2 := (Wf.struct_inv hu h).1.trans (by kernel_rfl)
  match cs, hl, h with
  | [v0, v1], _, h =>
    obtain ⟨l0, rfl, hl0⟩ := Wf.str_inv Try.underlying9 (Wf.fld (i := 0) (off := 0) (k := 1) hu h rfl rfl rfl (by kernel_rfl))
    obtain ⟨n1, rfl, w1⟩ := Wf.int_inv Try.underlying3 (Wf.fld (i := 1) (off := 1) (k := 1) hu h rfl rfl rfl (by kernel_rfl))
    exact ⟨⟨l0, n1⟩, rfl, wf_i64 w1⟩
theorem nodes_flat (l : List (NodeD × NodeA)) : (l.map fun p => nodeV p.1 p.2).flatten = nodesV (l.map (·.1)) (l.map (·.2)) := by
  induction l with
  | nil => rfl
  | cons p l ih => simp only [List.map_cons, List.flatten_cons, ih]; rfl
/-- Numbers of their kinds, all through. -/
structure SpecIn (s : SpecD) : Prop where
  nodes : ∀ d ∈ s.nodes, NodeIn d
  defs : ∀ d ∈ s.defs, In64 d.type
  names : ∀ d ∈ s.nodes, ∀ f ∈ d.fields, f.name.length ≤ reachBytes
theorem read_spec {ro : Ro} {cs : List Value} (h : Wf Try.prog ro 25 cs) : ∃ (s : SpecD) (a : SpecA), cs = specV s a ∧ SpecIn s ∧ SpecOk ro s a := by
  have hu := Try.underlying25
  have hl : cs.length = 2 := (Wf.struct_inv hu h).1.trans (by kernel_rfl)
  match cs, hl, h with
  | [v0, v1], _, h =>
    obtain ⟨na, nn, nc, ncs, rfl, nr, nl, nw⟩ := Wf.slice_inv (s := 18) Try.underlying22 (by kernel_rfl) (by omega) (Wf.fld (i := 0) (off := 0) (k := 1) hu h rfl rfl rfl (by kernel_rfl))
    obtain ⟨da, dn, dc, dcs, rfl, dr, dl, dw⟩ := Wf.slice_inv (s := 2) Try.underlying23 (by kernel_rfl) (by omega) (Wf.fld (i := 1) (off := 1) (k := 1) hu h rfl rfl rfl (by kernel_rfl))
    obtain ⟨ns, rfl, hn⟩ := all_read (V := fun p : NodeD × NodeA => nodeV p.1 p.2) (G := fun p => NodeIn p.1 ∧ NodeOk ro p.1 p.2 ∧ ∀ f ∈ p.1.fields, f.name.length ≤ reachBytes) (fun i x hx => by obtain ⟨d, x', e, g1, g2, g3⟩ := read_node (nw i x hx); exact ⟨(d, x'), e, g1, g2, g3⟩)
    obtain ⟨ds, rfl, hd⟩ := all_read (V := defV) (fun i x hx => read_def (dw i x hx))
    rw [List.length_map] at nl dl
    subst nl; subst dl
    rw [nodes_flat] at nr
    refine ⟨⟨ns.map (·.1), ds⟩, ⟨na, nc, da, dc, ns.map (·.2)⟩, by simp [specV], ⟨fun d hd' => ?_, hd, fun d hd' => ?_⟩, ⟨by simp, by simpa using nr, fun i d x g1 g2 => ?_, by rw [defsV, List.flatMap_def]; exact dr⟩⟩
    · obtain ⟨p, hp, rfl⟩ := List.mem_map.1 hd'
      exact (hn p hp).1
    · obtain ⟨p, hp, rfl⟩ := List.mem_map.1 hd'
      exact (hn p hp).2.2
    · rw [List.getElem?_map] at g1 g2
      cases hp : ns[i]? with
      | none => rw [hp] at g1; cases g1
      | some p =>
        rw [hp] at g1 g2
        cases g1; cases g2
        exact (hn p (List.mem_of_getElem? hp)).2.1
section
variable {ro : Ro} {own r : Chs} {K : Value → Ro → Chs → Prop} {g : Chunk → Chs}
set_option maxHeartbeats 1000000 in
theorem small_ok {s : SpecD} {a : SpecA} (ho : SpecOk ro s a) (h1 : ¬ SmallS s → K (.bool false) ro own) (h2 : SmallS s → K (.bool true) ro own) : CallOk Try.prog 5 #[.agg (specV s a).toArray] ro own K := by
  have hr1 := ho.nodes
  have hm1 := hr1.max
  have hle1 := hr1.le
  have hr2 := ho.defs
  have hm2 := hr2.max
  have hle2 := hr2.le
  unfold maxLen at hm1 hm2
  refine CallOk.intro (args := [_]) (rs := [_]) T_ok Try.func5 Try.call5 rfl rfl (by kernel_rfl) rfl rfl ?_
  repeat (first
    | (show _ ∧ _; exact ⟨rfl, rfl, rfl⟩)
    | refine wkG ?_
    | (show OpOk _ _ _ _ _ _ _; first | refine opB (fun b => ?_) | refine opA (fun a' c' hc1 hc2 => ?_))
    | (show GJ _ _ _ _ _ _ _; first | (apply GJ.and; exact rfl; intro hg) | (apply GJ.or; exact rfl; intro hg) | refine GJ.t omAuto ?_ | refine GJ.f omAuto ?_ | refine GJ.ft omAuto ?_ | refine GJ.ff omAuto ?_))
  refine LoopOk.at (ι := Nat) Keep.auto (fun i => [(8, .int .i64 (i : Int))]) (fun i => .blk b 25 (specV s a) :: own) (fun i => i ≤ s.nodes.length ∧ ∀ d ∈ s.nodes.take i, FewD d) (fun i => s.nodes.length - i) 0 ?_ Sub.auto Sup.auto ?_
  · exact ⟨by omega, fun d hd => by simp at hd⟩
  rintro i ⟨i1, i2⟩
  dsimp only [List.cons_append, List.nil_append]
  repeat (first
    | (show _ ∧ _; exact ⟨rfl, rfl, rfl⟩)
    | refine wkG ?_
    | (show OpOk _ _ _ _ _ _ _; first | refine opB (fun b => ?_) | refine opA (fun a' c' hc1 hc2 => ?_))
    | (show GJ _ _ _ _ _ _ _; first | (apply GJ.and; exact rfl; intro hg) | (apply GJ.or; exact rfl; intro hg) | refine GJ.t omAuto ?_ | refine GJ.f omAuto ?_ | refine GJ.ft omAuto ?_ | refine GJ.ff omAuto ?_))
  refine Br.cases (fun hg => ?_) (fun hg => ?_)
  · obtain ⟨d, hd⟩ : ∃ d, s.nodes[i]? = some d := ⟨_, List.getElem?_eq_getElem (by omega)⟩
    obtain ⟨x, hx⟩ : ∃ x, a.xs[i]? = some x := ⟨_, List.getElem?_eq_getElem (by rw [ho.len]; omega)⟩
    have hdr := nodesV_drop _ _ _ _ _ hd hx
    have ht : s.nodes.take (i + 1) = s.nodes.take i ++ [d] := by rw [List.take_add_one, hd]; rfl
    repeat (first
      | (show _ ∧ _; exact ⟨rfl, rfl, rfl⟩)
      | refine wkG ?_
      | (show OpOk _ _ _ _ _ _ _; first | refine opB (fun b => ?_) | refine opA (fun a' c' hc1 hc2 => ?_))
      | (show GJ _ _ _ _ _ _ _; first | (apply GJ.and; exact rfl; intro hg) | (apply GJ.or; exact rfl; intro hg) | refine GJ.t omAuto ?_ | refine GJ.f omAuto ?_ | refine GJ.ft omAuto ?_ | refine GJ.ff omAuto ?_))
    rw [Int.toNat_natCast]
    refine OpOk.loadRow rfl rfl (LdN.at hr1 hdr) rfl ?_
    repeat (first
      | (show _ ∧ _; exact ⟨rfl, rfl, rfl⟩)
      | refine wkG ?_
      | (show OpOk _ _ _ _ _ _ _; first | refine opB (fun b => ?_) | refine opA (fun a' c' hc1 hc2 => ?_))
      | (show GJ _ _ _ _ _ _ _; first | (apply GJ.and; exact rfl; intro hg) | (apply GJ.or; exact rfl; intro hg) | refine GJ.t omAuto ?_ | refine GJ.f omAuto ?_ | refine GJ.ft omAuto ?_ | refine GJ.ff omAuto ?_))
    refine Br.cases (fun hw => ?_) (fun hw => ?_)
    · repeat (first
        | (show _ ∧ _; exact ⟨rfl, rfl, rfl⟩)
        | refine wkG ?_
        | (show OpOk _ _ _ _ _ _ _; first | refine opB (fun b => ?_) | refine opA (fun a' c' hc1 hc2 => ?_))
        | (show GJ _ _ _ _ _ _ _; first | (apply GJ.and; exact rfl; intro hg) | (apply GJ.or; exact rfl; intro hg) | refine GJ.t omAuto ?_ | refine GJ.f omAuto ?_ | refine GJ.ft omAuto ?_ | refine GJ.ff omAuto ?_))
      refine Wk.outS Sup.auto (.refl _) (h1 fun hs => ?_)
      have := hs.1 d (List.mem_of_getElem? hd)
      unfold FewD at this
      omega
    · repeat (first
        | (show _ ∧ _; exact ⟨rfl, rfl, rfl⟩)
        | refine wkG ?_
        | (show OpOk _ _ _ _ _ _ _; first | refine opB (fun b => ?_) | refine opA (fun a' c' hc1 hc2 => ?_))
        | (show GJ _ _ _ _ _ _ _; first | (apply GJ.and; exact rfl; intro hg) | (apply GJ.or; exact rfl; intro hg) | refine GJ.t omAuto ?_ | refine GJ.f omAuto ?_ | refine GJ.ft omAuto ?_ | refine GJ.ff omAuto ?_))
      refine Wk.id ⟨i + 1, ⟨rfl, ?_⟩, ?_, Sub.auto, Sup.auto⟩
      all_goals try dsimp only
      · refine ⟨by omega, fun d' hd' => ?_⟩
        rw [ht] at hd'
        rcases List.mem_append.1 hd' with h | h
        · exact i2 d' h
        · rw [List.mem_singleton.1 h]; unfold FewD; omega
      · omega
  · obtain rfl : i = s.nodes.length := by omega
    rw [List.take_length] at i2
    repeat (first
      | (show _ ∧ _; exact ⟨rfl, rfl, rfl⟩)
      | refine wkG ?_
      | (show OpOk _ _ _ _ _ _ _; first | refine opB (fun b => ?_) | refine opA (fun a' c' hc1 hc2 => ?_))
      | (show GJ _ _ _ _ _ _ _; first | (apply GJ.and; exact rfl; intro hg) | (apply GJ.or; exact rfl; intro hg) | refine GJ.t omAuto ?_ | refine GJ.f omAuto ?_ | refine GJ.ft omAuto ?_ | refine GJ.ff omAuto ?_))
    rw [← Bool.decide_and]
    by_cases hs : ((s.nodes.length : Int) ≤ 300 ∧ (s.defs.length : Int) ≤ 100)
    · rw [decide_eq_true hs]
      exact Wk.outS Sup.auto (.refl _) (h2 ⟨i2, by omega, by omega⟩)
    · rw [decide_eq_false hs]
      exact Wk.outS Sup.auto (.refl _) (h1 fun h => hs ⟨by have := h.2.1; omega, by have := h.2.2; omega⟩)
end
end Go.Proofs.Ytniofdklhlbphaa
