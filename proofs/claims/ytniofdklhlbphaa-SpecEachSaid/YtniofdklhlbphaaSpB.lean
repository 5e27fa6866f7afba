/- What the laws of spec build first, one contract. -/
import Derived.Test.YtniofdklhlbphaaSpA
namespace Go.Proofs.Ytniofdklhlbphaa
open Go Go.E
set_option linter.unusedVariables false
set_option maxRecDepth 10000
theorem CallOk.sup {P : Program} {f : FuncId} {args : Array Value} {ro : Ro} {own own0 : Chs} {K : Value → Ro → Chs → Prop} (hs : Sup own own0) (h : CallOk P f args ro own0 K) : CallOk P f args ro own K := ⟨fun w hw => h.run w (hw.sup hs)⟩
def node0 : NodeD := ⟨0, 0, false, false, false, 0, 0, [], [], 0, 0, [], [], [], [], 0, [], 0⟩
def node1 : NodeD := { node0 with kind := 1, width := 1, max := 9 }
def node2 : NodeD := { node0 with kind := 4, ereg := [110], emul := 1 }
def node3 : NodeD := { node0 with kind := 5, fields := [⟨[110], 0, 1, [100], []⟩, ⟨[100], 1, 0, [], []⟩] }
def spec3 : SpecD := ⟨[node1, node2, node3], [⟨[109, 97, 105, 110], 2⟩]⟩
def at0 : NodeA := ⟨none, 0, none, 0, none, 0, none, 0⟩
theorem spec3_check : checkD spec3 = 0 := by decide +kernel
section
variable {ro : Ro} {own r : Chs} {K : Value → Ro → Chs → Prop} {g : Chunk → Chs}
theorem rs_nil {s : Nat} {cs : List Value} (h : cs = []) : Rs ro none 0 0 s cs := Rs.last (t := 0) (by rw [h]; exact ⟨(Nat.zero_mul s).symm, Nat.le_refl _, Nat.zero_le _, .inl ⟨rfl, rfl, rfl⟩⟩)
theorem BuildOk.le {ro' : Ro} {s : SpecD} {a : SpecA} (h : BuildOk ro s a) (hl : Le ro ro') : BuildOk ro' s a := ⟨h.len, fun i d x g1 g2 => (h.each i d x g1 g2).le hl, h.nc, h.dc⟩
theorem SpecOk.le {ro' : Ro} {s : SpecD} {a : SpecA} (h : SpecOk ro s a) (hl : Le ro ro') : SpecOk ro' s a := ⟨h.len, h.nodes.up, fun i d x g1 g2 => (h.each i d x g1 g2).le hl, h.defs.up⟩
theorem at0_ok (d : NodeD) (h1 : d.kids = []) (h2 : d.last = []) (h3 : d.fields = []) (h4 : d.cases = []) : NodeOk ro d at0 := by
  refine ⟨?_, ?_, ?_, ?_⟩
  · rw [h1]; exact rs_nil (cs := kidsV []) rfl
  · rw [h2]; exact rs_nil (cs := lastV []) rfl
  · rw [h3]; exact rs_nil (cs := fieldsV []) rfl
  · rw [h4]; exact rs_nil (cs := casesV []) rfl
theorem small_of {d : NodeD} (h : d.kids.length + d.last.length + d.fields.length + d.cases.length ≤ 1000) : NodeSm d := ⟨by omega, by omega, by omega, by omega⟩
theorem badd_at {p : Nat} {i : Int} {s : SpecD} {a : SpecA} {d : NodeD} {x : NodeA} (hb : BuildOk ro s a) (hx : NodeOk ro d x) (hs : NodeSm d) (hn : s.nodes.length < 2048) (hi : ((s.nodes.length : Nat) : Int) = i)
    (hk : ∀ ro' na' nc' x', Le ro ro' → BuildOk ro' ⟨s.nodes ++ [d], s.defs⟩ ⟨na', nc', a.da, a.dc, a.xs ++ [x']⟩ → K (.tuple #[.int .i64 i, .int .i64 0]) ro' (.blk p 39 (specV ⟨s.nodes ++ [d], s.defs⟩ ⟨na', nc', a.da, a.dc, a.xs ++ [x']⟩) :: .sl na' (s.nodes ++ [d]).length nc' 49 18 (nodesV (s.nodes ++ [d]) (a.xs ++ [x'])) :: .sl a.da s.defs.length a.dc 32 2 (defsV s.defs) :: r)) :
    CallOk Try.prog 12 #[ptr' p, .agg (nodeV d x).toArray] ro (.blk p 39 (specV s a) :: .sl a.na s.nodes.length a.nc 49 18 (nodesV s.nodes a.xs) :: .sl a.da s.defs.length a.dc 32 2 (defsV s.defs) :: r) K := badd_ok hb hx hs hn (by rw [hi]; exact hk)
set_option maxHeartbeats 4000000 in
theorem builds_ok (hk : ∀ ro', Le ro ro' → K (.bool true) ro' own) : CallOk Try.prog 4 #[] ro own K := by
  refine CallOk.intro (args := []) (rs := [_]) T_ok Try.func4 Try.call4 rfl rfl (by kernel_rfl) rfl rfl ?_
  repeat (first
    | (show _ ∧ _; exact ⟨rfl, rfl, rfl⟩)
    | refine wkT ?_
    | (show OpOk _ _ _ _ _ _ _; first | refine opB (fun b => ?_) | refine opA (fun a' c' hc1 hc2 => ?_))
    | (show GJ _ _ _ _ _ _ _; first | (apply GJ.and; exact rfl; intro hg) | (apply GJ.or; exact rfl; intro hg)))
  refine CallOk.sup (own0 := .blk b 39 (specV ⟨[], []⟩ ⟨none, 0, none, 0, []⟩) :: .sl none 0 0 49 18 [] :: .sl none 0 0 32 2 [] :: own) Sup.auto ?_
  refine badd_at (i := 0) (s := ⟨[], []⟩) (a := ⟨none, 0, none, 0, []⟩) (d := node1) (x := at0) ⟨rfl, fun i d x h => by simp at h, ⟨Nat.le_refl _, Nat.zero_le _⟩, ⟨Nat.le_refl _, Nat.zero_le _⟩⟩ (at0_ok _ rfl rfl rfl rfl) (small_of (by decide)) (by simp) rfl (fun ro1 na1 nc1 x1 hl1 hb1 => ?_)
  dsimp only [List.nil_append] at hb1
  repeat (first
    | (show _ ∧ _; exact ⟨rfl, rfl, rfl⟩)
    | refine wkT ?_
    | (show OpOk _ _ _ _ _ _ _; first | refine opB (fun b => ?_) | refine opA (fun a' c' hc1 hc2 => ?_))
    | (show GJ _ _ _ _ _ _ _; first | (apply GJ.and; exact rfl; intro hg) | (apply GJ.or; exact rfl; intro hg)))
  refine CallOk.sup (own0 := .blk b 39 (specV ⟨[node1], []⟩ ⟨na1, nc1, none, 0, [x1]⟩) :: .sl na1 1 nc1 49 18 (nodesV [node1] [x1]) :: .sl none 0 0 32 2 [] :: own) Sup.auto ?_
  refine badd_at (i := 1) (s := ⟨[node1], []⟩) (a := ⟨na1, nc1, none, 0, [x1]⟩) (d := node2) (x := at0) hb1 (at0_ok _ rfl rfl rfl rfl) (small_of (by decide)) (by simp) rfl (fun ro2 na2 nc2 x2 hl2 hb2 => ?_)
  dsimp only [List.nil_append, List.cons_append] at hb2
  repeat (first
    | (show _ ∧ _; exact ⟨rfl, rfl, rfl⟩)
    | refine wkT ?_
    | (show OpOk _ _ _ _ _ _ _; first | refine opB (fun b => ?_) | refine opA (fun a' c' hc1 hc2 => ?_))
    | (show GJ _ _ _ _ _ _ _; first | (apply GJ.and; exact rfl; intro hg) | (apply GJ.or; exact rfl; intro hg)))
  rename_i p
  refine CallOk.sup (own0 := .sl (some ⟨b, 0, none⟩) 2 2 51 5 (fieldsV node3.fields) :: .blk p 39 (specV ⟨[node1, node2], []⟩ ⟨na2, nc2, none, 0, [x1, x2]⟩) :: .sl na2 2 nc2 49 18 (nodesV [node1, node2] [x1, x2]) :: .sl none 0 0 32 2 [] :: own) Sup.auto ?_
  refine CallOk.freeze (c := .sl (some ⟨b, 0, none⟩) 2 2 51 5 (fieldsV node3.fields)) Take.auto (fun ro3 hl3 hc3 => ?_)
  have hn3 : NodeOk ro3 node3 ⟨none, 0, none, 0, some ⟨b, 0, none⟩, 2, none, 0⟩ := ⟨rs_nil (cs := kidsV []) rfl, rs_nil (cs := lastV []) rfl, Rs.last hc3, rs_nil (cs := casesV []) rfl⟩
  refine badd_at (i := 2) (s := ⟨[node1, node2], []⟩) (a := ⟨na2, nc2, none, 0, [x1, x2]⟩) (d := node3) (x := ⟨none, 0, none, 0, some ⟨b, 0, none⟩, 2, none, 0⟩) (hb2.le hl3) hn3 (small_of (by decide)) (by simp) rfl (fun ro4 na4 nc4 x4 hl4 hb4 => ?_)
  dsimp only [List.nil_append, List.cons_append] at hb4
  repeat (first
    | (show _ ∧ _; exact ⟨rfl, rfl, rfl⟩)
    | refine wkT ?_
    | (show OpOk _ _ _ _ _ _ _; first | refine opB (fun b => ?_) | refine opA (fun a' c' hc1 hc2 => ?_))
    | (show GJ _ _ _ _ _ _ _; first | (apply GJ.and; exact rfl; intro hg) | (apply GJ.or; exact rfl; intro hg)))
  refine CallOk.sup (own0 := .blk p 39 (specV ⟨[node1, node2, node3], []⟩ ⟨na4, nc4, none, 0, [x1, x2, x4]⟩) :: .sl na4 3 nc4 49 18 (nodesV [node1, node2, node3] [x1, x2, x4]) :: .sl none 0 0 32 2 [] :: own) Sup.auto ?_
  refine bname_ok (s := ⟨[node1, node2, node3], []⟩) (a := ⟨na4, nc4, none, 0, [x1, x2, x4]⟩) (d := ⟨[109, 97, 105, 110], 2⟩) hb4 (by simp) (fun da5 dc5 hb5 => ?_)
  dsimp only [List.nil_append, List.cons_append] at hb5
  repeat (first
    | (show _ ∧ _; exact ⟨rfl, rfl, rfl⟩)
    | refine wkT ?_
    | (show OpOk _ _ _ _ _ _ _; first | refine opB (fun b => ?_) | refine opA (fun a' c' hc1 hc2 => ?_))
    | (show GJ _ _ _ _ _ _ _; first | (apply GJ.and; exact rfl; intro hg) | (apply GJ.or; exact rfl; intro hg)))
  refine CallOk.sup (own0 := .blk p 39 (specV spec3 ⟨na4, nc4, da5, dc5, [x1, x2, x4]⟩) :: .sl na4 3 nc4 49 18 (nodesV [node1, node2, node3] [x1, x2, x4]) :: .sl da5 1 dc5 32 2 (defsV spec3.defs) :: own) Sup.auto ?_
  refine CallOk.lastly (Q := fun v l => ∃ a' ks, a'.xs.length = spec3.nodes.length ∧ ks.length = spec3.nodes.length ∧ NodesClip spec3.nodes a'.xs ∧ v = .tuple #[.agg (specV spec3 a').toArray, .int .i64 0] ∧ l = specC spec3 a' ks) (bspec_ok (s := spec3) (a := ⟨na4, nc4, da5, dc5, [x1, x2, x4]⟩) hb5 ⟨by decide, by decide⟩ (fun d hd => ?_) (fun h => absurd spec3_check h) (fun _ a' ks h1 h2 h3 _ _ => ⟨rfl, _, rfl, a', ks, h1, h2, h3, rfl, rfl⟩)) (fun ro5 v l hl5 hh ⟨a', ks, h1, h2, h3, hv, he⟩ => ?_)
  · simp only [spec3, List.mem_cons, List.not_mem_nil, or_false] at hd
    rcases hd with rfl | rfl | rfl <;> exact small_of (by decide)
  subst hv; subst he
  have hso : SpecOk ro5 spec3 a' := SpecOk.made h1 h2 h3 hh
  repeat (first
    | (show _ ∧ _; exact ⟨rfl, rfl, rfl⟩)
    | refine wkT ?_
    | (show OpOk _ _ _ _ _ _ _; first | refine opB (fun b => ?_) | refine opA (fun a' c' hc1 hc2 => ?_))
    | (show GJ _ _ _ _ _ _ _; first | (apply GJ.and; exact rfl; intro hg) | (apply GJ.or; exact rfl; intro hg)))
  refine Bs.mk ⟨[.blk b 25 (specV spec3 a')], Sup.auto, ?_⟩
  repeat (first
    | (show _ ∧ _; exact ⟨rfl, rfl, rfl⟩)
    | refine wkU ?_
    | (show QOk _ _ _ _ _ _ _; refine QOk.build rfl rfl Nf.auto ?_)
    | (show GJ _ _ _ _ _ _ _; first | with_reducible refine GJ.neF ?_ | with_reducible refine GJ.neT ?_)
    | (show Br _ _ _; with_reducible refine Br.ne ?_)
    | (show OpOk _ _ _ _ _ _ _; first | refine opB (fun b => ?_) | refine opA (fun a' c' hc1 hc2 => ?_))
    | (show GJ _ _ _ _ _ _ _; first | (apply GJ.and; exact rfl; intro hg) | (apply GJ.or; exact rfl; intro hg)))
  refine root_ok hso ?_
  rw [show rootD spec3 = 2 by decide]
  repeat (first
    | (show _ ∧ _; exact ⟨rfl, rfl, rfl⟩)
    | refine wkU ?_
    | (show QOk _ _ _ _ _ _ _; refine QOk.build rfl rfl Nf.auto ?_)
    | (show GJ _ _ _ _ _ _ _; first | with_reducible refine GJ.neF ?_ | with_reducible refine GJ.neT ?_)
    | (show Br _ _ _; with_reducible refine Br.ne ?_)
    | (show OpOk _ _ _ _ _ _ _; first | refine opB (fun b => ?_) | refine opA (fun a' c' hc1 hc2 => ?_))
    | (show GJ _ _ _ _ _ _ _; first | (apply GJ.and; exact rfl; intro hg) | (apply GJ.or; exact rfl; intro hg)))
  refine def_ok (name := [109, 97, 105, 110]) hso ?_
  rw [show defD spec3.defs [109, 97, 105, 110] = 2 by decide]
  repeat (first
    | (show _ ∧ _; exact ⟨rfl, rfl, rfl⟩)
    | refine wkU ?_
    | (show QOk _ _ _ _ _ _ _; refine QOk.build rfl rfl Nf.auto ?_)
    | (show GJ _ _ _ _ _ _ _; first | with_reducible refine GJ.neF ?_ | with_reducible refine GJ.neT ?_)
    | (show Br _ _ _; with_reducible refine Br.ne ?_)
    | (show OpOk _ _ _ _ _ _ _; first | refine opB (fun b => ?_) | refine opA (fun a' c' hc1 hc2 => ?_))
    | (show GJ _ _ _ _ _ _ _; first | (apply GJ.and; exact rfl; intro hg) | (apply GJ.or; exact rfl; intro hg)))
  refine def_ok (name := [120]) hso ?_
  rw [show defD spec3.defs [120] = -1 by decide]
  repeat (first
    | (show _ ∧ _; exact ⟨rfl, rfl, rfl⟩)
    | refine wkU ?_
    | (show QOk _ _ _ _ _ _ _; refine QOk.build rfl rfl Nf.auto ?_)
    | (show GJ _ _ _ _ _ _ _; first | with_reducible refine GJ.neF ?_ | with_reducible refine GJ.neT ?_)
    | (show Br _ _ _; with_reducible refine Br.ne ?_)
    | (show OpOk _ _ _ _ _ _ _; first | refine opB (fun b => ?_) | refine opA (fun a' c' hc1 hc2 => ?_))
    | (show GJ _ _ _ _ _ _ _; first | (apply GJ.and; exact rfl; intro hg) | (apply GJ.or; exact rfl; intro hg)))
  refine sclone_last hso ⟨by decide, by decide⟩ (fun d hd => ?_) (fun ro6 a6 hl6 ho6 => ?_)
  · simp only [spec3, List.mem_cons, List.not_mem_nil, or_false] at hd
    rcases hd with rfl | rfl | rfl <;> exact small_of (by decide)
  have hso6 := hso.le hl6
  have hr6 := hso6.nodes
  have e3 : spec3.nodes.length = 3 := rfl
  obtain ⟨y1, y2, y3, hy⟩ : ∃ y1 y2 y3, a'.xs = [y1, y2, y3] := by
    match h : a'.xs, h1 with
    | [y1, y2, y3], _ => exact ⟨y1, y2, y3, rfl⟩
  have hd1 : ((nodesV spec3.nodes a'.xs).drop (0 * 18)).take 18 = nodeV node1 y1 := nodesV_drop _ _ _ _ _ rfl (by rw [hy]; rfl)
  have hd3 : ((nodesV spec3.nodes a'.xs).drop (2 * 18)).take 18 = nodeV node3 y3 := nodesV_drop _ _ _ _ _ rfl (by rw [hy]; rfl)
  have hn3' : NodeOk ro6 node3 y3 := hso6.each 2 node3 y3 rfl (by rw [hy]; rfl)
  repeat (first
    | (show _ ∧ _; exact ⟨rfl, rfl, rfl⟩)
    | refine wkU ?_
    | (show QOk _ _ _ _ _ _ _; refine QOk.build rfl rfl Nf.auto ?_)
    | (show GJ _ _ _ _ _ _ _; first | with_reducible refine GJ.neF ?_ | with_reducible refine GJ.neT ?_)
    | (show Br _ _ _; with_reducible refine Br.ne ?_)
    | (show OpOk _ _ _ _ _ _ _; first | refine opB (fun b => ?_) | refine opA (fun a' c' hc1 hc2 => ?_))
    | (show GJ _ _ _ _ _ _ _; first | (apply GJ.and; exact rfl; intro hg) | (apply GJ.or; exact rfl; intro hg)))
  refine msame_ok hso6 ho6 (Ahead.of spec3_check) (by decide) ?_
  repeat (first
    | (show _ ∧ _; exact ⟨rfl, rfl, rfl⟩)
    | refine wkU ?_
    | (show QOk _ _ _ _ _ _ _; refine QOk.build rfl rfl Nf.auto ?_)
    | (show GJ _ _ _ _ _ _ _; first | with_reducible refine GJ.neF ?_ | with_reducible refine GJ.neT ?_)
    | (show Br _ _ _; with_reducible refine Br.ne ?_)
    | (show OpOk _ _ _ _ _ _ _; first | refine opB (fun b => ?_) | refine opA (fun a' c' hc1 hc2 => ?_))
    | (show GJ _ _ _ _ _ _ _; first | (apply GJ.and; exact rfl; intro hg) | (apply GJ.or; exact rfl; intro hg)))
  refine QOk.loadRow rfl rfl (LdN.at hr6 hd1) rfl ?_
  repeat (first
    | (show _ ∧ _; exact ⟨rfl, rfl, rfl⟩)
    | refine wkU ?_
    | (show QOk _ _ _ _ _ _ _; refine QOk.build rfl rfl Nf.auto ?_)
    | (show GJ _ _ _ _ _ _ _; first | with_reducible refine GJ.neF ?_ | with_reducible refine GJ.neT ?_)
    | (show Br _ _ _; with_reducible refine Br.ne ?_)
    | (show OpOk _ _ _ _ _ _ _; first | refine opB (fun b => ?_) | refine opA (fun a' c' hc1 hc2 => ?_))
    | (show GJ _ _ _ _ _ _ _; first | (apply GJ.and; exact rfl; intro hg) | (apply GJ.or; exact rfl; intro hg)))
  refine smost_ok ?_
  rw [show mostD node1 = 255 by decide]
  repeat (first
    | (show _ ∧ _; exact ⟨rfl, rfl, rfl⟩)
    | refine wkU ?_
    | (show QOk _ _ _ _ _ _ _; refine QOk.build rfl rfl Nf.auto ?_)
    | (show GJ _ _ _ _ _ _ _; first | with_reducible refine GJ.neF ?_ | with_reducible refine GJ.neT ?_)
    | (show Br _ _ _; with_reducible refine Br.ne ?_)
    | (show OpOk _ _ _ _ _ _ _; first | refine opB (fun b => ?_) | refine opA (fun a' c' hc1 hc2 => ?_))
    | (show GJ _ _ _ _ _ _ _; first | (apply GJ.and; exact rfl; intro hg) | (apply GJ.or; exact rfl; intro hg)))
  refine QOk.loadRow rfl rfl (LdN.at hr6 hd1) rfl ?_
  repeat (first
    | (show _ ∧ _; exact ⟨rfl, rfl, rfl⟩)
    | refine wkU ?_
    | (show QOk _ _ _ _ _ _ _; refine QOk.build rfl rfl Nf.auto ?_)
    | (show GJ _ _ _ _ _ _ _; first | with_reducible refine GJ.neF ?_ | with_reducible refine GJ.neT ?_)
    | (show Br _ _ _; with_reducible refine Br.ne ?_)
    | (show OpOk _ _ _ _ _ _ _; first | refine opB (fun b => ?_) | refine opA (fun a' c' hc1 hc2 => ?_))
    | (show GJ _ _ _ _ _ _ _; first | (apply GJ.and; exact rfl; intro hg) | (apply GJ.or; exact rfl; intro hg)))
  refine number_ok ?_
  rw [show decide (node1.kind = 1 ∨ node1.kind = 2) = true by decide]
  repeat (first
    | (show _ ∧ _; exact ⟨rfl, rfl, rfl⟩)
    | refine wkU ?_
    | (show QOk _ _ _ _ _ _ _; refine QOk.build rfl rfl Nf.auto ?_)
    | (show GJ _ _ _ _ _ _ _; first | with_reducible refine GJ.neF ?_ | with_reducible refine GJ.neT ?_)
    | (show Br _ _ _; with_reducible refine Br.ne ?_)
    | (show OpOk _ _ _ _ _ _ _; first | refine opB (fun b => ?_) | refine opA (fun a' c' hc1 hc2 => ?_))
    | (show GJ _ _ _ _ _ _ _; first | (apply GJ.and; exact rfl; intro hg) | (apply GJ.or; exact rfl; intro hg)))
  refine QOk.loadRow rfl rfl (LdN.at hr6 hd3) rfl ?_
  repeat (first
    | (show _ ∧ _; exact ⟨rfl, rfl, rfl⟩)
    | refine wkU ?_
    | (show QOk _ _ _ _ _ _ _; refine QOk.build rfl rfl Nf.auto ?_)
    | (show GJ _ _ _ _ _ _ _; first | with_reducible refine GJ.neF ?_ | with_reducible refine GJ.neT ?_)
    | (show Br _ _ _; with_reducible refine Br.ne ?_)
    | (show OpOk _ _ _ _ _ _ _; first | refine opB (fun b => ?_) | refine opA (fun a' c' hc1 hc2 => ?_))
    | (show GJ _ _ _ _ _ _ _; first | (apply GJ.and; exact rfl; intro hg) | (apply GJ.or; exact rfl; intro hg)))
  refine kids_ok hn3' (by decide) (fun a7 n7 c7 g1 g2 g3 => ?_)
  obtain rfl : n7 = 2 := g1
  repeat (first
    | (show _ ∧ _; exact ⟨rfl, rfl, rfl⟩)
    | refine wkU ?_
    | (show QOk _ _ _ _ _ _ _; refine QOk.build rfl rfl Nf.auto ?_)
    | (show GJ _ _ _ _ _ _ _; first | with_reducible refine GJ.neF ?_ | with_reducible refine GJ.neT ?_)
    | (show Br _ _ _; with_reducible refine Br.ne ?_)
    | (show OpOk _ _ _ _ _ _ _; first | refine opB (fun b => ?_) | refine opA (fun a' c' hc1 hc2 => ?_))
    | (show GJ _ _ _ _ _ _ _; first | (apply GJ.and; exact rfl; intro hg) | (apply GJ.or; exact rfl; intro hg)))
  exact Wk.outS Sup.auto (.refl _) (hk _ (hl1.trans (hl2.trans (hl3.trans (hl4.trans (hl5.trans hl6))))))
end
end Go.Proofs.Ytniofdklhlbphaa
