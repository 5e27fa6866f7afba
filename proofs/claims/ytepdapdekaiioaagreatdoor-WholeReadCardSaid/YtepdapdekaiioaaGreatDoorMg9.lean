/- Texts of a walk, one behind the other. -/
import Derived.Test.YtepdapdekaiioaaGreatDoorMg8
section
/- The law WholeRead. -/
namespace Go.Proofs.YtepdapdekaiioaaGreatDoor
open Go Go.E
set_option linter.unusedVariables false
set_option linter.unusedSimpArgs false
set_option maxRecDepth 10000
def metT (s : SpecD) (j : Nat) : List Int := ((s.defs.take j).map (·.type)).flatMap (preI (kidsAt s) s.nodes.length)
theorem metT_all (s : SpecD) : metT s s.defs.length = allT s := by unfold metT allT; rw [List.take_length]
theorem metT_succ {s : SpecD} {j : Nat} {d : DefD} (h : s.defs[j]? = some d) : metT s (j + 1) = metT s j ++ preI (kidsAt s) s.nodes.length d.type := by
  unfold metT
  rw [List.take_add_one, h, List.map_append, List.flatMap_append]
  simp
theorem metT_split {s : SpecD} {j : Nat} {d : DefD} (h : s.defs[j]? = some d) : ∃ r, allT s = metT s j ++ preI (kidsAt s) s.nodes.length d.type ++ r := by
  refine ⟨((s.defs.drop (j + 1)).map (·.type)).flatMap (preI (kidsAt s) s.nodes.length), ?_⟩
  rw [← metT_succ h]
  unfold metT allT
  rw [← List.flatMap_append, ← List.map_append, List.take_append_drop]
theorem form_sm {d : NodeD} (h : formD d = 0) : NodeSm d := by
  obtain ⟨h1, h2, h3⟩ := form_small h
  have h4 : d.last.length ≤ 64 := by
    unfold formD at h
    grind
  exact ⟨by omega, by omega, by omega, by omega⟩
theorem take_snoc' {α : Type} {l : List α} {i : Nat} {d : α} (h : l[i]? = some d) : l.take (i + 1) = l.take i ++ [d] := by rw [List.take_add_one, h]; rfl
/-- What is read at fault is nothing. -/
theorem parse_none {tx : List UInt8} (h : (parseD tx).2.1 ≠ 0) : (parseD tx).1 = ⟨[], []⟩ := by
  by_cases hc : (scanD tx).2.2 = 0
  · exact ((parse_good (tx := tx) (l := (scanD tx).1) (ea := (scanD tx).2.1) (by rw [← hc])).2 h).1
  · rw [parse_bad (tx := tx) (l := (scanD tx).1) (ea := (scanD tx).2.1) (code := (scanD tx).2.2) rfl hc]
theorem read_M : parseD [109, 97, 105, 110, 32, 61, 32, 117, 56, 59] = (⟨[{ node0 with kind := 1, width := 1, max := 255 }], [⟨[109, 97, 105, 110], 0⟩]⟩, 0, 0) := by kernel_rfl
theorem word_M : wordD [117, 56] = true := by kernel_rfl
section
variable {ro : Ro} {own r : Chs} {K : Value → Ro → Chs → Prop}
theorem bspec_last {p : Nat} {s : SpecD} {a : SpecA} (hb : BuildOk ro s a) (hn : s.nodes.length ≤ 100000 ∧ s.defs.length ≤ 100000) (hs : ∀ d ∈ s.nodes, NodeSm d) (hc : checkD s = 0)
    (hk : ∀ ro' a', Le ro ro' → SpecOk ro' s a' → K (.tuple #[.agg (specV s a').toArray, .int .i64 0]) ro' (.blk p 45 (specV s a) :: .sl a.na s.nodes.length a.nc 56 18 (nodesV s.nodes a.xs) :: .sl a.da s.defs.length a.dc 36 2 (defsV s.defs) :: r)) :
    CallOk Tryz.prog 18 #[ptr' p] ro (.blk p 45 (specV s a) :: .sl a.na s.nodes.length a.nc 56 18 (nodesV s.nodes a.xs) :: .sl a.da s.defs.length a.dc 36 2 (defsV s.defs) :: r) K :=
  CallOk.lastly (Q := fun v L => ∃ a' ks, a'.xs.length = s.nodes.length ∧ ks.length = s.nodes.length ∧ NodesClip s.nodes a'.xs ∧ v = .tuple #[.agg (specV s a').toArray, .int .i64 0] ∧ L = specC s a' ks)
    (bspec_ok hb hn hs (fun h => absurd hc h) (fun _ a' ks h1 h2 h3 _ _ => ⟨rfl, _, rfl, a', ks, h1, h2, h3, rfl, rfl⟩)) (fun ro' v L hl hh ⟨a', ks, h1, h2, h3, hv, he⟩ => by
    subst hv; subst he
    exact hk ro' a' hl (SpecOk.made h1 h2 h3 hh))
end
section
variable {ro : Ro} {own : Chs} {K : Value → Ro → Chs → Prop}
theorem met_ok {b : Nat} {n : Nat} {k : Int} {G R : Chs} (hn : n ≤ 100000)
    (hk : K (.bool true) ro (G ++ (.blk b 3 [.int .i64 ((n + 1 : Nat) : Int)] :: R))) :
    CallOk Tryz.prog 15 (capA [.int .i64 k] #[ptr' b]) ro (G ++ (.blk b 3 [.int .i64 (n : Int)] :: R)) K := by
  refine CallOk.intro (args := [_, _]) (rs := [_]) T_ok Tryz.func15 Tryz.call15 rfl rfl (by kernel_rfl) rfl rfl ?_
  repeat (first | exact endA | refine wkT ?_ | refine opB (fun b => ?_) | refine opA (fun a' c' hc1 hc2 => ?_) | (apply GJ.and; exact rfl; intro hg) | (apply GJ.or; exact rfl; intro hg))
  rw [show ((n : Nat) : Int) + 1 = ((n + 1 : Nat) : Int) by omega]
  exact Wk.id hk
set_option maxHeartbeats 8000000 in
theorem wread_law {tx : List UInt8} (hS : SpOk ro) (hM : MaxOk ro) (hk : ∀ ro', K (.bool true) ro' own) : CallOk Tryz.prog 6 #[str tx] ro own K := by
  refine CallOk.intro (args := [_]) (rs := [_]) T_ok Tryz.func6 Tryz.call6 rfl rfl (by kernel_rfl) rfl rfl ?_
  repeat (first | exact endA | refine wkP ?_ | refine opB (fun b => ?_) | refine opA (fun a' c' hc1 hc2 => ?_) | (apply GJ.and; exact rfl; intro hg) | (apply GJ.or; exact rfl; intro hg))
  refine parse_ok (tx := [109, 97, 105, 110, 32, 61, 32, 117, 56, 59]) hS hM (by decide) (fun ro1 aM hl1 hMs => ?_)
  rw [read_M]
  dsimp only
  clear hMs
  have hS1 := hS.le hl1
  have hM1 := hM.le hl1
  repeat (first | exact endA | refine wkP ?_ | refine opB (fun b => ?_) | refine opA (fun a' c' hc1 hc2 => ?_) | (apply GJ.and; exact rfl; intro hg) | (apply GJ.or; exact rfl; intro hg))
  refine word_okP (t := [117, 56]) hM1 (by decide) ?_
  rw [word_M]
  repeat (first | exact endA | refine wkP ?_ | refine opB (fun b => ?_) | refine opA (fun a' c' hc1 hc2 => ?_) | (apply GJ.and; exact rfl; intro hg) | (apply GJ.or; exact rfl; intro hg))
  refine Br.cases (fun hbig => ?_) (fun hbig => ?_)
  · repeat (first | exact endA | refine wkP ?_ | refine opB (fun b => ?_) | refine opA (fun a' c' hc1 hc2 => ?_) | (apply GJ.and; exact rfl; intro hg) | (apply GJ.or; exact rfl; intro hg))
    exact Wk.outS Sup.auto (.refl _) (hk ro1)
  have hlen : tx.length ≤ 2000 := by omega
  repeat (first | exact endA | refine wkP ?_ | refine opB (fun b => ?_) | refine opA (fun a' c' hc1 hc2 => ?_) | (apply GJ.and; exact rfl; intro hg) | (apply GJ.or; exact rfl; intro hg))
  refine parse_ok hS1 hM1 (by omega) (fun ro2 a2 hl2 h2 => ?_)
  have hnone := parse_none (tx := tx)
  obtain ⟨Z, hZ⟩ : ∃ Z, Z = parseD tx := ⟨_, rfl⟩
  rw [← hZ] at h2 hnone ⊢
  by_cases h0 : Z.2.1 = 0
  rotate_left
  · have hn := hnone h0
    obtain ⟨sp, c, f⟩ := Z
    dsimp only at hn h0 h2 ⊢
    subst hn
    clear hZ hnone
    repeat (first | exact endA | refine wkP ?_ | refine opB (fun b => ?_) | refine opA (fun a' c' hc1 hc2 => ?_) | (apply GJ.and; exact rfl; intro hg) | (apply GJ.or; exact rfl; intro hg))
    exact Wk.outS Sup.auto (.refl _) (hk _)
  have hS2 := hS1.le hl2
  have hM2 := hM1.le hl2
  repeat (first | exact endA | refine wkP ?_ | refine opB (fun b => ?_) | refine opA (fun a' c' hc1 hc2 => ?_) | (apply GJ.and; exact rfl; intro hg) | (apply GJ.or; exact rfl; intro hg))
  refine scan_last hS2 (by omega) (fun ro3 l ea code la lc hl3 hsc g1 g2 g3 g4 => ?_)
  have hc0 : code = 0 := Classical.byContradiction fun hc => by
    have hb := parse_bad hsc hc
    rw [← hZ] at hb
    rw [hb] at h0
    exact hc (by simpa using h0)
  subst hc0
  obtain ⟨j1, j2, j3, m, j4, j5⟩ := scan_back hsc (by omega)
  obtain ⟨p1, p2⟩ := parse_same hsc j4 j5
  have hg := (parse_good hsc).1
  rw [← hZ] at p1 p2 hg
  obtain ⟨q1, q0⟩ := hg h0
  clear q0
  obtain ⟨sp, c, f⟩ := Z
  dsimp only at h2 h0 p1 p2 q1 hg ⊢
  subst h0
  clear hZ hnone hg
  repeat (first | exact endA | refine wkP ?_ | refine opB (fun b => ?_) | refine opA (fun a' c' hc1 hc2 => ?_) | (apply GJ.and; exact rfl; intro hg) | (apply GJ.or; exact rfl; intro hg))
  have hL3 : Leq ro3 ro3 := ⟨fun _ _ h => h⟩
  refine ljoin_ok (l := l) (Rs.rds (ro' := ro3) g4) rfl (by omega) (fun t ht => by have := j3 t ht; omega) ?_
  repeat (first | exact endA | refine wkP ?_ | refine opB (fun b => ?_) | refine opA (fun a' c' hc1 hc2 => ?_) | (apply GJ.and; exact rfl; intro hg) | (apply GJ.or; exact rfl; intro hg))
  refine parse_ok (hS2.le hl3) (hM2.le hl3) (by omega) (fun ro4 a4 hl4 h4 => ?_)
  obtain ⟨Y, hY⟩ : ∃ Y, Y = parseD (joinD (showsD l)) := ⟨_, rfl⟩
  rw [← hY] at h4 p1 p2 ⊢
  clear hY
  obtain ⟨sq, c2, f2⟩ := Y
  dsimp only at h4 p1 p2 ⊢
  subst p1 p2
  have h3 := (h2.up hl3).up hl4
  have hav := Ahead.of q1
  have hdi := defs_inP q1
  repeat (first | exact endA | refine wkP ?_ | refine opB (fun b => ?_) | refine opA (fun a' c' hc1 hc2 => ?_) | (apply GJ.and; exact rfl; intro hg) | (apply GJ.or; exact rfl; intro hg))
  refine msame_ok h3 h4 hav hdi ?_
  repeat (first | exact endA | refine wkP ?_ | refine opB (fun b => ?_) | refine opA (fun a' c' hc1 hc2 => ?_) | (apply GJ.and; exact rfl; intro hg) | (apply GJ.or; exact rfl; intro hg))
  refine check_ok h3 ?_
  rw [q1]
  repeat (first | exact endA | refine wkP ?_ | refine opB (fun b => ?_) | refine opA (fun a' c' hc1 hc2 => ?_) | (apply GJ.and; exact rfl; intro hg) | (apply GJ.or; exact rfl; intro hg))
  rename_i b5 b6 b8 b9 b10 b11
  obtain ⟨p, hp⟩ : ∃ z : Nat, z = b := ⟨_, rfl⟩
  subst hp
  clear g4 hL3 h4 h2
  have hat := allT_len q1
  obtain ⟨_, _, _, _, hnn, hnd, _, _⟩ := checkD_ok q1
  have hr2 := h3.defs
  have hm2 := hr2.max
  have hle2 := hr2.le
  unfold maxLen at hm2
  refine LoopOk.at (ι := Nat) Keep.auto (fun j => [(82, .int .i64 (j : Int))]) (fun j => .blk b11 3 [.int .i64 ((metT sq j).length : Int)] :: .blk p 45 (specV ⟨[], []⟩ ⟨none, 0, none, 0, []⟩) :: .blk b5 26 (specV sq a2) :: own) (fun j => j ≤ sq.defs.length) (fun j => sq.defs.length - j) 0 ?_ Sub.auto Sup.auto ?_
  · exact Nat.zero_le _
  intro j j1
  dsimp only [List.cons_append, List.nil_append] at j1 ⊢
  repeat (first | exact endA | refine wkG ?_ | refine opB (fun b => ?_) | refine opA (fun a' c' hc1 hc2 => ?_) | (show GJ _ _ _ _ _ _ _; first | (apply GJ.and; exact rfl; intro hg) | (apply GJ.or; exact rfl; intro hg) | refine GJ.t omAuto ?_ | refine GJ.f omAuto ?_ | refine GJ.ft omAuto ?_ | refine GJ.ff omAuto ?_))
  refine Br.cases (fun hlt => ?_) (fun hlt => ?_)
  · have hj : j < sq.defs.length := by omega
    obtain ⟨d, hd⟩ : ∃ d, sq.defs[j]? = some d := ⟨_, List.getElem?_eq_getElem hj⟩
    have hdg : sq.defs[j] = d := by rw [List.getElem?_eq_getElem hj] at hd; exact Option.some.inj hd
    have hdd := defsV_drop sq.defs hj
    rw [hdg] at hdd
    obtain ⟨e1, e2⟩ := hdi d (List.mem_of_getElem? hd)
    obtain ⟨k, hk0⟩ := Int.eq_ofNat_of_zero_le e1
    obtain ⟨r, hr⟩ := metT_split hd
    have hsu := metT_succ hd
    rw [hk0] at hr hsu e2
    repeat (first | exact endA | refine wkG ?_ | refine opB (fun b => ?_) | refine opA (fun a' c' hc1 hc2 => ?_) | (show GJ _ _ _ _ _ _ _; first | (apply GJ.and; exact rfl; intro hg) | (apply GJ.or; exact rfl; intro hg) | refine GJ.t omAuto ?_ | refine GJ.f omAuto ?_ | refine GJ.ft omAuto ?_ | refine GJ.ff omAuto ?_))
    rw [Int.toNat_natCast]
    refine OpOk.loadRow rfl rfl (LdN.at hr2 hdd) rfl ?_
    repeat (first | exact endA | refine wkG ?_ | refine opB (fun b => ?_) | refine opA (fun a' c' hc1 hc2 => ?_) | (show GJ _ _ _ _ _ _ _; first | (apply GJ.and; exact rfl; intro hg) | (apply GJ.or; exact rfl; intro hg) | refine GJ.t omAuto ?_ | refine GJ.f omAuto ?_ | refine GJ.ft omAuto ?_ | refine GJ.ff omAuto ?_))
    rw [hk0]
    refine each_ok h3 hav (fy := 15) (cap := #[ptr' b11]) (go := fun _ => true) (T := allT sq) (fun q (w : Unit) => .blk b11 3 [.int .i64 (q.length : Int)] :: .blk p 45 (specV ⟨[], []⟩ ⟨none, 0, none, 0, []⟩) :: .blk b5 26 (specV sq a2) :: own) (fun _ _ => True) ?_ (k + 1) k (by omega) (by omega) (metT sq j) r hr () trivial ro4 [.blk b 36 (defV d)] _ ?_
    · rintro q u r2 hT _ _ ro2 G K2 hle2 hk2
      have hpl := congrArg List.length hT
      rw [List.length_append, hat] at hpl
      have hk3 := hk2 () trivial
      rw [show (q ++ [u]).length = q.length + 1 by simp] at hk3
      exact met_ok (by omega) hk3
    rintro _ _
    rw [runG_all (fun _ => rfl), ← hsu]
    dsimp only [List.cons_append, List.nil_append]
    repeat (first | exact endA | refine wkA ?_ | refine opB (fun b => ?_) | refine opA (fun a' c' hc1 hc2 => ?_) | (apply GJ.and; exact rfl; intro hg) | (apply GJ.or; exact rfl; intro hg))
    refine Wk.id ⟨j + 1, ⟨rfl, ?_⟩, ?_, Sub.auto, Sup.auto⟩
    all_goals try dsimp only
    · omega
    · omega
  obtain rfl : j = sq.defs.length := by omega
  rw [metT_all, hat]
  have hr1 := h3.nodes
  have hm1 := hr1.max
  have hle1 := hr1.le
  unfold maxLen at hm1
  repeat (first | exact endA | refine wkG ?_ | refine opB (fun b => ?_) | refine opA (fun a' c' hc1 hc2 => ?_) | (show GJ _ _ _ _ _ _ _; first | (apply GJ.and; exact rfl; intro hg) | (apply GJ.or; exact rfl; intro hg) | refine GJ.t omAuto ?_ | refine GJ.f omAuto ?_ | refine GJ.ft omAuto ?_ | refine GJ.ff omAuto ?_))
  refine LoopOk.auto (ι := Nat × List NodeD × SpecA) Keep.auto (fun (i, l, c) => [(95, .int .i64 (i : Int))]) (fun (i, l, c) => .blk p 45 (specV ⟨l, []⟩ c) :: .sl c.na l.length c.nc 56 18 (nodesV l c.xs) :: .sl c.da 0 c.dc 36 2 [] :: .blk b11 3 [.int .i64 (sq.nodes.length : Int)] :: .blk b5 26 (specV sq a2) :: own) (fun (i, l, c) r' => i ≤ sq.nodes.length ∧ l = sq.nodes.take i ∧ BuildOk r' ⟨l, []⟩ c) (fun (i, l, c) => sq.nodes.length - i) (0, [], ⟨none, 0, none, 0, []⟩) ?_ Sub.auto Sup.auto ?_
  · exact ⟨by omega, rfl, ⟨rfl, fun i d x h => by simp at h, ⟨Nat.le_refl _, Nat.zero_le _⟩, ⟨Nat.le_refl _, Nat.zero_le _⟩⟩⟩
  rintro ⟨i, l, c⟩ ro5 hl5 ⟨i1, rfl, i3⟩
  dsimp only [List.cons_append, List.nil_append]
  have ho5 := h3.up hl5
  have hr5 := ho5.nodes
  repeat (first | exact endA | refine wkG ?_ | refine opB (fun b => ?_) | refine opA (fun a' c' hc1 hc2 => ?_) | (show GJ _ _ _ _ _ _ _; first | (apply GJ.and; exact rfl; intro hg) | (apply GJ.or; exact rfl; intro hg) | refine GJ.t omAuto ?_ | refine GJ.f omAuto ?_ | refine GJ.ft omAuto ?_ | refine GJ.ff omAuto ?_))
  refine Br.cases (fun hg => ?_) (fun hg => ?_)
  · obtain ⟨d, hdd⟩ : ∃ d, sq.nodes[i]? = some d := ⟨_, List.getElem?_eq_getElem (by omega)⟩
    obtain ⟨x, hx⟩ : ∃ x, a2.xs[i]? = some x := ⟨_, List.getElem?_eq_getElem (by rw [h3.len]; omega)⟩
    have hdr := nodesV_drop _ _ _ _ _ hdd hx
    have hn := ho5.each i d x hdd hx
    have hf := form_sm (hav i d hdd).1
    have ht := take_snoc' hdd
    have htl : (sq.nodes.take i).length = i := by rw [List.length_take]; omega
    repeat (first | exact endA | refine wkG ?_ | refine opB (fun b => ?_) | refine opA (fun a' c' hc1 hc2 => ?_) | (show GJ _ _ _ _ _ _ _; first | (apply GJ.and; exact rfl; intro hg) | (apply GJ.or; exact rfl; intro hg) | refine GJ.t omAuto ?_ | refine GJ.f omAuto ?_ | refine GJ.ft omAuto ?_ | refine GJ.ff omAuto ?_))
    rw [Int.toNat_natCast]
    refine OpOk.loadRow rfl rfl (LdN.at hr5 hdr) rfl ?_
    repeat (first | exact endA | refine wkG ?_ | refine opB (fun b => ?_) | refine opA (fun a' c' hc1 hc2 => ?_) | (show GJ _ _ _ _ _ _ _; first | (apply GJ.and; exact rfl; intro hg) | (apply GJ.or; exact rfl; intro hg) | refine GJ.t omAuto ?_ | refine GJ.f omAuto ?_ | refine GJ.ft omAuto ?_ | refine GJ.ff omAuto ?_))
    refine CallOk.sup (own0 := .blk p 45 (specV ⟨sq.nodes.take i, []⟩ c) :: .sl c.na (sq.nodes.take i).length c.nc 56 18 (nodesV (sq.nodes.take i) c.xs) :: .sl c.da 0 c.dc 36 2 [] :: .blk b11 3 [.int .i64 (sq.nodes.length : Int)] :: .blk b5 26 (specV sq a2) :: own) Sup.auto ?_
    refine badd_ok (s := ⟨sq.nodes.take i, []⟩) (a := c) (d := d) (x := x) i3 hn hf (by show (sq.nodes.take i).length < 2048; omega) (fun ro6 na3 nc3 x3 hl6 hb3 => ?_)
    repeat (first | exact endA | refine wkA ?_ | refine opB (fun b => ?_) | refine opA (fun a' c' hc1 hc2 => ?_) | (apply GJ.and; exact rfl; intro hg) | (apply GJ.or; exact rfl; intro hg))
    refine Wk.id ⟨(i + 1, sq.nodes.take i ++ [d], ⟨na3, nc3, c.da, c.dc, c.xs ++ [x3]⟩), ?_, ?_, Sub.auto, Sup.auto⟩
    all_goals try dsimp only
    · exact ⟨by omega, ht.symm, hb3⟩
    · omega
  · obtain rfl : i = sq.nodes.length := by omega
    rw [List.take_length] at i3 ⊢
    have hr6 := ho5.defs
    have hm6 := hr6.max
    have hle6 := hr6.le
    unfold maxLen at hm6
    repeat (first | exact endA | refine wkG ?_ | refine opB (fun b => ?_) | refine opA (fun a' c' hc1 hc2 => ?_) | (show GJ _ _ _ _ _ _ _; first | (apply GJ.and; exact rfl; intro hg) | (apply GJ.or; exact rfl; intro hg) | refine GJ.t omAuto ?_ | refine GJ.f omAuto ?_ | refine GJ.ft omAuto ?_ | refine GJ.ff omAuto ?_))
    refine LoopOk.at (ι := Nat × List DefD × SpecA) Keep.auto (fun (i, l, c) => [(105, .int .i64 (i : Int))]) (fun (i, l, c) => .blk p 45 (specV ⟨sq.nodes, l⟩ c) :: .sl c.na sq.nodes.length c.nc 56 18 (nodesV sq.nodes c.xs) :: .sl c.da l.length c.dc 36 2 (defsV l) :: .blk b11 3 [.int .i64 (sq.nodes.length : Int)] :: .blk b5 26 (specV sq a2) :: own) (fun (i, l, c) => i ≤ sq.defs.length ∧ l = sq.defs.take i ∧ BuildOk ro5 ⟨sq.nodes, l⟩ c) (fun (i, l, c) => sq.defs.length - i) (0, [], c) ?_ Sub.auto Sup.auto ?_
    · exact ⟨by omega, rfl, i3⟩
    rintro ⟨i, l, c⟩ ⟨j1, rfl, j3⟩
    dsimp only [List.cons_append, List.nil_append]
    repeat (first | exact endA | refine wkG ?_ | refine opB (fun b => ?_) | refine opA (fun a' c' hc1 hc2 => ?_) | (show GJ _ _ _ _ _ _ _; first | (apply GJ.and; exact rfl; intro hg) | (apply GJ.or; exact rfl; intro hg) | refine GJ.t omAuto ?_ | refine GJ.f omAuto ?_ | refine GJ.ft omAuto ?_ | refine GJ.ff omAuto ?_))
    refine Br.cases (fun hg => ?_) (fun hg => ?_)
    · have hdr := defsV_drop sq.defs (i := i) (by omega)
      have ht := take_snoc' (List.getElem?_eq_getElem (show i < sq.defs.length by omega))
      have htl : (sq.defs.take i).length = i := by rw [List.length_take]; omega
      generalize sq.defs[i]'(by omega) = f at hdr ht
      repeat (first | exact endA | refine wkG ?_ | refine opB (fun b => ?_) | refine opA (fun a' c' hc1 hc2 => ?_) | (show GJ _ _ _ _ _ _ _; first | (apply GJ.and; exact rfl; intro hg) | (apply GJ.or; exact rfl; intro hg) | refine GJ.t omAuto ?_ | refine GJ.f omAuto ?_ | refine GJ.ft omAuto ?_ | refine GJ.ff omAuto ?_))
      rw [Int.toNat_natCast]
      refine OpOk.loadRow rfl rfl (LdN.at hr6 hdr) rfl ?_
      repeat (first | exact endA | refine wkG ?_ | refine opB (fun b => ?_) | refine opA (fun a' c' hc1 hc2 => ?_) | (show GJ _ _ _ _ _ _ _; first | (apply GJ.and; exact rfl; intro hg) | (apply GJ.or; exact rfl; intro hg) | refine GJ.t omAuto ?_ | refine GJ.f omAuto ?_ | refine GJ.ft omAuto ?_ | refine GJ.ff omAuto ?_))
      refine CallOk.sup (own0 := .blk p 45 (specV ⟨sq.nodes, sq.defs.take i⟩ c) :: .sl c.na sq.nodes.length c.nc 56 18 (nodesV sq.nodes c.xs) :: .sl c.da (sq.defs.take i).length c.dc 36 2 (defsV (sq.defs.take i)) :: .blk b11 3 [.int .i64 (sq.nodes.length : Int)] :: .blk b5 26 (specV sq a2) :: own) Sup.auto ?_
      refine bname_ok (s := ⟨sq.nodes, sq.defs.take i⟩) (a := c) (d := f) j3 (by show (sq.defs.take i).length < 64; omega) (fun da3 dc3 hb3 => ?_)
      repeat (first | exact endA | refine wkU ?_ | (show QOk _ _ _ _ _ _ _; refine QOk.build rfl rfl Nf.auto ?_) | (show GJ _ _ _ _ _ _ _; first | with_reducible refine GJ.neF ?_ | with_reducible refine GJ.neT ?_) | (show Br _ _ _; with_reducible refine Br.ne ?_) | refine opB (fun b => ?_) | refine opA (fun a' c' hc1 hc2 => ?_) | (apply GJ.and; exact rfl; intro hg) | (apply GJ.or; exact rfl; intro hg))
      refine Wk.id ⟨(i + 1, sq.defs.take i ++ [f], ⟨c.na, c.nc, da3, dc3, c.xs⟩), ⟨rfl, ?_⟩, ?_, Sub.auto, Sup.auto⟩
      all_goals try dsimp only
      · exact ⟨by omega, ht.symm, hb3⟩
      · omega
    · obtain rfl : i = sq.defs.length := by omega
      rw [List.take_length] at j3 ⊢
      repeat (first | exact endA | refine wkG ?_ | refine opB (fun b => ?_) | refine opA (fun a' c' hc1 hc2 => ?_) | (show GJ _ _ _ _ _ _ _; first | (apply GJ.and; exact rfl; intro hg) | (apply GJ.or; exact rfl; intro hg) | refine GJ.t omAuto ?_ | refine GJ.f omAuto ?_ | refine GJ.ft omAuto ?_ | refine GJ.ff omAuto ?_))
      refine bspec_last (s := sq) (a := c) j3 ⟨by omega, by omega⟩ (fun d hd => form_sm (by obtain ⟨i, hi⟩ := List.getElem?_of_mem hd; exact (hav i d hi).1)) q1 (fun ro7 a7 hl7 h7 => ?_)
      have h37 := ho5.up hl7
      repeat (first | exact endA | refine wkG ?_ | refine opB (fun b => ?_) | refine opA (fun a' c' hc1 hc2 => ?_) | (show GJ _ _ _ _ _ _ _; first | (apply GJ.and; exact rfl; intro hg) | (apply GJ.or; exact rfl; intro hg) | refine GJ.t omAuto ?_ | refine GJ.f omAuto ?_ | refine GJ.ft omAuto ?_ | refine GJ.ff omAuto ?_))
      refine msame_ok h37 h7 hav hdi ?_
      repeat (first | exact endA | refine wkG ?_ | refine opB (fun b => ?_) | refine opA (fun a' c' hc1 hc2 => ?_) | (show GJ _ _ _ _ _ _ _; first | (apply GJ.and; exact rfl; intro hg) | (apply GJ.or; exact rfl; intro hg) | refine GJ.t omAuto ?_ | refine GJ.f omAuto ?_ | refine GJ.ft omAuto ?_ | refine GJ.ff omAuto ?_))
      exact Wk.outV Sup.auto (hk ro7) (congrArg Value.bool (by simp))
end
end Go.Proofs.YtepdapdekaiioaaGreatDoor
end
