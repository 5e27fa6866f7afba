/- Texts of a walk, one behind the other. -/
import Derived.Test.YtepdapdekaiioaaGreatDoorMg3
import Derived.Test.YtepdapdekaiioaaGreatDoorMg4
import Derived.Test.YtepdapdekaiioaaGreatDoorMg7
section
/- Law 12: ParseReads. -/
namespace Go.Proofs.YtepdapdekaiioaaGreatDoor
open Go Go.E
set_option linter.unusedVariables false
set_option linter.unusedSimpArgs false
set_option linter.unusedSectionVars false
set_option maxRecDepth 10000
theorem defs_keep {l : List TokD} {s : PS} : (mustP (listE l) [59] (kindP numD (listE l) 25 (mustP (listE l) [61] (nameP (listE l) s).2)).2).defs = s.defs := by
  have C : Clo (listE l) (fun z => z.defs = s.defs) := ⟨fun z e _ h => by unfold wrongP; split <;> exact h, fun z h _ => h, fun z e _ h => by unfold wrongP; split <;> exact h, fun z n h => h⟩
  have h0 : InP (fun z => z.defs = s.defs) (listE l) s := ⟨rfl⟩
  exact (InP.must (InP.kind (wideP := numD) 25 _ (InP.must (InP.name h0) [61])) [59]).get
theorem name_short {l : List TokD} {N : Nat} (hl : ∀ t ∈ l, t.text.length ≤ N) (s : PS) : (nameP (listE l) s).1.length ≤ N := by
  have hp : (peekP (listE l) s).text.length ≤ N := by
    unfold peekP listE
    split
    · dsimp only
      cases h : l[s.at']? with
      | none => exact Nat.zero_le _
      | some t => exact hl t (List.mem_of_getElem? h)
    · dsimp only
      cases h : l.getLast? with
      | none => exact Nat.zero_le _
      | some t => exact hl t (List.mem_of_getLast? h)
  unfold nameP
  split
  · exact Nat.zero_le _
  · exact hp
theorem defs_short {l : List TokD} {N : Nat} (hl : ∀ t ∈ l, t.text.length ≤ N) : ∀ (f : Nat) (s : PS), (∀ d ∈ s.defs, d.name.length ≤ N) → ∀ d ∈ (defsP numD (listE l) f s).defs, d.name.length ≤ N := by
  have h1 : ∀ s : PS, (∀ d ∈ s.defs, d.name.length ≤ N) → ∀ d ∈ (defP numD (listE l) s).defs, d.name.length ≤ N := by
    intro s h
    have hk := defs_keep (l := l) (s := s)
    have hn := name_short hl s
    unfold defP
    dsimp only
    generalize mustP (listE l) [59] (kindP numD (listE l) 25 (mustP (listE l) [61] (nameP (listE l) s).2)).2 = s1 at *
    split
    · rw [hk]; exact h
    · split
      · have : (wrongP 2 s1).defs = s1.defs := by unfold wrongP; split <;> rfl
        rw [this, hk]; exact h
      · dsimp only
        rw [hk]
        intro d hd
        rcases List.mem_append.1 hd with hd | hd
        · exact h d hd
        · rw [List.mem_singleton] at hd; subst hd; exact hn
  intro f
  induction f with
  | zero => intro s h; exact h
  | succ f ih =>
    intro s h
    rw [defsP]
    split
    · exact ih _ (h1 s h)
    · exact h1 s h
/-- What a text's reading tells. -/
theorem parse_bad {tx : List UInt8} {l : List TokD} {ea code : Nat} (h : scanD tx = (l, ea, code)) (hc : code ≠ 0) : parseD tx = (⟨[], []⟩, (code : Int), ea) := by
  unfold parseD
  rw [h, if_pos hc]
theorem parse_good {tx : List UInt8} {l : List TokD} {ea : Nat} (h : scanD tx = (l, ea, 0)) :
    ((parseD tx).2.1 = 0 → checkD (parseD tx).1 = 0 ∧ (parseD tx).2.2 = 0 ∧ ∀ d ∈ (parseD tx).1.defs, wordD d.name = false ∧ d.name.length ≤ 65536) ∧
    ((parseD tx).2.1 ≠ 0 → (parseD tx).1 = ⟨[], []⟩ ∧ ∃ (i : Nat) (t : TokD), l[i]? = some t ∧ t.a = (parseD tx).2.2) := by
  obtain ⟨e1, e2, e3, e4⟩ := scan_end h
  obtain ⟨r1, r2⟩ := read_ok (wideP := numD) e1
  have hs : ∀ d ∈ (readP numD l).1.defs, d.name.length ≤ 65536 := by
    have := defs_short (l := l) (N := 65536) (fun t ht => by have := e2 t ht; omega) 70 startP (fun d hd => by cases hd)
    unfold readP
    dsimp only
    split
    · intro d hd; cases hd
    · split
      · intro d hd; cases hd
      · exact this
  unfold parseD
  rw [h]
  dsimp only
  generalize readP numD l = R at *
  rw [if_neg (fun h => h rfl)]
  dsimp only
  refine ⟨?_, ?_⟩
  · intro h0
    obtain ⟨g1, g2, g3⟩ := r1 h0
    exact ⟨g1, by rw [if_pos h0], fun d hd => ⟨g3 d hd, hs d hd⟩⟩
  · intro h0
    obtain ⟨g1, g2⟩ := r2 h0
    refine ⟨g1, ?_⟩
    rw [if_neg h0]
    cases hi : R.2.2 with
    | none =>
      refine ⟨l.length - 1, l[l.length - 1]'(by have := e1.pos; omega), List.getElem?_eq_getElem _, ?_⟩
      have hp := e1.pos
      refine e4 _ ?_
      rw [List.getLast?_eq_getElem?]
      exact List.getElem?_eq_getElem _
    | some i =>
      have := g2 i hi
      refine ⟨i, l[i], List.getElem?_eq_getElem this, ?_⟩
      show l[i].a = (l[i]?.getD endT).a
      rw [List.getElem?_eq_getElem this]; rfl
theorem SpecOk.up {ro ro' : Ro} {s : SpecD} {a : SpecA} (h : SpecOk ro s a) (hl : Le ro ro') : SpecOk ro' s a := ⟨h.len, h.nodes.up, fun i d x g1 g2 => (h.each i d x g1 g2).le hl, h.defs.up⟩
section
variable {ro : Ro} {own : Chs} {K : Value → Ro → Chs → Prop}
set_option maxHeartbeats 4000000 in
theorem preads_law {tx : List UInt8} (hS : SpOk ro) (hM : MaxOk ro) (hk : ∀ ro', K (.bool true) ro' own) : CallOk Tryz.prog 3 #[str tx] ro own K := by
  refine CallOk.intro (args := [_]) (rs := [_]) T_ok Tryz.func3 Tryz.call3 rfl rfl (by kernel_rfl) rfl rfl ?_
  repeat (first | exact endA | refine wkP ?_ | refine opB (fun b => ?_) | refine opA (fun a' c' hc1 hc2 => ?_) | (apply GJ.and; exact rfl; intro hg) | (apply GJ.or; exact rfl; intro hg))
  refine reads_ok hS hM (fun ro1 hl1 => ?_)
  repeat (first | exact endA | refine wkP ?_ | refine opB (fun b => ?_) | refine opA (fun a' c' hc1 hc2 => ?_) | (apply GJ.and; exact rfl; intro hg) | (apply GJ.or; exact rfl; intro hg))
  refine Br.cases (fun hbig => ?_) (fun hbig => ?_)
  · repeat (first | exact endA | refine wkP ?_ | refine opB (fun b => ?_) | refine opA (fun a' c' hc1 hc2 => ?_) | (apply GJ.and; exact rfl; intro hg) | (apply GJ.or; exact rfl; intro hg))
    exact Wk.outS Sup.auto (.refl _) (hk ro1)
  have hS1 := hS.le hl1
  have hM1 := hM.le hl1
  have hlen : tx.length ≤ 3000 := by omega
  repeat (first | exact endA | refine wkP ?_ | refine opB (fun b => ?_) | refine opA (fun a' c' hc1 hc2 => ?_) | (apply GJ.and; exact rfl; intro hg) | (apply GJ.or; exact rfl; intro hg))
  refine parse_ok hS1 hM1 (by omega) (fun ro2 a2 hl2 h2 => ?_)
  obtain ⟨Z, hZ⟩ : ∃ Z, Z = parseD tx := ⟨_, rfl⟩
  rw [← hZ] at h2 ⊢
  obtain ⟨sp, c, f⟩ := Z
  dsimp only at h2 ⊢
  repeat (first | exact endA | refine wkP ?_ | refine opB (fun b => ?_) | refine opA (fun a' c' hc1 hc2 => ?_) | (apply GJ.and; exact rfl; intro hg) | (apply GJ.or; exact rfl; intro hg))
  rename_i bS
  obtain ⟨bF, hbF⟩ : ∃ z : Nat, z = b := ⟨_, rfl⟩
  subst hbF
  refine scan_last (hS1.le hl2) (by omega) (fun ro3 l ea code la lc hl3 hsc g1 g2 g3 g4 => ?_)
  have h3 := h2.up hl3
  repeat (first | exact endA | refine wkP ?_ | refine opB (fun b => ?_) | refine opA (fun a' c' hc1 hc2 => ?_) | (apply GJ.and; exact rfl; intro hg) | (apply GJ.or; exact rfl; intro hg))
  by_cases hc : code = 0
  · subst hc
    have hg := parse_good hsc
    rw [← hZ] at hg
    obtain ⟨q1, q2⟩ := hg
    dsimp only at q1 q2
    have hdf := h3.defs
    have hdm := hdf.max
    have hdl := hdf.le
    unfold maxLen at hdm
    have g4m := g4.max
    have g4l := g4.le
    unfold maxLen at g4m
    by_cases h0 : c = 0
    · obtain ⟨q3, q4, q5⟩ := q1 h0
      clear q2
      subst h0 q4
      clear hZ
      repeat (first | exact endA | refine wkP ?_ | refine opB (fun b => ?_) | refine opA (fun a' c' hc1 hc2 => ?_) | (apply GJ.and; exact rfl; intro hg) | (apply GJ.or; exact rfl; intro hg))
      refine LoopOk.at (ι := Nat) Keep.auto (fun i => [(44, .int .i64 (i : Int))]) (fun i => .blk bF 29 [.int .i64 0, .int .i64 ((0 : Nat) : Int)] :: .blk bS 26 (specV sp a2) :: own) (fun i => i ≤ sp.defs.length) (fun i => sp.defs.length - i) 0 ?_ Sub.auto Sup.auto ?_
      · exact Nat.zero_le _
      intro i i1
      dsimp only [List.cons_append, List.nil_append] at i1 ⊢
      repeat (first | exact endA | refine wkP ?_ | refine opB (fun b => ?_) | refine opA (fun a' c' hc1 hc2 => ?_) | (apply GJ.and; exact rfl; intro hg) | (apply GJ.or; exact rfl; intro hg))
      refine Br.cases (fun hc => ?_) (fun hc => ?_)
      · have hi : i < sp.defs.length := by omega
        have hd := defsV_drop sp.defs (i := i) hi
        obtain ⟨q6, q7⟩ := q5 sp.defs[i] (List.getElem_mem _)
        generalize sp.defs[i] = d at *
        repeat (first | exact endA | refine wkP ?_ | refine opB (fun b => ?_) | refine opA (fun a' c' hc1 hc2 => ?_) | (apply GJ.and; exact rfl; intro hg) | (apply GJ.or; exact rfl; intro hg))
        rw [Int.toNat_natCast]
        refine OpOk.loadRow rfl rfl (LdN.at hdf hd) rfl ?_
        repeat (first | exact endA | refine wkP ?_ | refine opB (fun b => ?_) | refine opA (fun a' c' hc1 hc2 => ?_) | (apply GJ.and; exact rfl; intro hg) | (apply GJ.or; exact rfl; intro hg))
        refine word_okP ((hM1.le hl2).le hl3) q7 ?_
        rw [q6]
        repeat (first | exact endA | refine wkP ?_ | refine opB (fun b => ?_) | refine opA (fun a' c' hc1 hc2 => ?_) | (apply GJ.and; exact rfl; intro hg) | (apply GJ.or; exact rfl; intro hg))
        refine Wk.id ⟨i + 1, ⟨rfl, ?_⟩, ?_, Sub.auto, Sup.auto⟩
        all_goals try dsimp only
        · omega
        · omega
      · repeat (first | exact endA | refine wkP ?_ | refine opB (fun b => ?_) | refine opA (fun a' c' hc1 hc2 => ?_) | (apply GJ.and; exact rfl; intro hg) | (apply GJ.or; exact rfl; intro hg))
        refine check_ok h3 ?_
        rw [q3]
        repeat (first | exact endA | refine wkP ?_ | refine opB (fun b => ?_) | refine opA (fun a' c' hc1 hc2 => ?_) | (apply GJ.and; exact rfl; intro hg) | (apply GJ.or; exact rfl; intro hg))
        exact Wk.outS Sup.auto (.refl _) (hk _)
    · obtain ⟨q3, i0, t0, q4, q5⟩ := q2 h0
      clear q1
      subst q3
      clear hZ
      repeat (first | exact endA | refine wkP ?_ | refine opB (fun b => ?_) | refine opA (fun a' c' hc1 hc2 => ?_) | (apply GJ.and; exact rfl; intro hg) | (apply GJ.or; exact rfl; intro hg))
      refine LoopOk.at (ι := Nat) Keep.auto (fun i => [(62, .int .i64 (i : Int))]) (fun i => .blk bF 29 [.int .i64 c, .int .i64 (f : Int)] :: .blk bS 26 (specV ⟨[], []⟩ a2) :: own) (fun i => i ≤ i0) (fun i => i0 - i) 0 ?_ Sub.auto Sup.auto ?_
      · exact Nat.zero_le _
      intro i i1
      dsimp only [List.cons_append, List.nil_append] at i1 ⊢
      have hi0 := (List.getElem?_eq_some_iff.1 q4).1
      repeat (first | exact endA | refine wkP ?_ | refine opB (fun b => ?_) | refine opA (fun a' c' hc1 hc2 => ?_) | (apply GJ.and; exact rfl; intro hg) | (apply GJ.or; exact rfl; intro hg))
      have hti : l[i]? = some l[i] := List.getElem?_eq_getElem (by omega)
      have hd := toksV_drop l i _ hti
      by_cases he : l[i].a = f
      · generalize l[i] = t at *
        rw [Int.toNat_natCast]
        refine OpOk.loadRow rfl rfl (LdN.at g4 hd) rfl ?_
        repeat (first | exact endA | refine wkP ?_ | refine opB (fun b => ?_) | refine opA (fun a' c' hc1 hc2 => ?_) | (apply GJ.and; exact rfl; intro hg) | (apply GJ.or; exact rfl; intro hg))
        exact Wk.outV Sup.auto (hk _) (congrArg Value.bool (decide_eq_true rfl).symm)
      · have hne : i ≠ i0 := by
          intro e
          subst e
          rw [hti] at q4
          rw [Option.some.inj q4] at he
          exact he q5
        generalize l[i] = t at *
        rw [Int.toNat_natCast]
        refine OpOk.loadRow rfl rfl (LdN.at g4 hd) rfl ?_
        repeat (first | exact endA | refine wkP ?_ | refine opB (fun b => ?_) | refine opA (fun a' c' hc1 hc2 => ?_) | (apply GJ.and; exact rfl; intro hg) | (apply GJ.or; exact rfl; intro hg))
        refine Wk.id ⟨i + 1, ⟨rfl, ?_⟩, ?_, Sub.auto, Sup.auto⟩
        all_goals try dsimp only
        · omega
        · omega
  · have hb := parse_bad hsc hc
    rw [← hZ] at hb
    obtain ⟨rfl, rfl, rfl⟩ : sp = ⟨[], []⟩ ∧ c = (code : Int) ∧ f = ea := by simpa using hb
    repeat (first | exact endA | refine wkP ?_ | refine opB (fun b => ?_) | refine opA (fun a' c' hc1 hc2 => ?_) | (apply GJ.and; exact rfl; intro hg) | (apply GJ.or; exact rfl; intro hg))
    refine OpOk.eqlStruct (q := decide ((code : Int) = code) && (decide ((f : Int) = f) && true)) rfl rfl rfl rfl (by kernel_rfl) (by kernel_rfl) (by kernel_rfl) ?_
    rw [decide_eq_true rfl, decide_eq_true rfl]
    repeat (first | exact endA | refine wkP ?_ | refine opB (fun b => ?_) | refine opA (fun a' c' hc1 hc2 => ?_) | (apply GJ.and; exact rfl; intro hg) | (apply GJ.or; exact rfl; intro hg))
    exact Wk.outS Sup.auto (.refl _) (hk _)
end
end Go.Proofs.YtepdapdekaiioaaGreatDoor
end
section
/- Law 12: ParseTokens. -/
namespace Go.Proofs.YtepdapdekaiioaaGreatDoor
open Go Go.E
set_option linter.unusedVariables false
set_option linter.unusedSimpArgs false
set_option linter.unusedSectionVars false
set_option maxRecDepth 10000
theorem parse_of {tx : List UInt8} {l : List TokD} {ea : Nat} (h : scanD tx = (l, ea, 0)) : (parseD tx).1 = (readP numD l).1 ∧ (parseD tx).2.1 = (readP numD l).2.1 := by
  unfold parseD
  rw [h]
  dsimp only
  generalize readP numD l = R
  rw [if_neg (fun h => h rfl)]
  exact ⟨rfl, rfl⟩
theorem parse_same {tx ty : List UInt8} {l m : List TokD} {ea eb : Nat} (h1 : scanD tx = (l, ea, 0)) (h2 : scanD ty = (m, eb, 0)) (hk : m.map keyD = l.map keyD) : (parseD ty).1 = (parseD tx).1 ∧ (parseD ty).2.1 = (parseD tx).2.1 :=
  have e := Ali.read (wideP := numD) (Ali.of hk)
  ⟨(parse_of h2).1.trans ((congrArg (fun r => r.1) e).trans (parse_of h1).1.symm), (parse_of h2).2.trans ((congrArg (fun r => r.2.1) e).trans (parse_of h1).2.symm)⟩
theorem defs_inP {s : SpecD} (h : checkD s = 0) : ∀ d ∈ s.defs, 0 ≤ d.type ∧ d.type < (s.nodes.length : Int) := fun d hd => by
  obtain ⟨o, o', _, h2, _⟩ := checkD_ok h
  exact ownAll_mem h2 d.type (List.mem_map.2 ⟨d, hd, rfl⟩)
section
variable {ro : Ro} {own : Chs} {K : Value → Ro → Chs → Prop}
set_option maxHeartbeats 4000000 in
theorem ptokens_law {tx : List UInt8} (hS : SpOk ro) (hM : MaxOk ro) (hk : ∀ ro', K (.bool true) ro' own) : CallOk Tryz.prog 5 #[str tx] ro own K := by
  refine CallOk.intro (args := [_]) (rs := [_]) T_ok Tryz.func5 Tryz.call5 rfl rfl (by kernel_rfl) rfl rfl ?_
  repeat (first | exact endA | refine wkP ?_ | refine opB (fun b => ?_) | refine opA (fun a' c' hc1 hc2 => ?_) | (apply GJ.and; exact rfl; intro hg) | (apply GJ.or; exact rfl; intro hg))
  refine reads_ok hS hM (fun ro1 hl1 => ?_)
  repeat (first | exact endA | refine wkP ?_ | refine opB (fun b => ?_) | refine opA (fun a' c' hc1 hc2 => ?_) | (apply GJ.and; exact rfl; intro hg) | (apply GJ.or; exact rfl; intro hg))
  refine Br.cases (fun hbig => ?_) (fun hbig => ?_)
  · repeat (first | exact endA | refine wkP ?_ | refine opB (fun b => ?_) | refine opA (fun a' c' hc1 hc2 => ?_) | (apply GJ.and; exact rfl; intro hg) | (apply GJ.or; exact rfl; intro hg))
    exact Wk.outS Sup.auto (.refl _) (hk ro1)
  have hS1 := hS.le hl1
  have hM1 := hM.le hl1
  have hlen : tx.length ≤ 3000 := by omega
  repeat (first | exact endA | refine wkP ?_ | refine opB (fun b => ?_) | refine opA (fun a' c' hc1 hc2 => ?_) | (apply GJ.and; exact rfl; intro hg) | (apply GJ.or; exact rfl; intro hg))
  refine scan_last hS1 (by omega) (fun ro2 l ea code la lc hl2 hsc g1 g2 g3 g4 => ?_)
  repeat (first | exact endA | refine wkP ?_ | refine opB (fun b => ?_) | refine opA (fun a' c' hc1 hc2 => ?_) | (apply GJ.and; exact rfl; intro hg) | (apply GJ.or; exact rfl; intro hg))
  by_cases hc : code = 0
  · subst hc
    obtain ⟨j1, j2, j3, m, j4, j5⟩ := scan_back hsc hlen
    obtain ⟨p1, p2⟩ := parse_same hsc j4 j5
    have hg := (parse_good hsc).1
    repeat (first | exact endA | refine wkP ?_ | refine opB (fun b => ?_) | refine opA (fun a' c' hc1 hc2 => ?_) | (apply GJ.and; exact rfl; intro hg) | (apply GJ.or; exact rfl; intro hg))
    refine parse_ok (hS1.le hl2) (hM1.le hl2) (by omega) (fun ro3 a3 hl3 h3 => ?_)
    obtain ⟨Y, hY⟩ : ∃ Y, Y = parseD (joinD (showsD l)) := ⟨_, rfl⟩
    rw [← hY] at p1 p2
    obtain ⟨Z, hZ⟩ : ∃ Z, Z = parseD tx := ⟨_, rfl⟩
    rw [← hZ] at h3 p1 p2 hg ⊢
    obtain ⟨sp, c, f⟩ := Z
    dsimp only at h3 p1 p2 hg ⊢
    repeat (first | exact endA | refine wkP ?_ | refine opB (fun b => ?_) | refine opA (fun a' c' hc1 hc2 => ?_) | (apply GJ.and; exact rfl; intro hg) | (apply GJ.or; exact rfl; intro hg))
    have hL3 : Leq ro2 ro3 := ⟨hl3.1⟩
    refine ljoin_ok (l := l) (Rs.rds (ro' := ro3) g4) rfl (by omega) (fun t ht => by have := j3 t ht; omega) ?_
    repeat (first | exact endA | refine wkP ?_ | refine opB (fun b => ?_) | refine opA (fun a' c' hc1 hc2 => ?_) | (apply GJ.and; exact rfl; intro hg) | (apply GJ.or; exact rfl; intro hg))
    refine parse_ok ((hS1.le hl2).le hl3) ((hM1.le hl2).le hl3) (by omega) (fun ro4 a4 hl4 h4 => ?_)
    rw [← hY] at h4 ⊢
    obtain ⟨sq, c2, f2⟩ := Y
    dsimp only at h4 p1 p2 ⊢
    subst p1 p2
    by_cases h0 : c2 = 0
    · obtain ⟨q1, _⟩ := hg h0
      have h3' := h3.up hl4
      subst h0
      clear hZ hY
      repeat (first | exact endA | refine wkP ?_ | refine opB (fun b => ?_) | refine opA (fun a' c' hc1 hc2 => ?_) | (apply GJ.and; exact rfl; intro hg) | (apply GJ.or; exact rfl; intro hg))
      refine msame_ok h3' h4 (Ahead.of q1) (defs_inP q1) ?_
      repeat (first | exact endA | refine wkP ?_ | refine opB (fun b => ?_) | refine opA (fun a' c' hc1 hc2 => ?_) | (apply GJ.and; exact rfl; intro hg) | (apply GJ.or; exact rfl; intro hg))
      exact Wk.outS Sup.auto (.refl _) (hk _)
    · clear hZ hY
      repeat (first | exact endA | refine wkP ?_ | refine opB (fun b => ?_) | refine opA (fun a' c' hc1 hc2 => ?_) | (apply GJ.and; exact rfl; intro hg) | (apply GJ.or; exact rfl; intro hg))
      exact Wk.outS Sup.auto (.refl _) (hk _)
  · repeat (first | exact endA | refine wkP ?_ | refine opB (fun b => ?_) | refine opA (fun a' c' hc1 hc2 => ?_) | (apply GJ.and; exact rfl; intro hg) | (apply GJ.or; exact rfl; intro hg))
    exact Wk.outS Sup.auto (.refl _) (hk _)
end
end Go.Proofs.YtepdapdekaiioaaGreatDoor
end
