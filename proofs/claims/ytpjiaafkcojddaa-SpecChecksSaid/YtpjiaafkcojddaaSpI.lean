/- The law SpecChecks: its contract. -/
import Derived.Test.YtpjiaafkcojddaaSpH
namespace Go.Proofs.Ytpjiaafkcojddaa
open Go Go.E
set_option linter.unusedVariables false
set_option maxRecDepth 10000
section
variable {ro : Ro} {own r : Chs} {K : Value → Ro → Chs → Prop} {g : Chunk → Chs}
/-- How many owners at most. -/
def Few (l : MI) (c : Nat) : Prop := ∀ k, 0 ≤ getI l k ∧ getI l k ≤ c
theorem Few.put {l : MI} {c c' : Nat} {k v : Int} {z : Nat} (h : Few l c) (hv : 0 ≤ v ∧ v ≤ c') (hc : c ≤ c') : Few (putI l z k v) c' := fun j => by
  rw [getI_putI]
  have := h j
  split <;> omega
def want0 (s : SpecD) : Int := if s.defs.length = 0 ∨ 64 < s.defs.length then 2 else 0
/-- Where the types are done. -/
def NInv (s : SpecD) (i : Nat) (w : Int) (l : MI) : Prop := Few l (1000 * i) ∧ ((w ≠ 0 ∧ checkD s = w) ∨ (w = 0 ∧ want0 s = 0 ∧ ∃ o, OwnM s.nodes.length o (getI l) ∧ nodesAll i (s.nodes.drop i) o = nodesAll 0 s.nodes (List.replicate s.nodes.length false)))
def NDone (s : SpecD) (w : Int) (l : MI) : Prop := Few l 300000 ∧ ((w ≠ 0 ∧ checkD s = w) ∨ (w = 0 ∧ want0 s = 0 ∧ ∃ o, OwnM s.nodes.length o (getI l) ∧ nodesAll 0 s.nodes (List.replicate s.nodes.length false) = .ok o))
theorem checkD_w {s : SpecD} (hn : s.nodes.length ≤ 300) (h : want0 s ≠ 0) : checkD s = want0 s := by
  unfold want0 at *
  split at h
  · rename_i h'; rw [if_pos h', checkD, if_pos (by omega)]
  · exact absurd rfl h
theorem checkD_e {s : SpecD} {e : Int} (hn : s.nodes.length ≤ 300) (h : want0 s = 0) (he : checkE s = .error e) : checkD s = e := by
  unfold want0 at h
  split at h
  · cases h
  · rw [checkD, if_neg (by omega), he]
theorem checkD_o {s : SpecD} {o : List Bool} (hn : s.nodes.length ≤ 300) (h : want0 s = 0) (he : checkE s = .ok o) : checkD s = if false ∈ o then 3 else 0 := by
  unfold want0 at h
  split at h
  · cases h
  · rw [checkD, if_neg (by omega), he]
theorem checkE_e {s : SpecD} {e : Int} (he : nodesAll 0 s.nodes (List.replicate s.nodes.length false) = .error e) : checkE s = .error e := by rw [checkE, he]
theorem checkE_o {s : SpecD} {o : List Bool} (he : nodesAll 0 s.nodes (List.replicate s.nodes.length false) = .ok o) : checkE s = ownAll s.nodes.length (s.defs.map (·.type)) o := by rw [checkE, he]
theorem NInv.zero {s : SpecD} (hn : s.nodes.length ≤ 300) : NInv s 0 (want0 s) [] := by
  refine ⟨fun k => by simp [getI], ?_⟩
  by_cases h : want0 s = 0
  · refine .inr ⟨h, h, List.replicate s.nodes.length false, ⟨by simp, fun k hk => ?_⟩, by rw [List.drop_zero]⟩
    rw [List.getElem!_eq_getElem?_getD, List.getElem?_replicate, if_pos hk]; rfl
  · exact .inl ⟨h, checkD_w hn h⟩
/-- It is left with what is wrong. -/
theorem NInv.left {s : SpecD} {i : Nat} {w : Int} {l : MI} (h : NInv s i w l) (hi : i ≤ 300) (hw : w ≠ 0) : NDone s w l := by
  obtain ⟨h1, h2⟩ := h
  refine ⟨fun k => by have := h1 k; omega, .inl ?_⟩
  rcases h2 with h2 | ⟨h2, _⟩
  · exact h2
  · exact absurd h2 hw
theorem NInv.done {s : SpecD} {w : Int} {l : MI} (hn : s.nodes.length ≤ 300) (h : NInv s s.nodes.length w l) : NDone s w l := by
  obtain ⟨h1, h2⟩ := h
  refine ⟨fun k => by have := h1 k; omega, ?_⟩
  rcases h2 with h2 | ⟨h2, h3, o, h4, h5⟩
  · exact .inl h2
  · rw [List.drop_length, nodesAll] at h5
    exact .inr ⟨h2, h3, o, h4, h5.symm⟩
theorem NInv.wrong {s : SpecD} {i : Nat} {l : MI} {d : NodeD} (hn : s.nodes.length ≤ 300) (h : NInv s i 0 l) (hi : i ≤ 300) (hd : s.nodes[i]? = some d) (hf : formD d ≠ 0) : NDone s (formD d) l := by
  obtain ⟨h1, h2⟩ := h
  refine ⟨fun k => by have := h1 k; omega, .inl ⟨hf, ?_⟩⟩
  rcases h2 with ⟨h2, _⟩ | ⟨_, h3, o, h4, h5⟩
  · exact absurd rfl h2
  · obtain ⟨hlt, rfl⟩ := List.getElem?_eq_some_iff.1 hd
    rw [List.drop_eq_getElem_cons hlt, nodesAll, if_pos hf] at h5
    exact checkD_e hn h3 (checkE_e h5.symm)
/-- Ahead of a type's parts. -/
theorem NInv.enter {s : SpecD} {i : Nat} {l : MI} {d : NodeD} (h : NInv s i 0 l) (hd : s.nodes[i]? = some d) (hf : formD d = 0) : want0 s = 0 ∧ ∃ o, OwnM s.nodes.length o (getI l) ∧ (match ownAll i (kidsD d) o with | .error e => .error e | .ok o => nodesAll (i + 1) (s.nodes.drop (i + 1)) o) = nodesAll 0 s.nodes (List.replicate s.nodes.length false) := by
  rcases h.2 with ⟨h2, _⟩ | ⟨_, h3, o, h4, h5⟩
  · exact absurd rfl h2
  · obtain ⟨hlt, rfl⟩ := List.getElem?_eq_some_iff.1 hd
    rw [List.drop_eq_getElem_cons hlt, nodesAll, if_neg (by omega)] at h5
    exact ⟨h3, o, h4, h5⟩
/-- Behind them. -/
theorem NInv.next {s : SpecD} {i : Nat} {w : Int} {l : MI} {d : NodeD} {o : List Bool} (hn : s.nodes.length ≤ 300) (hw : want0 s = 0) (hf : Few l (1000 * (i + 1)))
    (ho : (match ownAll i (kidsD d) o with | .error e => .error e | .ok o => nodesAll (i + 1) (s.nodes.drop (i + 1)) o) = nodesAll 0 s.nodes (List.replicate s.nodes.length false)) (hk : KR i s.nodes.length [] (ownAll i (kidsD d) o) w (getI l)) : NInv s (i + 1) w l := by
  refine ⟨hf, ?_⟩
  rcases hk with ⟨h1, h2⟩ | ⟨h1, o2, h2, h3⟩
  · rw [h2] at ho
    exact .inl ⟨h1, checkD_e hn hw (checkE_e ho.symm)⟩
  · rw [← h3, ownAll] at ho
    exact .inr ⟨h1, hw, o2, h2, ho⟩
def DInv (s : SpecD) (j : Nat) (w : Int) (l : MI) : Prop := Few l (300000 + j) ∧ ((w ≠ 0 ∧ checkD s = w) ∨ (w = 0 ∧ want0 s = 0 ∧ KR s.nodes.length s.nodes.length ((s.defs.map (·.type)).drop j) (checkE s) 0 (getI l)))
theorem NDone.defs {s : SpecD} {w : Int} {l : MI} (h : NDone s w l) : DInv s 0 w l := by
  refine ⟨h.1, ?_⟩
  rcases h.2 with h2 | ⟨h2, h3, o, h4, h5⟩
  · exact .inl h2
  · exact .inr ⟨h2, h3, .inr ⟨rfl, o, h4, by rw [checkE_o h5, List.drop_zero]⟩⟩
theorem DInv.step {s : SpecD} {j : Nat} {w w' k : Int} {l : MI} {c : Nat} {d : DefD} (hn : s.nodes.length ≤ 300) (h : DInv s j w l) (hd : s.defs[j]? = some d) (hk : k = d.type)
    (hw : w' = if w = 0 ∧ (k < 0 ∨ (s.nodes.length : Int) ≤ k) then 3 else if w = 0 ∧ 1 < getI l k + 1 then 4 else w) : DInv s (j + 1) w' (putI l c k (getI l k + 1)) := by
  obtain ⟨h1, h2⟩ := h
  have hf := h1 k
  refine ⟨h1.put (by omega) (by omega), ?_⟩
  rcases h2 with ⟨h2, h3⟩ | ⟨rfl, h3, h4⟩
  · rw [if_neg (by omega), if_neg (by omega)] at hw
    subst hw
    exact .inl ⟨h2, h3⟩
  · have hlt : j < (s.defs.map (·.type)).length := by rw [List.length_map]; exact (List.getElem?_eq_some_iff.1 hd).1
    rw [List.drop_eq_getElem_cons hlt] at h4
    have he : (s.defs.map (·.type))[j] = k := by rw [List.getElem_map, hk, (List.getElem?_eq_some_iff.1 hd).2]
    rw [he] at h4
    have h5 := h4.step (by omega) (fun q => getI_putI l c k (getI l k + 1) q) hw
    rcases h5 with ⟨h6, h7⟩ | ⟨h6, h7⟩
    · exact .inl ⟨h6, checkD_e hn h3 h7⟩
    · exact .inr ⟨h6, h3, .inr ⟨rfl, h7⟩⟩
def FInv (s : SpecD) (i : Nat) (w : Int) (l : MI) : Prop := (w ≠ 0 ∧ checkD s = w) ∨ (w = 0 ∧ want0 s = 0 ∧ ∃ o, OwnM s.nodes.length o (getI l) ∧ checkE s = .ok o ∧ ∀ j, j < i → o[j]! = true)
theorem DInv.last {s : SpecD} {w : Int} {l : MI} (h : DInv s s.defs.length w l) : FInv s 0 w l := by
  rcases h.2 with h2 | ⟨h2, h3, h4⟩
  · exact .inl h2
  · rw [List.drop_of_length_le (by rw [List.length_map]; omega)] at h4
    rcases h4 with ⟨h5, _⟩ | ⟨_, o, h5, h6⟩
    · exact absurd rfl h5
    · rw [ownAll] at h6
      exact .inr ⟨h2, h3, o, h5, h6.symm, fun j hj => absurd hj (by omega)⟩
theorem FInv.step {s : SpecD} {i : Nat} {w w' : Int} {l : MI} (hn : s.nodes.length ≤ 300) (h : FInv s i w l) (hi : i < s.nodes.length) (hw : w' = if w = 0 ∧ getI l i = 0 then 3 else w) : FInv s (i + 1) w' l := by
  rcases h with ⟨h2, h3⟩ | ⟨rfl, h3, o, ⟨h4, h5⟩, h6, h7⟩
  · rw [if_neg (by omega)] at hw
    subst hw
    exact .inl ⟨h2, h3⟩
  · have h8 := h5 i hi
    by_cases ho : o[i]! = true
    · rw [if_pos ho] at h8
      rw [if_neg (by omega)] at hw
      subst hw
      refine .inr ⟨rfl, h3, o, ⟨h4, h5⟩, h6, fun j hj => ?_⟩
      by_cases hji : j = i
      · rw [hji]; exact ho
      · exact h7 j (by omega)
    · rw [if_neg ho] at h8
      rw [if_pos ⟨rfl, h8⟩] at hw
      subst hw
      refine .inl ⟨by omega, ?_⟩
      rw [checkD_o hn h3 h6, if_pos]
      rw [List.getElem!_eq_getElem?_getD, List.getElem?_eq_getElem (by omega)] at ho
      have : o[i] = false := by simpa using ho
      rw [← this]
      exact List.getElem_mem _
theorem FInv.done {s : SpecD} {w : Int} {l : MI} (hn : s.nodes.length ≤ 300) (h : FInv s s.nodes.length w l) : checkD s = w := by
  rcases h with ⟨h2, h3⟩ | ⟨rfl, h3, o, ⟨h4, h5⟩, h6, h7⟩
  · exact h3
  · rw [checkD_o hn h3 h6, if_neg]
    intro hm
    obtain ⟨j, hj, he⟩ := List.getElem_of_mem hm
    have := h7 j (by omega)
    rw [List.getElem!_eq_getElem?_getD, List.getElem?_eq_getElem hj, Option.getD_some, he] at this
    cases this
set_option maxHeartbeats 2000000 in
theorem schecks_ok {s : SpecD} {a : SpecA} (ho : SpecOk ro s a) (hi : SpecIn s) (hk : ∀ ro' own', K (.bool true) ro' own') : CallOk Try.prog 8 #[.agg (specV s a).toArray] ro own K := by
  refine CallOk.intro (args := [_]) (rs := [_]) T_ok Try.func8 Try.call8 rfl rfl (by kernel_rfl) rfl rfl ?_
  repeat (first
    | (show _ ∧ _; exact ⟨rfl, rfl, rfl⟩)
    | refine wkG ?_
    | (show OpOk _ _ _ _ _ _ _; first | refine opB (fun b => ?_) | refine opA (fun a' c' hc1 hc2 => ?_))
    | (show GJ _ _ _ _ _ _ _; first | (apply GJ.and; exact rfl; intro hg) | (apply GJ.or; exact rfl; intro hg) | refine GJ.t omAuto ?_ | refine GJ.f omAuto ?_ | refine GJ.ft omAuto ?_ | refine GJ.ff omAuto ?_))
  refine builds_ok (fun ro1 hl1 => ?_)
  have ho1 := ho.le hl1
  repeat (first
    | (show _ ∧ _; exact ⟨rfl, rfl, rfl⟩)
    | refine wkT ?_
    | (show OpOk _ _ _ _ _ _ _; first | refine opB (fun b => ?_) | refine opA (fun a' c' hc1 hc2 => ?_))
    | (show GJ _ _ _ _ _ _ _; first | (apply GJ.and; exact rfl; intro hg) | (apply GJ.or; exact rfl; intro hg)))
  refine small_ok ho1 (fun hs => ?_) (fun hs => ?_)
  · repeat (first
      | (show _ ∧ _; exact ⟨rfl, rfl, rfl⟩)
      | refine wkT ?_
      | (show OpOk _ _ _ _ _ _ _; first | refine opB (fun b => ?_) | refine opA (fun a' c' hc1 hc2 => ?_))
      | (show GJ _ _ _ _ _ _ _; first | (apply GJ.and; exact rfl; intro hg) | (apply GJ.or; exact rfl; intro hg)))
    exact Wk.outS (.all _) (.refl _) (hk _ _)
  obtain ⟨hs1, hs2, hs3⟩ := hs
  have hr1 := ho1.nodes
  have hr2 := ho1.defs
  have hm1 := hr1.max
  have hle1 := hr1.le
  have hm2 := hr2.max
  have hle2 := hr2.le
  obtain ⟨p, hp⟩ : ∃ p, p = b := ⟨_, rfl⟩
  subst hp
  repeat (first
    | (show _ ∧ _; exact ⟨rfl, rfl, rfl⟩)
    | refine wkT ?_
    | (show OpOk _ _ _ _ _ _ _; first | refine opB (fun b => ?_) | refine opA (fun a' c' hc1 hc2 => ?_))
    | (show GJ _ _ _ _ _ _ _; first | (apply GJ.and; exact rfl; intro hg) | (apply GJ.or; exact rfl; intro hg)))
  refine OpOk.makeMap (fun bm => ?_)
  repeat (first
    | (show _ ∧ _; exact ⟨rfl, rfl, rfl⟩)
    | refine wkT ?_
    | (show OpOk _ _ _ _ _ _ _; first | refine opB (fun b => ?_) | refine opA (fun a' c' hc1 hc2 => ?_))
    | (show GJ _ _ _ _ _ _ _; first | (apply GJ.and; exact rfl; intro hg) | (apply GJ.or; exact rfl; intro hg)))
  refine SeqOk.cut (ι := Int) (fun w => [(1, .pointer (some ⟨p, 0, none⟩)), (3, .int .i64 w), (4, .map (some bm))]) (fun _ => .obj bm (mapO [] 0) :: .blk p 67 (specV s a) :: own) (fun w r => r = ro1 ∧ w = want0 s) ?_ ?_
  · repeat' (first
      | (show _ ∧ _; exact ⟨rfl, rfl, rfl⟩)
      | refine wkT ?_
      | (show OpOk _ _ _ _ _ _ _; first | refine opB (fun b => ?_) | refine opA (fun a' c' hc1 hc2 => ?_))
      | (show GJ _ _ _ _ _ _ _; first | (apply GJ.and; exact rfl; intro hg) | (apply GJ.or; exact rfl; intro hg))
      | refine SeqOk.pass ?_
      | refine Br.cases (fun h => ?_) (fun h => ?_)
      | (show GJ _ _ _ _ _ _ _; first | refine GJ.casesT (fun h => ?_) (fun h => ?_) | refine GJ.casesF (fun h => ?_) (fun h => ?_))
      | refine Bs.all ?_
      | (show OpOk _ _ _ _ _ _ _; refine OpOk.neqStruct rfl rfl rfl rfl (by kernel_rfl) (by kernel_rfl) (by kernel_rfl) ?_)
      | (show CallOk _ _ _ _ _ _; first | skip))
    all_goals refine Wk.id ⟨_, ⟨rfl, ?_⟩, Sub.auto, Sup.auto⟩
    all_goals (unfold want0; split <;> omega)
  rintro w ro' _ ⟨rfl, rfl⟩
  repeat (first
    | (show _ ∧ _; exact ⟨rfl, rfl, rfl⟩)
    | refine wkT ?_
    | (show OpOk _ _ _ _ _ _ _; first | refine opB (fun b => ?_) | refine opA (fun a' c' hc1 hc2 => ?_))
    | (show GJ _ _ _ _ _ _ _; first | (apply GJ.and; exact rfl; intro hg) | (apply GJ.or; exact rfl; intro hg)))
  refine SeqOk.cut (ι := Int × MI × Nat) (fun (w, l, c) => [(1, .pointer (some ⟨p, 0, none⟩)), (3, .int .i64 w), (4, .map (some bm))]) (fun (w, l, c) => .obj bm (mapO l c) :: .blk p 67 (specV s a) :: own) (fun (w, l, c) r => r = ro' ∧ NDone s w l) ?_ ?_
  · repeat (first
      | (show _ ∧ _; exact ⟨rfl, rfl, rfl⟩)
      | refine wkT ?_
      | (show OpOk _ _ _ _ _ _ _; first | refine opB (fun b => ?_) | refine opA (fun a' c' hc1 hc2 => ?_))
      | (show GJ _ _ _ _ _ _ _; first | (apply GJ.and; exact rfl; intro hg) | (apply GJ.or; exact rfl; intro hg)))
    refine LoopOk.at (ι := Nat × Int × MI × Nat) Keep.auto (fun (i, w, l, c) => [(31, .int .i64 (i : Int)), (3, .int .i64 w)]) (fun (i, w, l, c) => .obj bm (mapO l c) :: .blk p 67 (specV s a) :: own) (fun (i, w, l, c) => i ≤ s.nodes.length ∧ NInv s i w l) (fun (i, w, l, c) => s.nodes.length - i) (0, want0 s, [], 0) ?_ Sub.auto Sup.auto ?_
    · exact ⟨by omega, NInv.zero hs2⟩
    rintro ⟨i, w, l, c⟩ ⟨i1, i2⟩
    dsimp only [List.cons_append, List.nil_append] at i1 i2 ⊢
    repeat (first
      | (show _ ∧ _; exact ⟨rfl, rfl, rfl⟩)
      | refine wkT ?_
      | (show OpOk _ _ _ _ _ _ _; first | refine opB (fun b => ?_) | refine opA (fun a' c' hc1 hc2 => ?_))
      | (show GJ _ _ _ _ _ _ _; first | (apply GJ.and; exact rfl; intro hg) | (apply GJ.or; exact rfl; intro hg)))
    refine Br.cases (fun hg => ?_) (fun hg => ?_)
    · obtain ⟨d, hd⟩ : ∃ d, s.nodes[i]? = some d := ⟨_, List.getElem?_eq_getElem (by omega)⟩
      obtain ⟨x, hx⟩ : ∃ x, a.xs[i]? = some x := ⟨_, List.getElem?_eq_getElem (by rw [ho1.len]; omega)⟩
      have hdr := nodesV_drop _ _ _ _ _ hd hx
      have hno := ho1.each i d x hd hx
      have hfew := hs1 d (List.mem_of_getElem? hd)
      unfold FewD at hfew
      repeat (first
        | (show _ ∧ _; exact ⟨rfl, rfl, rfl⟩)
        | refine wkT ?_
        | (show OpOk _ _ _ _ _ _ _; first | refine opB (fun b => ?_) | refine opA (fun a' c' hc1 hc2 => ?_))
        | (show GJ _ _ _ _ _ _ _; first | (apply GJ.and; exact rfl; intro hg) | (apply GJ.or; exact rfl; intro hg)))
      rw [Int.toNat_natCast]
      refine OpOk.loadRow rfl rfl (LdN.at hr1 hdr) rfl ?_
      repeat (first
        | (show _ ∧ _; exact ⟨rfl, rfl, rfl⟩)
        | refine wkT ?_
        | (show OpOk _ _ _ _ _ _ _; first | refine opB (fun b => ?_) | refine opA (fun a' c' hc1 hc2 => ?_))
        | (show GJ _ _ _ _ _ _ _; first | (apply GJ.and; exact rfl; intro hg) | (apply GJ.or; exact rfl; intro hg)))
      refine Br.cases (fun hw => ?_) (fun hw => ?_)
      · repeat (first
          | (show _ ∧ _; exact ⟨rfl, rfl, rfl⟩)
          | refine wkT ?_
          | (show OpOk _ _ _ _ _ _ _; first | refine opB (fun b => ?_) | refine opA (fun a' c' hc1 hc2 => ?_))
          | (show GJ _ _ _ _ _ _ _; first | (apply GJ.and; exact rfl; intro hg) | (apply GJ.or; exact rfl; intro hg)))
        refine Wk.id ⟨(w, l, c), ⟨rfl, i2.left (by omega) hw⟩, Sub.auto, Sup.auto⟩
      obtain rfl : w = 0 := by omega
      repeat (first
        | (show _ ∧ _; exact ⟨rfl, rfl, rfl⟩)
        | refine wkT ?_
        | (show OpOk _ _ _ _ _ _ _; first | refine opB (fun b => ?_) | refine opA (fun a' c' hc1 hc2 => ?_))
        | (show GJ _ _ _ _ _ _ _; first | (apply GJ.and; exact rfl; intro hg) | (apply GJ.or; exact rfl; intro hg)))
      refine wrong_ok ?_
      repeat (first
        | (show _ ∧ _; exact ⟨rfl, rfl, rfl⟩)
        | refine wkT ?_
        | (show OpOk _ _ _ _ _ _ _; first | refine opB (fun b => ?_) | refine opA (fun a' c' hc1 hc2 => ?_))
        | (show GJ _ _ _ _ _ _ _; first | (apply GJ.and; exact rfl; intro hg) | (apply GJ.or; exact rfl; intro hg)))
      refine Br.cases (fun hf => ?_) (fun hf => ?_)
      · repeat (first
          | (show _ ∧ _; exact ⟨rfl, rfl, rfl⟩)
          | refine wkT ?_
          | (show OpOk _ _ _ _ _ _ _; first | refine opB (fun b => ?_) | refine opA (fun a' c' hc1 hc2 => ?_))
          | (show GJ _ _ _ _ _ _ _; first | (apply GJ.and; exact rfl; intro hg) | (apply GJ.or; exact rfl; intro hg)))
        refine Wk.id ⟨(formD d, l, c), ⟨rfl, i2.wrong hs2 (by omega) hd hf⟩, Sub.auto, Sup.auto⟩
      repeat (first
        | (show _ ∧ _; exact ⟨rfl, rfl, rfl⟩)
        | refine wkT ?_
        | (show OpOk _ _ _ _ _ _ _; first | refine opB (fun b => ?_) | refine opA (fun a' c' hc1 hc2 => ?_))
        | (show GJ _ _ _ _ _ _ _; first | (apply GJ.and; exact rfl; intro hg) | (apply GJ.or; exact rfl; intro hg)))
      obtain ⟨hw0, o, ho, hres⟩ := i2.enter hd (by omega)
      have hkl : (kidsD d).length ≤ 301 := by
        unfold kidsD
        split <;> simp <;> omega
      refine lkids_ok hno ⟨by omega, by omega, by omega⟩ (fun ka n' kc hl' hc1 hc2 => ?_)
      subst hl'
      repeat (first
        | (show _ ∧ _; exact ⟨rfl, rfl, rfl⟩)
        | refine wkT ?_
        | (show OpOk _ _ _ _ _ _ _; first | refine opB (fun b => ?_) | refine opA (fun a' c' hc1 hc2 => ?_))
        | (show GJ _ _ _ _ _ _ _; first | (apply GJ.and; exact rfl; intro hg) | (apply GJ.or; exact rfl; intro hg)))
      refine LoopOk.at (ι := Nat × Int × MI × Nat) Keep.auto (fun (j, w, l, c) => [(45, .int .i64 (j : Int)), (3, .int .i64 w)]) (fun (j, w, l, c) => .obj bm (mapO l c) :: .sl ka (kidsD d).length kc 3 1 (kidsV (kidsD d)) :: .blk p 67 (specV s a) :: own) (fun (j, w, l, c) => j ≤ (kidsD d).length ∧ Few l (1000 * i + j) ∧ KR i s.nodes.length ((kidsD d).drop j) (ownAll i (kidsD d) o) w (getI l)) (fun (j, w, l, c) => (kidsD d).length - j) (0, 0, l, c) ?_ Sub.auto Sup.auto ?_
      · exact ⟨by omega, i2.1, .inr ⟨rfl, o, ho, by rw [List.drop_zero]⟩⟩
      rintro ⟨j, w, l, c⟩ ⟨j1, j2, j3⟩
      dsimp only [List.cons_append, List.nil_append] at j1 j2 j3 ⊢
      repeat (first
        | (show _ ∧ _; exact ⟨rfl, rfl, rfl⟩)
        | refine wkT ?_
        | (show OpOk _ _ _ _ _ _ _; first | refine opB (fun b => ?_) | refine opA (fun a' c' hc1 hc2 => ?_))
        | (show GJ _ _ _ _ _ _ _; first | (apply GJ.and; exact rfl; intro hg) | (apply GJ.or; exact rfl; intro hg)))
      refine Br.cases (fun hg2 => ?_) (fun hg2 => ?_)
      · have hjl : j < (kidsD d).length := by omega
        rw [List.drop_eq_getElem_cons hjl] at j3
        repeat (first
          | (show _ ∧ _; exact ⟨rfl, rfl, rfl⟩)
          | refine wkT ?_
          | (show OpOk _ _ _ _ _ _ _; first | refine opB (fun b => ?_) | refine opA (fun a' c' hc1 hc2 => ?_))
          | (show GJ _ _ _ _ _ _ _; first | (apply GJ.and; exact rfl; intro hg) | (apply GJ.or; exact rfl; intro hg)))
        have hkb : (kidsD d)[(j : Int).toNat]! = (kidsD d)[j] := by rw [Int.toNat_natCast, List.getElem!_eq_getElem?_getD, List.getElem?_eq_getElem hjl]; rfl
        refine SeqOk.pass ?_
        repeat (first
          | (show _ ∧ _; exact ⟨rfl, rfl, rfl⟩)
          | refine wkT ?_
          | (show OpOk _ _ _ _ _ _ _; first | refine opB (fun b => ?_) | refine opA (fun a' c' hc1 hc2 => ?_))
          | (show GJ _ _ _ _ _ _ _; first | (apply GJ.and; exact rfl; intro hg) | (apply GJ.or; exact rfl; intro hg)))
        rw [hkb]
        clear hkb
        generalize (kidsD d)[j] = k at j3 ⊢
        have hfk := j2 k
        by_cases hw : w = 0
        · subst hw
          refine SeqOk.pass ?_
          repeat (first
            | (show _ ∧ _; exact ⟨rfl, rfl, rfl⟩)
            | refine wkT ?_
            | (show OpOk _ _ _ _ _ _ _; first | refine opB (fun b => ?_) | refine opA (fun a' c' hc1 hc2 => ?_))
            | (show GJ _ _ _ _ _ _ _; first | (apply GJ.and; exact rfl; intro hg) | (apply GJ.or; exact rfl; intro hg)))
          refine Br.cases (fun h1 => ?_) (fun h1 => ?_)
          · repeat (first
              | (show _ ∧ _; exact ⟨rfl, rfl, rfl⟩)
              | refine wkT ?_
              | (show OpOk _ _ _ _ _ _ _; first | refine opB (fun b => ?_) | refine opA (fun a' c' hc1 hc2 => ?_))
              | (show GJ _ _ _ _ _ _ _; first | (apply GJ.and; exact rfl; intro hg) | (apply GJ.or; exact rfl; intro hg)))
            refine OpOk.lookupI (kt := 3) (et := 3) rfl rfl (by kernel_rfl) (by kernel_rfl) (by kernel_rfl) ?_
            repeat (first
              | (show _ ∧ _; exact ⟨rfl, rfl, rfl⟩)
              | refine wkT ?_
              | (show OpOk _ _ _ _ _ _ _; first | refine opB (fun b => ?_) | refine opA (fun a' c' hc1 hc2 => ?_))
              | (show GJ _ _ _ _ _ _ _; first | (apply GJ.and; exact rfl; intro hg) | (apply GJ.or; exact rfl; intro hg)))
            refine OpOk.mapUpdateI (kt := 3) (et := 3) rfl rfl rfl (by kernel_rfl) (by kernel_rfl) (fun c' => ?_)
            repeat (first
              | (show _ ∧ _; exact ⟨rfl, rfl, rfl⟩)
              | refine wkT ?_
              | (show OpOk _ _ _ _ _ _ _; first | refine opB (fun b => ?_) | refine opA (fun a' c' hc1 hc2 => ?_))
              | (show GJ _ _ _ _ _ _ _; first | (apply GJ.and; exact rfl; intro hg) | (apply GJ.or; exact rfl; intro hg)))
            repeat (first
              | (show _ ∧ _; exact ⟨rfl, rfl, rfl⟩)
              | refine wkT ?_
              | (show OpOk _ _ _ _ _ _ _; first | refine opB (fun b => ?_) | refine opA (fun a' c' hc1 hc2 => ?_))
              | (show GJ _ _ _ _ _ _ _; first | (apply GJ.and; exact rfl; intro hg) | (apply GJ.or; exact rfl; intro hg)))
            refine Wk.id ⟨(j + 1, 3, putI l c k (getI l k + 1), c'), ⟨rfl, ?_⟩, ?_, Sub.auto, Sup.auto⟩
            all_goals try dsimp only
            · exact ⟨by omega, j2.put (by omega) (by omega), j3.step (by omega) (fun q => getI_putI _ _ _ _ _) (by rw [if_pos ⟨rfl, by omega⟩])⟩
            · omega
          · repeat (first
              | (show _ ∧ _; exact ⟨rfl, rfl, rfl⟩)
              | refine wkT ?_
              | (show OpOk _ _ _ _ _ _ _; first | refine opB (fun b => ?_) | refine opA (fun a' c' hc1 hc2 => ?_))
              | (show GJ _ _ _ _ _ _ _; first | (apply GJ.and; exact rfl; intro hg) | (apply GJ.or; exact rfl; intro hg)))
            refine OpOk.lookupI (kt := 3) (et := 3) rfl rfl (by kernel_rfl) (by kernel_rfl) (by kernel_rfl) ?_
            repeat (first
              | (show _ ∧ _; exact ⟨rfl, rfl, rfl⟩)
              | refine wkT ?_
              | (show OpOk _ _ _ _ _ _ _; first | refine opB (fun b => ?_) | refine opA (fun a' c' hc1 hc2 => ?_))
              | (show GJ _ _ _ _ _ _ _; first | (apply GJ.and; exact rfl; intro hg) | (apply GJ.or; exact rfl; intro hg)))
            refine OpOk.mapUpdateI (kt := 3) (et := 3) rfl rfl rfl (by kernel_rfl) (by kernel_rfl) (fun c' => ?_)
            repeat (first
              | (show _ ∧ _; exact ⟨rfl, rfl, rfl⟩)
              | refine wkT ?_
              | (show OpOk _ _ _ _ _ _ _; first | refine opB (fun b => ?_) | refine opA (fun a' c' hc1 hc2 => ?_))
              | (show GJ _ _ _ _ _ _ _; first | (apply GJ.and; exact rfl; intro hg) | (apply GJ.or; exact rfl; intro hg)))
            refine OpOk.lookupI (kt := 3) (et := 3) rfl rfl (by kernel_rfl) (by kernel_rfl) (by kernel_rfl) ?_
            repeat (first
              | (show _ ∧ _; exact ⟨rfl, rfl, rfl⟩)
              | refine wkT ?_
              | (show OpOk _ _ _ _ _ _ _; first | refine opB (fun b => ?_) | refine opA (fun a' c' hc1 hc2 => ?_))
              | (show GJ _ _ _ _ _ _ _; first | (apply GJ.and; exact rfl; intro hg) | (apply GJ.or; exact rfl; intro hg)))
            refine Br.cases (fun h2 => ?_) (fun h2 => ?_)
            · rw [getI_putI, if_pos rfl] at h2
              repeat (first
                | (show _ ∧ _; exact ⟨rfl, rfl, rfl⟩)
                | refine wkT ?_
                | (show OpOk _ _ _ _ _ _ _; first | refine opB (fun b => ?_) | refine opA (fun a' c' hc1 hc2 => ?_))
                | (show GJ _ _ _ _ _ _ _; first | (apply GJ.and; exact rfl; intro hg) | (apply GJ.or; exact rfl; intro hg)))
              refine Wk.id ⟨(j + 1, 4, putI l c k (getI l k + 1), c'), ⟨rfl, ?_⟩, ?_, Sub.auto, Sup.auto⟩
              all_goals try dsimp only
              · exact ⟨by omega, j2.put (by omega) (by omega), j3.step (by omega) (fun q => getI_putI _ _ _ _ _) (by rw [if_neg (by omega), if_pos ⟨rfl, by omega⟩])⟩
              · omega
            · rw [getI_putI, if_pos rfl] at h2
              repeat (first
                | (show _ ∧ _; exact ⟨rfl, rfl, rfl⟩)
                | refine wkT ?_
                | (show OpOk _ _ _ _ _ _ _; first | refine opB (fun b => ?_) | refine opA (fun a' c' hc1 hc2 => ?_))
                | (show GJ _ _ _ _ _ _ _; first | (apply GJ.and; exact rfl; intro hg) | (apply GJ.or; exact rfl; intro hg)))
              refine Wk.id ⟨(j + 1, 0, putI l c k (getI l k + 1), c'), ⟨rfl, ?_⟩, ?_, Sub.auto, Sup.auto⟩
              all_goals try dsimp only
              · exact ⟨by omega, j2.put (by omega) (by omega), j3.step (by omega) (fun q => getI_putI _ _ _ _ _) (by rw [if_neg (by omega), if_neg (by omega)])⟩
              · omega
        · refine SeqOk.pass ?_
          repeat (first
            | (show _ ∧ _; exact ⟨rfl, rfl, rfl⟩)
            | refine wkT ?_
            | (show OpOk _ _ _ _ _ _ _; first | refine opB (fun b => ?_) | refine opA (fun a' c' hc1 hc2 => ?_))
            | (show GJ _ _ _ _ _ _ _; first | (apply GJ.and; exact rfl; intro hg) | (apply GJ.or; exact rfl; intro hg)))
          refine OpOk.lookupI (kt := 3) (et := 3) rfl rfl (by kernel_rfl) (by kernel_rfl) (by kernel_rfl) ?_
          repeat (first
            | (show _ ∧ _; exact ⟨rfl, rfl, rfl⟩)
            | refine wkT ?_
            | (show OpOk _ _ _ _ _ _ _; first | refine opB (fun b => ?_) | refine opA (fun a' c' hc1 hc2 => ?_))
            | (show GJ _ _ _ _ _ _ _; first | (apply GJ.and; exact rfl; intro hg) | (apply GJ.or; exact rfl; intro hg)))
          refine OpOk.mapUpdateI (kt := 3) (et := 3) rfl rfl rfl (by kernel_rfl) (by kernel_rfl) (fun c' => ?_)
          repeat (first
            | (show _ ∧ _; exact ⟨rfl, rfl, rfl⟩)
            | refine wkT ?_
            | (show OpOk _ _ _ _ _ _ _; first | refine opB (fun b => ?_) | refine opA (fun a' c' hc1 hc2 => ?_))
            | (show GJ _ _ _ _ _ _ _; first | (apply GJ.and; exact rfl; intro hg) | (apply GJ.or; exact rfl; intro hg)))
          refine Wk.id ⟨(j + 1, w, putI l c k (getI l k + 1), c'), ⟨rfl, ?_⟩, ?_, Sub.auto, Sup.auto⟩
          all_goals try dsimp only
          · exact ⟨by omega, j2.put (by omega) (by omega), j3.step (by omega) (fun q => getI_putI _ _ _ _ _) (by rw [if_neg (by omega), if_neg (by omega)])⟩
          · omega
      · obtain rfl : j = (kidsD d).length := by omega
        rw [List.drop_length] at j3
        repeat (first
          | (show _ ∧ _; exact ⟨rfl, rfl, rfl⟩)
          | refine wkT ?_
          | (show OpOk _ _ _ _ _ _ _; first | refine opB (fun b => ?_) | refine opA (fun a' c' hc1 hc2 => ?_))
          | (show GJ _ _ _ _ _ _ _; first | (apply GJ.and; exact rfl; intro hg) | (apply GJ.or; exact rfl; intro hg)))
        refine Wk.id ⟨(i + 1, _, _, _), ⟨rfl, ?_⟩, ?_, Sub.auto, Sup.auto⟩
        all_goals try dsimp only
        · exact ⟨by omega, NInv.next hs2 hw0 (fun k => by have := j2 k; omega) hres j3⟩
        · omega
    · obtain rfl : i = s.nodes.length := by omega
      repeat (first
        | (show _ ∧ _; exact ⟨rfl, rfl, rfl⟩)
        | refine wkT ?_
        | (show OpOk _ _ _ _ _ _ _; first | refine opB (fun b => ?_) | refine opA (fun a' c' hc1 hc2 => ?_))
        | (show GJ _ _ _ _ _ _ _; first | (apply GJ.and; exact rfl; intro hg) | (apply GJ.or; exact rfl; intro hg)))
      refine Wk.id ⟨(w, l, c), ⟨rfl, i2.done hs2⟩, Sub.auto, Sup.auto⟩
  rintro ⟨w, l, c⟩ ro' _ ⟨rfl, j1⟩
  dsimp only [List.cons_append, List.nil_append] at j1 ⊢
  repeat (first
    | (show _ ∧ _; exact ⟨rfl, rfl, rfl⟩)
    | refine wkT ?_
    | (show OpOk _ _ _ _ _ _ _; first | refine opB (fun b => ?_) | refine opA (fun a' c' hc1 hc2 => ?_))
    | (show GJ _ _ _ _ _ _ _; first | (apply GJ.and; exact rfl; intro hg) | (apply GJ.or; exact rfl; intro hg)))
  refine LoopOk.at (ι := Nat × Int × MI × Nat) Keep.auto (fun (j, w, l, c) => [(77, .int .i64 (j : Int)), (3, .int .i64 w)]) (fun (j, w, l, c) => .obj bm (mapO l c) :: .blk p 67 (specV s a) :: own) (fun (j, w, l, c) => j ≤ s.defs.length ∧ DInv s j w l) (fun (j, w, l, c) => s.defs.length - j) (0, w, l, c) ?_ Sub.auto Sup.auto ?_
  · exact ⟨by omega, j1.defs⟩
  rintro ⟨j, w, l, c⟩ ⟨j1, j2⟩
  dsimp only [List.cons_append, List.nil_append] at j1 j2 ⊢
  repeat (first
    | (show _ ∧ _; exact ⟨rfl, rfl, rfl⟩)
    | refine wkT ?_
    | (show OpOk _ _ _ _ _ _ _; first | refine opB (fun b => ?_) | refine opA (fun a' c' hc1 hc2 => ?_))
    | (show GJ _ _ _ _ _ _ _; first | (apply GJ.and; exact rfl; intro hg) | (apply GJ.or; exact rfl; intro hg)))
  refine Br.cases (fun hg => ?_) (fun hg => ?_)
  · have hdr := defsV_drop s.defs (i := j) (by omega)
    have hd := List.getElem?_eq_getElem (show j < s.defs.length by omega)
    generalize s.defs[j]'(by omega) = f at hdr hd
    have hfk := j2.1 f.type
    repeat (first
      | (show _ ∧ _; exact ⟨rfl, rfl, rfl⟩)
      | refine wkT ?_
      | (show OpOk _ _ _ _ _ _ _; first | refine opB (fun b => ?_) | refine opA (fun a' c' hc1 hc2 => ?_))
      | (show GJ _ _ _ _ _ _ _; first | (apply GJ.and; exact rfl; intro hg) | (apply GJ.or; exact rfl; intro hg)))
    refine SeqOk.pass ?_
    repeat (first
      | (show _ ∧ _; exact ⟨rfl, rfl, rfl⟩)
      | refine wkT ?_
      | (show OpOk _ _ _ _ _ _ _; first | refine opB (fun b => ?_) | refine opA (fun a' c' hc1 hc2 => ?_))
      | (show GJ _ _ _ _ _ _ _; first | (apply GJ.and; exact rfl; intro hg) | (apply GJ.or; exact rfl; intro hg)))
    rw [Int.toNat_natCast]
    refine OpOk.loadRow rfl rfl (LdN.at hr2 hdr) rfl ?_
    repeat (first
      | (show _ ∧ _; exact ⟨rfl, rfl, rfl⟩)
      | refine wkT ?_
      | (show OpOk _ _ _ _ _ _ _; first | refine opB (fun b => ?_) | refine opA (fun a' c' hc1 hc2 => ?_))
      | (show GJ _ _ _ _ _ _ _; first | (apply GJ.and; exact rfl; intro hg) | (apply GJ.or; exact rfl; intro hg)))
    by_cases hw : w = 0
    · subst hw
      refine SeqOk.pass ?_
      repeat (first
        | (show _ ∧ _; exact ⟨rfl, rfl, rfl⟩)
        | refine wkT ?_
        | (show OpOk _ _ _ _ _ _ _; first | refine opB (fun b => ?_) | refine opA (fun a' c' hc1 hc2 => ?_))
        | (show GJ _ _ _ _ _ _ _; first | (apply GJ.and; exact rfl; intro hg) | (apply GJ.or; exact rfl; intro hg)))
      refine Br.cases (fun h1 => ?_) (fun h1 => ?_)
      · repeat (first
          | (show _ ∧ _; exact ⟨rfl, rfl, rfl⟩)
          | refine wkT ?_
          | (show OpOk _ _ _ _ _ _ _; first | refine opB (fun b => ?_) | refine opA (fun a' c' hc1 hc2 => ?_))
          | (show GJ _ _ _ _ _ _ _; first | (apply GJ.and; exact rfl; intro hg) | (apply GJ.or; exact rfl; intro hg)))
        refine OpOk.lookupI (kt := 3) (et := 3) rfl rfl (by kernel_rfl) (by kernel_rfl) (by kernel_rfl) ?_
        repeat (first
          | (show _ ∧ _; exact ⟨rfl, rfl, rfl⟩)
          | refine wkT ?_
          | (show OpOk _ _ _ _ _ _ _; first | refine opB (fun b => ?_) | refine opA (fun a' c' hc1 hc2 => ?_))
          | (show GJ _ _ _ _ _ _ _; first | (apply GJ.and; exact rfl; intro hg) | (apply GJ.or; exact rfl; intro hg)))
        refine OpOk.mapUpdateI (kt := 3) (et := 3) rfl rfl rfl (by kernel_rfl) (by kernel_rfl) (fun c' => ?_)
        repeat (first
          | (show _ ∧ _; exact ⟨rfl, rfl, rfl⟩)
          | refine wkT ?_
          | (show OpOk _ _ _ _ _ _ _; first | refine opB (fun b => ?_) | refine opA (fun a' c' hc1 hc2 => ?_))
          | (show GJ _ _ _ _ _ _ _; first | (apply GJ.and; exact rfl; intro hg) | (apply GJ.or; exact rfl; intro hg)))
        refine Wk.id ⟨(j + 1, 3, _, c'), ⟨rfl, ?_⟩, ?_, Sub.auto, Sup.auto⟩
        all_goals try dsimp only
        · exact ⟨by omega, j2.step hs2 hd rfl (by rw [if_pos ⟨rfl, by omega⟩])⟩
        · omega
      · repeat (first
          | (show _ ∧ _; exact ⟨rfl, rfl, rfl⟩)
          | refine wkT ?_
          | (show OpOk _ _ _ _ _ _ _; first | refine opB (fun b => ?_) | refine opA (fun a' c' hc1 hc2 => ?_))
          | (show GJ _ _ _ _ _ _ _; first | (apply GJ.and; exact rfl; intro hg) | (apply GJ.or; exact rfl; intro hg)))
        refine OpOk.lookupI (kt := 3) (et := 3) rfl rfl (by kernel_rfl) (by kernel_rfl) (by kernel_rfl) ?_
        repeat (first
          | (show _ ∧ _; exact ⟨rfl, rfl, rfl⟩)
          | refine wkT ?_
          | (show OpOk _ _ _ _ _ _ _; first | refine opB (fun b => ?_) | refine opA (fun a' c' hc1 hc2 => ?_))
          | (show GJ _ _ _ _ _ _ _; first | (apply GJ.and; exact rfl; intro hg) | (apply GJ.or; exact rfl; intro hg)))
        refine OpOk.mapUpdateI (kt := 3) (et := 3) rfl rfl rfl (by kernel_rfl) (by kernel_rfl) (fun c' => ?_)
        repeat (first
          | (show _ ∧ _; exact ⟨rfl, rfl, rfl⟩)
          | refine wkT ?_
          | (show OpOk _ _ _ _ _ _ _; first | refine opB (fun b => ?_) | refine opA (fun a' c' hc1 hc2 => ?_))
          | (show GJ _ _ _ _ _ _ _; first | (apply GJ.and; exact rfl; intro hg) | (apply GJ.or; exact rfl; intro hg)))
        refine OpOk.lookupI (kt := 3) (et := 3) rfl rfl (by kernel_rfl) (by kernel_rfl) (by kernel_rfl) ?_
        repeat (first
          | (show _ ∧ _; exact ⟨rfl, rfl, rfl⟩)
          | refine wkT ?_
          | (show OpOk _ _ _ _ _ _ _; first | refine opB (fun b => ?_) | refine opA (fun a' c' hc1 hc2 => ?_))
          | (show GJ _ _ _ _ _ _ _; first | (apply GJ.and; exact rfl; intro hg) | (apply GJ.or; exact rfl; intro hg)))
        refine Br.cases (fun h2 => ?_) (fun h2 => ?_)
        · rw [getI_putI, if_pos rfl] at h2
          repeat (first
            | (show _ ∧ _; exact ⟨rfl, rfl, rfl⟩)
            | refine wkT ?_
            | (show OpOk _ _ _ _ _ _ _; first | refine opB (fun b => ?_) | refine opA (fun a' c' hc1 hc2 => ?_))
            | (show GJ _ _ _ _ _ _ _; first | (apply GJ.and; exact rfl; intro hg) | (apply GJ.or; exact rfl; intro hg)))
          refine Wk.id ⟨(j + 1, 4, _, c'), ⟨rfl, ?_⟩, ?_, Sub.auto, Sup.auto⟩
          all_goals try dsimp only
          · exact ⟨by omega, j2.step hs2 hd rfl (by rw [if_neg (by omega), if_pos ⟨rfl, by omega⟩])⟩
          · omega
        · rw [getI_putI, if_pos rfl] at h2
          repeat (first
            | (show _ ∧ _; exact ⟨rfl, rfl, rfl⟩)
            | refine wkT ?_
            | (show OpOk _ _ _ _ _ _ _; first | refine opB (fun b => ?_) | refine opA (fun a' c' hc1 hc2 => ?_))
            | (show GJ _ _ _ _ _ _ _; first | (apply GJ.and; exact rfl; intro hg) | (apply GJ.or; exact rfl; intro hg)))
          refine Wk.id ⟨(j + 1, 0, _, c'), ⟨rfl, ?_⟩, ?_, Sub.auto, Sup.auto⟩
          all_goals try dsimp only
          · exact ⟨by omega, j2.step hs2 hd rfl (by rw [if_neg (by omega), if_neg (by omega)])⟩
          · omega
    · refine SeqOk.pass ?_
      repeat (first
        | (show _ ∧ _; exact ⟨rfl, rfl, rfl⟩)
        | refine wkT ?_
        | (show OpOk _ _ _ _ _ _ _; first | refine opB (fun b => ?_) | refine opA (fun a' c' hc1 hc2 => ?_))
        | (show GJ _ _ _ _ _ _ _; first | (apply GJ.and; exact rfl; intro hg) | (apply GJ.or; exact rfl; intro hg)))
      refine OpOk.lookupI (kt := 3) (et := 3) rfl rfl (by kernel_rfl) (by kernel_rfl) (by kernel_rfl) ?_
      repeat (first
        | (show _ ∧ _; exact ⟨rfl, rfl, rfl⟩)
        | refine wkT ?_
        | (show OpOk _ _ _ _ _ _ _; first | refine opB (fun b => ?_) | refine opA (fun a' c' hc1 hc2 => ?_))
        | (show GJ _ _ _ _ _ _ _; first | (apply GJ.and; exact rfl; intro hg) | (apply GJ.or; exact rfl; intro hg)))
      refine OpOk.mapUpdateI (kt := 3) (et := 3) rfl rfl rfl (by kernel_rfl) (by kernel_rfl) (fun c' => ?_)
      repeat (first
        | (show _ ∧ _; exact ⟨rfl, rfl, rfl⟩)
        | refine wkT ?_
        | (show OpOk _ _ _ _ _ _ _; first | refine opB (fun b => ?_) | refine opA (fun a' c' hc1 hc2 => ?_))
        | (show GJ _ _ _ _ _ _ _; first | (apply GJ.and; exact rfl; intro hg) | (apply GJ.or; exact rfl; intro hg)))
      refine Wk.id ⟨(j + 1, w, _, c'), ⟨rfl, ?_⟩, ?_, Sub.auto, Sup.auto⟩
      all_goals try dsimp only
      · exact ⟨by omega, j2.step hs2 hd rfl (by rw [if_neg (by omega), if_neg (by omega)])⟩
      · omega
  · obtain rfl : j = s.defs.length := by omega
    have j3 := j2.last
    clear j2
    repeat (first
      | (show _ ∧ _; exact ⟨rfl, rfl, rfl⟩)
      | refine wkT ?_
      | (show OpOk _ _ _ _ _ _ _; first | refine opB (fun b => ?_) | refine opA (fun a' c' hc1 hc2 => ?_))
      | (show GJ _ _ _ _ _ _ _; first | (apply GJ.and; exact rfl; intro hg) | (apply GJ.or; exact rfl; intro hg)))
    refine LoopOk.at (ι := Nat × Int) Keep.auto (fun (i, w) => [(114, .int .i64 (i : Int)), (3, .int .i64 w)]) (fun (i, w) => .obj bm (mapO l c) :: .blk p 67 (specV s a) :: own) (fun (i, w) => i ≤ s.nodes.length ∧ FInv s i w l) (fun (i, w) => s.nodes.length - i) (0, w) ?_ Sub.auto Sup.auto ?_
    · exact ⟨by omega, j3⟩
    rintro ⟨i, w⟩ ⟨i1, i2⟩
    dsimp only [List.cons_append, List.nil_append] at i1 i2 ⊢
    repeat (first
      | (show _ ∧ _; exact ⟨rfl, rfl, rfl⟩)
      | refine wkT ?_
      | (show OpOk _ _ _ _ _ _ _; first | refine opB (fun b => ?_) | refine opA (fun a' c' hc1 hc2 => ?_))
      | (show GJ _ _ _ _ _ _ _; first | (apply GJ.and; exact rfl; intro hg) | (apply GJ.or; exact rfl; intro hg)))
    refine Br.cases (fun hg => ?_) (fun hg => ?_)
    · repeat (first
        | (show _ ∧ _; exact ⟨rfl, rfl, rfl⟩)
        | refine wkT ?_
        | (show OpOk _ _ _ _ _ _ _; first | refine opB (fun b => ?_) | refine opA (fun a' c' hc1 hc2 => ?_))
        | (show GJ _ _ _ _ _ _ _; first | (apply GJ.and; exact rfl; intro hg) | (apply GJ.or; exact rfl; intro hg)))
      by_cases hw : w = 0
      · subst hw
        refine SeqOk.pass ?_
        repeat (first
          | (show _ ∧ _; exact ⟨rfl, rfl, rfl⟩)
          | refine wkT ?_
          | (show OpOk _ _ _ _ _ _ _; first | refine opB (fun b => ?_) | refine opA (fun a' c' hc1 hc2 => ?_))
          | (show GJ _ _ _ _ _ _ _; first | (apply GJ.and; exact rfl; intro hg) | (apply GJ.or; exact rfl; intro hg)))
        refine OpOk.lookupI (kt := 3) (et := 3) rfl rfl (by kernel_rfl) (by kernel_rfl) (by kernel_rfl) ?_
        repeat (first
          | (show _ ∧ _; exact ⟨rfl, rfl, rfl⟩)
          | refine wkT ?_
          | (show OpOk _ _ _ _ _ _ _; first | refine opB (fun b => ?_) | refine opA (fun a' c' hc1 hc2 => ?_))
          | (show GJ _ _ _ _ _ _ _; first | (apply GJ.and; exact rfl; intro hg) | (apply GJ.or; exact rfl; intro hg)))
        refine Br.cases (fun h2 => ?_) (fun h2 => ?_)
        · repeat (first
            | (show _ ∧ _; exact ⟨rfl, rfl, rfl⟩)
            | refine wkT ?_
            | (show OpOk _ _ _ _ _ _ _; first | refine opB (fun b => ?_) | refine opA (fun a' c' hc1 hc2 => ?_))
            | (show GJ _ _ _ _ _ _ _; first | (apply GJ.and; exact rfl; intro hg) | (apply GJ.or; exact rfl; intro hg)))
          refine Wk.id ⟨(i + 1, 3), ⟨rfl, ?_⟩, ?_, Sub.auto, Sup.auto⟩
          all_goals try dsimp only
          · exact ⟨by omega, i2.step hs2 (by omega) (by rw [if_pos ⟨rfl, h2⟩])⟩
          · omega
        · repeat (first
            | (show _ ∧ _; exact ⟨rfl, rfl, rfl⟩)
            | refine wkT ?_
            | (show OpOk _ _ _ _ _ _ _; first | refine opB (fun b => ?_) | refine opA (fun a' c' hc1 hc2 => ?_))
            | (show GJ _ _ _ _ _ _ _; first | (apply GJ.and; exact rfl; intro hg) | (apply GJ.or; exact rfl; intro hg)))
          refine Wk.id ⟨(i + 1, 0), ⟨rfl, ?_⟩, ?_, Sub.auto, Sup.auto⟩
          all_goals try dsimp only
          · exact ⟨by omega, i2.step hs2 (by omega) (by rw [if_neg (by omega)])⟩
          · omega
      · refine SeqOk.pass ?_
        repeat (first
          | (show _ ∧ _; exact ⟨rfl, rfl, rfl⟩)
          | refine wkT ?_
          | (show OpOk _ _ _ _ _ _ _; first | refine opB (fun b => ?_) | refine opA (fun a' c' hc1 hc2 => ?_))
          | (show GJ _ _ _ _ _ _ _; first | (apply GJ.and; exact rfl; intro hg) | (apply GJ.or; exact rfl; intro hg)))
        refine Wk.id ⟨(i + 1, w), ⟨rfl, ?_⟩, ?_, Sub.auto, Sup.auto⟩
        all_goals try dsimp only
        · exact ⟨by omega, i2.step hs2 (by omega) (by rw [if_neg (by omega)])⟩
        · omega
    · obtain rfl : i = s.nodes.length := by omega
      have hfin := i2.done hs2
      repeat (first
        | (show _ ∧ _; exact ⟨rfl, rfl, rfl⟩)
        | refine wkT ?_
        | (show OpOk _ _ _ _ _ _ _; first | refine opB (fun b => ?_) | refine opA (fun a' c' hc1 hc2 => ?_))
        | (show GJ _ _ _ _ _ _ _; first | (apply GJ.and; exact rfl; intro hg) | (apply GJ.or; exact rfl; intro hg)))
      refine check_ok ho1 ?_
      rw [hfin]
      repeat (first
        | (show _ ∧ _; exact ⟨rfl, rfl, rfl⟩)
        | refine wkT ?_
        | (show OpOk _ _ _ _ _ _ _; first | refine opB (fun b => ?_) | refine opA (fun a' c' hc1 hc2 => ?_))
        | (show GJ _ _ _ _ _ _ _; first | (apply GJ.and; exact rfl; intro hg) | (apply GJ.or; exact rfl; intro hg)))
      exact Wk.outV (.all _) (hk _ _) (by simp; rfl)
end
end Go.Proofs.Ytpjiaafkcojddaa
