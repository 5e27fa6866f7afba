/- Texts of a walk, one behind the other. -/
import Derived.DeepKeys5
import Derived.Test.YtnapjcnfgdkmcaaGreatDoorMg3
import Derived.Test.YtnapjcnfgdkmcaaGreatDoorMg7
import Derived.Test.YtnapjcnfgdkmcaaGreatDoorMg8
section
/- Contracts of reg: sized, apart, derived. -/
namespace Go.Proofs.YtnapjcnfgdkmcaaGreatDoor
open Go Go.E
set_option linter.unusedVariables false
set_option linter.unusedSectionVars false
set_option linter.unusedSimpArgs false
set_option maxRecDepth 10000
def lkV (q : Nat × Nat × Nat) : Value := .agg #[.int .i64 (q.1 : Int), .int .i64 (q.2.1 : Int), .int .i64 (q.2.2 : Int)]
structure LkM (lk : Lk) (M : List (Int × (Nat × Nat × Nat) × Nat)) : Prop where
  map : MapOk (fun _ : Int => True) M
  is : ∀ x : Nat, getG M (x : Int) = (lk x).map (fun p => (x, p.1, p.2))
theorem LkM.nil : LkM noLk [] := ⟨MapOk.nil, fun x => rfl⟩
theorem LkM.put {lk : Lk} {M : List (Int × (Nat × Nat × Nat) × Nat)} (h : LkM lk M) (x r f c : Nat) : LkM (putLk lk x r f) (putG M c (x : Int) (x, r, f)) := by
  refine ⟨h.map.put trivial c _, fun y => ?_⟩
  rw [getG_putG]
  unfold putLk
  by_cases hy : y = x
  · subst hy; simp
  · rw [if_neg (by omega), if_neg hy]; exact h.is y
/-- Each link goes to a field that there is. -/
def LkIn (s : SpecD) (lk : Lk) : Prop := ∀ x r f, lk x = some (r, f) → ∃ d, s.nodes[r]? = some d ∧ f < d.fields.length
theorem fields_rec {d : NodeD} (hf : formD d = 0) (h : 0 < d.fields.length) : d.kind = 5 := by
  unfold formD at hf
  split at hf
  · cases hf
  split at hf
  · cases hf
  split at hf
  · cases hf
  split at hf
  · cases hf
  omega
theorem field_get {l : List FieldD} {i o : Nat} {f : FieldD} (hf : l[i]? = some f) (ho : o < 5) : (fieldsV l)[i * 5 + o]? = (fieldV f)[o]? := by
  have hi := (List.getElem?_eq_some_iff.1 hf).1
  have h := fieldsV_drop l hi
  rw [show l[i] = f from Option.some.inj ((List.getElem?_eq_getElem hi).symm.trans hf)] at h
  rw [← h, List.getElem?_take_of_lt ho, List.getElem?_drop]
section
variable {ro : Ro} {K : Value → Ro → Chs → Prop} {s : SpecD} {a : SpecA} {p bm cM : Nat} {M : List (Int × (Nat × Nat × Nat) × Nat)} {G : Chs}
set_option maxHeartbeats 4000000 in
theorem sized_ok (ho : SpecOk ro s a) (hv : Ahead s) {t r f : Nat} {d : NodeD} (hd : s.nodes[r]? = some d) (hf : f < d.fields.length) (hk : K (.bool (sizedR s r f)) ro (.blk p 138 (specV s a ++ [.map (some bm)]) :: .obj bm (mapG (Value.int .i64) lkV M cM) :: G)) :
    CallOk Tryz.prog 166 #[ptr' p, .agg #[.int .i64 (t : Int), .int .i64 (r : Int), .int .i64 (f : Int)]] ro (.blk p 138 (specV s a ++ [.map (some bm)]) :: .obj bm (mapG (Value.int .i64) lkV M cM) :: G) K := by
  have hr1 := ho.nodes
  have hm := hr1.max
  have hnc := hr1.le
  unfold maxLen at hm
  obtain ⟨x, hx⟩ : ∃ x, a.xs[r]? = some x := ⟨_, List.getElem?_eq_getElem (by rw [ho.len]; exact (List.getElem?_eq_some_iff.1 hd).1)⟩
  have hrl := (List.getElem?_eq_some_iff.1 hd).1
  have hn1 := ho.each r d x hd hx
  have hfr := hn1.fields
  have hfm := hfr.max
  have hfl := hfr.le
  unfold maxLen at hfm
  have hdr1 := nodesV_drop _ _ _ _ _ hd hx
  obtain ⟨hfo, hks⟩ := hv r d hd
  have h5 := fields_rec hfo (by omega)
  obtain ⟨g, hg⟩ : ∃ g, d.fields[f]? = some g := ⟨_, List.getElem?_eq_getElem hf⟩
  have hge : d.fields[f] = g := Option.some.inj ((List.getElem?_eq_getElem hf).symm.trans hg)
  have hgd := fieldsV_drop d.fields hf
  rw [hge] at hgd
  unfold sizedR at hk
  rw [hd] at hk
  dsimp only at hk
  rw [hg] at hk
  dsimp only at hk
  refine CallOk.intro (args := [_, _]) (rs := [_]) T_ok Tryz.func166 Tryz.call166 rfl rfl (by kernel_rfl) rfl rfl ?_
  repeat (first | exact endA | refine wkP ?_ | refine opB (fun b => ?_) | refine opA (fun a' c' hc1 hc2 => ?_) | (apply GJ.and; exact rfl; intro hg) | (apply GJ.or; exact rfl; intro hg))
  rw [Int.toNat_natCast]
  refine QOk.loadRow rfl rfl (LdN.at hr1 hdr1) rfl ?_
  repeat (first | exact endA | refine wkP ?_ | refine opB (fun b => ?_) | refine opA (fun a' c' hc1 hc2 => ?_) | (apply GJ.and; exact rfl; intro hg) | (apply GJ.or; exact rfl; intro hg))
  rw [Int.toNat_natCast]
  refine OpOk.loadRow rfl rfl (LdN.at hfr hgd) rfl ?_
  repeat (first | exact endA | refine wkP ?_ | refine opB (fun b => ?_) | refine opA (fun a' c' hc1 hc2 => ?_) | (apply GJ.and; exact rfl; intro hg) | (apply GJ.or; exact rfl; intro hg))
  refine rindex_ok hn1 ?_
  have hix := idx_spec d g.of
  by_cases h1 : g.derive = 1
  rotate_left
  · rw [decide_eq_false h1, Bool.false_and, Bool.false_and] at hk
    generalize idxR' d g.of = z at *
    repeat (first | exact endA | refine wkP ?_ | refine opB (fun b => ?_) | refine opA (fun a' c' hc1 hc2 => ?_) | (apply GJ.and; exact rfl; intro hg) | (apply GJ.or; exact rfl; intro hg))
    exact Wk.outS Sup.auto (.refl _) hk
  rw [decide_eq_true h1, Bool.true_and] at hk
  rcases hix with ⟨e1, _⟩ | ⟨j, h, e1, e2, e3⟩
  · rw [e1, show decide ((0 : Int) ≤ -1) = false by decide, Bool.false_and] at hk
    rw [e1]
    repeat (first | exact endA | refine wkP ?_ | refine opB (fun b => ?_) | refine opA (fun a' c' hc1 hc2 => ?_) | (apply GJ.and; exact rfl; intro hg) | (apply GJ.or; exact rfl; intro hg))
    exact Wk.outS Sup.auto (.refl _) hk
  have hjl := (List.getElem?_eq_some_iff.1 e2).1
  have hht : h.type ∈ kidsD d := by rw [kids_rec hfo h5]; exact List.mem_map.2 ⟨h, List.mem_of_getElem? e2, rfl⟩
  obtain ⟨q1, q2⟩ := hks _ hht
  obtain ⟨k, hk0⟩ := Int.eq_ofNat_of_zero_le q1
  obtain ⟨e, he⟩ : ∃ e, s.nodes[k]? = some e := ⟨_, List.getElem?_eq_getElem (by omega)⟩
  obtain ⟨y, hy⟩ : ∃ y, a.xs[k]? = some y := ⟨_, List.getElem?_eq_getElem (by rw [ho.len]; omega)⟩
  have hg1 : (fieldsV d.fields)[j * 5 + 1]? = some (.int .i64 (k : Int)) := by rw [field_get e2 (by decide), ← hk0]; rfl
  have hg0 : (nodesV s.nodes a.xs)[k * 18 + 0]? = some (.int .i64 e.kind) := by rw [node_get he hy (by decide)]; rfl
  rw [e1, Int.toNat_natCast, e2] at hk
  dsimp only at hk
  rw [hk0, Int.toNat_natCast, he] at hk
  dsimp only at hk
  rw [decide_eq_true (by omega : (0 : Int) ≤ (j : Int)), Bool.true_and] at hk
  rw [e1]
  repeat (first | exact endA | refine wkP ?_ | refine opB (fun b => ?_) | refine opA (fun a' c' hc1 hc2 => ?_) | (apply GJ.and; exact rfl; intro hg) | (apply GJ.or; exact rfl; intro hg))
  rw [Int.toNat_natCast, Nat.add_assoc]
  refine QOk.load rfl rfl (Ld.rs hfr hg1) ?_
  repeat (first | exact endA | refine wkP ?_ | refine opB (fun b => ?_) | refine opA (fun a' c' hc1 hc2 => ?_) | (apply GJ.and; exact rfl; intro hg) | (apply GJ.or; exact rfl; intro hg))
  rw [Int.toNat_natCast, Nat.add_assoc]
  refine QOk.load rfl rfl (Ld.rs hr1 hg0) ?_
  repeat (first | exact endA | refine wkP ?_ | refine opB (fun b => ?_) | refine opA (fun a' c' hc1 hc2 => ?_) | (apply GJ.and; exact rfl; intro hg) | (apply GJ.or; exact rfl; intro hg))
  exact Wk.outS Sup.auto (.refl _) hk
end
theorem nodupL_le : ∀ {l m : List (Int × Bool × Nat)}, l.Nodup → (∀ x ∈ l, x ∈ m) → l.length ≤ m.length
  | [], m, _, _ => Nat.zero_le _
  | x :: l, m, hn, hs => by
    have hn2 := List.nodup_cons.1 hn
    have hx := hs x (List.mem_cons_self ..)
    have := nodupL_le (m := m.erase x) hn2.2 (fun y hy => (List.mem_erase_of_ne (fun (e : y = x) => hn2.1 (e ▸ hy))).2 (hs y (List.mem_cons_of_mem _ hy)))
    rw [List.length_erase_of_mem hx] at this
    have := List.length_pos_of_mem hx
    rw [List.length_cons]
    omega
/-- A map that marks these numbers. -/
structure MarkI (L : List Int) (I : List (Int × Bool × Nat)) (c : Nat) : Prop where
  map : MapOk (fun _ : Int => True) I
  is : ∀ x, getG I x = if x ∈ L then some true else none
  born : BornOk I c
theorem MarkI.get {L : List Int} {I : List (Int × Bool × Nat)} {c : Nat} (h : MarkI L I c) (x : Int) : ((getG I x).map Value.bool).getD (.bool false) = .bool (decide (x ∈ L)) := by
  rw [h.is]
  by_cases hx : x ∈ L
  · rw [if_pos hx, decide_eq_true hx]; rfl
  · rw [if_neg hx, decide_eq_false hx]; rfl
theorem MarkI.mem {L : List Int} {I : List (Int × Bool × Nat)} {c : Nat} (h : MarkI L I c) {q : Int × Bool × Nat} (hq : q ∈ I) : q.1 ∈ L := by
  obtain ⟨j, hj⟩ := List.getElem?_of_mem hq
  have h1 := (Go.E.get_at (l := I) (p := q) h.map.nodup hj).1
  rw [h.is] at h1
  by_cases hx : q.1 ∈ L
  · exact hx
  · rw [if_neg hx] at h1; cases h1
theorem MarkI.has {L : List Int} {I : List (Int × Bool × Nat)} {c : Nat} (h : MarkI L I c) {x : Int} (hx : x ∈ L) : ∃ q ∈ I, q.1 = x := by
  refine Classical.byContradiction fun hn => ?_
  have h1 := (Go.E.get_none (l := I) (k := x) (fun q hq e => hn ⟨q, hq, e⟩)).1
  rw [h.is, if_pos hx] at h1
  cases h1
structure SubI (I S : List (Int × Bool × Nat)) : Prop where
  sub : ∀ p ∈ S, p ∈ I
  nodup : S.Nodup
theorem SubI.snoc {M S : List (Int × Bool × Nat)} (h : SubI M S) {p : Int × Bool × Nat} (hp : p ∈ M) (hn : p ∉ S) : SubI M (S ++ [p]) := by
  refine ⟨fun q hq => ?_, ?_⟩
  · rcases List.mem_append.1 hq with hq | hq
    · exact h.sub q hq
    · simp at hq; subst hq; exact hp
  · rw [List.nodup_append]
    exact ⟨h.nodup, by simp, fun x hx y hy => by simp at hy; subst hy; exact fun e => hn (e ▸ hx)⟩
/-- Does one type within go by nothing that it mayn't? -/
def goodA (s : SpecD) (lk : Lk) (L : List Int) (k : Int) : Bool := match lk k.toNat with
  | none => true
  | some (r, f) => decide (((r : Nat) : Int) ∈ L) || !sizedR s r f
section
variable {ro : Ro} {K : Value → Ro → Chs → Prop} {s : SpecD} {a : SpecA} {p bm cM : Nat} {M : List (Int × (Nat × Nat × Nat) × Nat)} {G : Chs}
theorem apart1_ok {bI bi c : Nat} {k : Int} {L : List Int} {I : List (Int × Bool × Nat)} {X R : Chs} (hI : MarkI L I c)
    (hk : ∀ I' c', MarkI (L ++ [k]) I' c' → K (.bool true) ro (X ++ (.obj bi (mapG (Value.int .i64) Value.bool I' c') :: .blk bI 82 [.map (some bi)] :: R))) :
    CallOk Tryz.prog 165 #[.int .i64 k, ptr' bI] ro (X ++ (.obj bi (mapG (Value.int .i64) Value.bool I c) :: .blk bI 82 [.map (some bi)] :: R)) K := by
  refine CallOk.intro (args := [_, _]) (rs := [_]) T_ok Tryz.func165 Tryz.call165 rfl rfl (by kernel_rfl) rfl rfl ?_
  repeat (first | exact endA | refine wkP ?_ | refine opB (fun b => ?_) | refine opA (fun a' c' hc1 hc2 => ?_) | (apply GJ.and; exact rfl; intro hg) | (apply GJ.or; exact rfl; intro hg))
  refine OpOk.mapUpdateB (kt := 3) (et := 4) (kv := Value.int .i64) (vv := Value.bool) (k := k) (v := true) rfl rfl rfl Tryz.underlying82 (KeyEnc.int Tryz.underlying3) hI.map trivial hI.born (fun c2 hB => ?_)
  have h2 : MarkI (L ++ [k]) (putG I c k true) c2 := by
    refine ⟨hI.map.put trivial c true, fun x => ?_, hB⟩
    rw [getG_putG]
    by_cases hx : x = k
    · subst hx; simp
    · rw [if_neg hx, hI.is]; simp [hx]
  have hk2 := hk _ _ h2
  generalize putG I c k true = I2 at *
  repeat (first | exact endA | refine wkP ?_ | refine opB (fun b => ?_) | refine opA (fun a' c' hc1 hc2 => ?_) | (apply GJ.and; exact rfl; intro hg) | (apply GJ.or; exact rfl; intro hg))
  exact Wk.outS Sup.auto (.refl _) hk2
set_option maxHeartbeats 8000000 in
theorem apart_ok (ho : SpecOk ro s a) (hc : checkD s = 0) {lk : Lk} (hli : LkIn s lk) (hlm : LkM lk M) {i : Nat} (hi : i < s.nodes.length) (hlen : (preI (kidsAt s) s.nodes.length (i : Int)).length ≤ 100000) (hk : K (.bool (apartR s lk (i : Int))) ro (.blk p 138 (specV s a ++ [.map (some bm)]) :: .obj bm (mapG (Value.int .i64) lkV M cM) :: G)) :
    CallOk Tryz.prog 159 #[ptr' p, .int .i64 (i : Int)] ro (.blk p 138 (specV s a ++ [.map (some bm)]) :: .obj bm (mapG (Value.int .i64) lkV M cM) :: G) K := by
  have hv := Ahead.of hc
  have hap : apartR s lk (i : Int) = (preI (kidsAt s) s.nodes.length (i : Int)).all (goodA s lk (preI (kidsAt s) s.nodes.length (i : Int))) := rfl
  rw [hap] at hk
  have hpin := pre_in hv (i + 1) i (by omega) hi
  refine CallOk.intro (args := [_, _]) (rs := [_]) T_ok Tryz.func159 Tryz.call159 rfl rfl (by kernel_rfl) rfl rfl ?_
  repeat (first | exact endA | refine wkP ?_ | refine opB (fun b => ?_) | refine opA (fun a' c' hc1 hc2 => ?_) | (apply GJ.and; exact rfl; intro hg) | (apply GJ.or; exact rfl; intro hg))
  refine OpOk.makeMapG (kv := Value.int .i64) (vv := Value.bool) (fun bi => ?_)
  repeat (first | exact endA | refine wkP ?_ | refine opB (fun b => ?_) | refine opA (fun a' c' hc1 hc2 => ?_) | (apply GJ.and; exact rfl; intro hg) | (apply GJ.or; exact rfl; intro hg))
  obtain ⟨bI, hbI⟩ : ∃ z : Nat, z = b := ⟨_, rfl⟩
  subst hbI
  refine CallOk.sup (own0 := .obj bi (mapG (Value.int .i64) Value.bool ([] : List (Int × Bool × Nat)) 0) :: .blk bI 82 [.map (some bi)] :: .blk p 138 (specV s a ++ [.map (some bm)]) :: .obj bm (mapG (Value.int .i64) lkV M cM) :: G) Sup.auto ?_
  refine each_ok ho hv (fy := 165) (cap := #[ptr' bI]) (go := fun _ => true) (T := preI (kidsAt s) s.nodes.length (i : Int)) (fun q (w : List (Int × Bool × Nat) × Nat) => .obj bi (mapG (Value.int .i64) Value.bool w.1 w.2) :: .blk bI 82 [.map (some bi)] :: .blk p 138 (specV s a ++ [.map (some bm)]) :: .obj bm (mapG (Value.int .i64) lkV M cM) :: G) (fun q w => MarkI q w.1 w.2) ?_ (i + 1) i (by omega) hi [] [] (by simp) ([], 0) ⟨MapOk.nil, fun x => by simp [getG], BornOk.nil⟩ ro [] _ ?_
  · rintro q k r hTp ⟨I, c⟩ w1 ro2 X K2 hle2 hk2
    dsimp only at w1 hk2 ⊢
    exact apart1_ok w1 (fun I' c' g1 => hk2 (I', c') g1)
  rintro ⟨I, c⟩
  rw [runG_all (fun _ => rfl)]
  dsimp only [List.nil_append]
  intro hI
  generalize preI (kidsAt s) s.nodes.length (i : Int) = L at *
  repeat (first | exact endA | refine wkP ?_ | refine opB (fun b => ?_) | refine opA (fun a' c' hc1 hc2 => ?_) | (apply GJ.and; exact rfl; intro hg) | (apply GJ.or; exact rfl; intro hg))
  refine OpOk.rangeG (kt := 3) (et := 4) (kv := Value.int .i64) (vv := Value.bool) (bm := bi) (l := I) (c := c) rfl Tryz.underlying82 (fun bR => ?_)
  repeat (first | exact endA | refine wkP ?_ | refine opB (fun b => ?_) | refine opA (fun a' c' hc1 hc2 => ?_) | (apply GJ.and; exact rfl; intro hg) | (apply GJ.or; exact rfl; intro hg))
  refine LoopOk.at (ι := List (Int × Bool × Nat)) Keep.auto (fun S => []) (fun S => .obj bR (iterO bi c S) :: .obj bi (mapG (Value.int .i64) Value.bool I c) :: .blk bI 82 [.map (some bi)] :: .blk p 138 (specV s a ++ [.map (some bm)]) :: .obj bm (mapG (Value.int .i64) lkV M cM) :: G) (fun S => SubI I S ∧ ∀ q ∈ S, goodA s lk L q.1 = true) (fun S => I.length - S.length) [] ?_ Sub.auto Sup.auto ?_
  · exact ⟨⟨(fun q h => by cases h), List.nodup_nil⟩, (fun q h => by cases h)⟩
  rintro S ⟨j1, j2⟩
  dsimp only [List.cons_append, List.nil_append] at j1 j2 ⊢
  repeat (first | exact endA | refine wkP ?_ | refine opB (fun b => ?_) | refine opA (fun a' c' hc1 hc2 => ?_) | (apply GJ.and; exact rfl; intro hg) | (apply GJ.or; exact rfl; intro hg))
  refine OpOk.nextG (kv := Value.int .i64) (vv := Value.bool) (bi := bR) (bm := bi) (l := I) (S := S) rfl hI.born j1.sub (fun hall => ?_) (fun q hq hqn => ?_)
  · have hgood : L.all (goodA s lk L) = true := List.all_eq_true.2 fun x hx => by
      obtain ⟨q, hq, rfl⟩ := hI.has hx
      exact j2 q (hall q hq)
    rw [hgood] at hk
    repeat (first | exact endA | refine wkP ?_ | refine opB (fun b => ?_) | refine opA (fun a' c' hc1 hc2 => ?_) | (apply GJ.and; exact rfl; intro hg) | (apply GJ.or; exact rfl; intro hg))
    exact Wk.outS Sup.auto (.refl _) hk
  have hqL := hI.mem hq
  obtain ⟨q1, q2⟩ := hpin q.1 hqL
  obtain ⟨k, hk0⟩ := Int.eq_ofNat_of_zero_le q1
  have hsn := j1.snoc hq hqn
  have hsl := nodupL_le hsn.nodup hsn.sub
  rw [List.length_append, List.length_singleton] at hsl
  have hstep : goodA s lk L q.1 = true → ∀ q' ∈ S ++ [q], goodA s lk L q'.1 = true := fun h q' hq' => by
    rcases List.mem_append.1 hq' with h' | h'
    · exact j2 q' h'
    · rw [List.mem_singleton] at h'; subst h'; exact h
  have hgk : goodA s lk L q.1 = match lk k with
    | none => true
    | some (r, f) => decide (((r : Nat) : Int) ∈ L) || !sizedR s r f := by unfold goodA; rw [hk0, Int.toNat_natCast]
  have hbad : goodA s lk L q.1 = false → L.all (goodA s lk L) = false := fun h => by
    rw [Bool.eq_false_iff]
    intro h2
    have := List.all_eq_true.1 h2 _ hqL
    rw [h] at this; cases this
  repeat (first | exact endA | refine wkP ?_ | refine opB (fun b => ?_) | refine opA (fun a' c' hc1 hc2 => ?_) | (apply GJ.and; exact rfl; intro hg) | (apply GJ.or; exact rfl; intro hg))
  refine OpOk.entryG (kv := Value.int .i64) (vv := Value.bool) (bi := bR) (bm := bi) (l := I) (S := S) (p := q) rfl hI.born hq ?_
  rw [hk0]
  repeat (first | exact endA | refine wkP ?_ | refine opB (fun b => ?_) | refine opA (fun a' c' hc1 hc2 => ?_) | (apply GJ.and; exact rfl; intro hg) | (apply GJ.or; exact rfl; intro hg))
  refine OpOk.lookupOkG (kt := 3) (et := 70) (kv := Value.int .i64) (vv := lkV) (k := (k : Int)) (z := .agg #[.int .i64 0, .int .i64 0, .int .i64 0]) rfl rfl Tryz.underlying136 (KeyEnc.int Tryz.underlying3) hlm.map trivial (by kernel_rfl) ?_
  rw [hlm.is]
  cases hlk : lk k with
  | none =>
    rw [hlk] at hgk
    dsimp only at hgk
    have hst := hstep hgk
    simp only [Option.map_none, Option.getD_none, Option.isSome_none]
    repeat (first | exact endA | refine wkP ?_ | refine opB (fun b => ?_) | refine opA (fun a' c' hc1 hc2 => ?_) | (apply GJ.and; exact rfl; intro hg) | (apply GJ.or; exact rfl; intro hg))
    refine Wk.id ⟨S ++ [q], ⟨rfl, ?_⟩, ?_, Sub.auto, Sup.auto⟩
    all_goals try dsimp only
    · exact ⟨hsn, hst⟩
    · rw [List.length_append, List.length_singleton]; omega
  | some rf =>
    obtain ⟨r, f⟩ := rf
    obtain ⟨d, hd, hf⟩ := hli k r f hlk
    rw [hlk] at hgk
    dsimp only at hgk
    simp only [Option.map_some, Option.getD_some, Option.isSome_some]
    rw [show lkV (k, r, f) = .agg #[.int .i64 (k : Int), .int .i64 (r : Int), .int .i64 (f : Int)] from rfl]
    repeat (first | exact endA | refine wkP ?_ | refine opB (fun b => ?_) | refine opA (fun a' c' hc1 hc2 => ?_) | (apply GJ.and; exact rfl; intro hg) | (apply GJ.or; exact rfl; intro hg))
    refine OpOk.lookupG (kt := 3) (et := 4) (kv := Value.int .i64) (vv := Value.bool) (k := (r : Int)) (z := .bool false) rfl rfl Tryz.underlying82 (KeyEnc.int Tryz.underlying3) hI.map trivial (by kernel_rfl) ?_
    rw [hI.get]
    by_cases hr : ((r : Nat) : Int) ∈ L
    · rw [decide_eq_true hr, Bool.true_or] at hgk
      have hst := hstep hgk
      rw [decide_eq_true hr]
      repeat (first | exact endA | refine wkP ?_ | refine opB (fun b => ?_) | refine opA (fun a' c' hc1 hc2 => ?_) | (apply GJ.and; exact rfl; intro hg) | (apply GJ.or; exact rfl; intro hg))
      refine Wk.id ⟨S ++ [q], ⟨rfl, ?_⟩, ?_, Sub.auto, Sup.auto⟩
      all_goals try dsimp only
      · exact ⟨hsn, hst⟩
      · rw [List.length_append, List.length_singleton]; omega
    · rw [decide_eq_false hr, Bool.false_or] at hgk
      rw [decide_eq_false hr]
      repeat (first | exact endA | refine wkP ?_ | refine opB (fun b => ?_) | refine opA (fun a' c' hc1 hc2 => ?_) | (apply GJ.and; exact rfl; intro hg) | (apply GJ.or; exact rfl; intro hg))
      obtain ⟨bL, hbL⟩ : ∃ z : Nat, z = b := ⟨_, rfl⟩
      subst hbL
      refine CallOk.sup (own0 := .blk p 138 (specV s a ++ [.map (some bm)]) :: .obj bm (mapG (Value.int .i64) lkV M cM) :: .blk bL 70 [.int .i64 (k : Int), .int .i64 (r : Int), .int .i64 (f : Int)] :: .obj bR (iterO bi c (S ++ [q])) :: .obj bi (mapG (Value.int .i64) Value.bool I c) :: .blk bI 82 [.map (some bi)] :: G) Sup.auto ?_
      refine sized_ok ho hv hd hf ?_
      cases hs : sizedR s r f with
      | true =>
        rw [hs] at hgk
        rw [hbad hgk] at hk
        repeat (first | exact endA | refine wkP ?_ | refine opB (fun b => ?_) | refine opA (fun a' c' hc1 hc2 => ?_) | (apply GJ.and; exact rfl; intro hg) | (apply GJ.or; exact rfl; intro hg))
        exact Wk.outS Sup.auto (.refl _) hk
      | false =>
        rw [hs] at hgk
        have hst := hstep hgk
        repeat (first | exact endA | refine wkP ?_ | refine opB (fun b => ?_) | refine opA (fun a' c' hc1 hc2 => ?_) | (apply GJ.and; exact rfl; intro hg) | (apply GJ.or; exact rfl; intro hg))
        refine Wk.id ⟨S ++ [q], ⟨rfl, ?_⟩, ?_, Sub.auto, Sup.auto⟩
        all_goals try dsimp only
        · exact ⟨hsn, hst⟩
        · rw [List.length_append, List.length_singleton]; omega
theorem form_one {d : NodeD} (hf : formD d = 0) (h : d.kind = 8) : d.kids.length = 1 := by
  unfold formD at hf
  split at hf
  · omega
  split at hf
  · omega
  · rename_i h1 h2; omega
set_option maxHeartbeats 8000000 in
theorem derived_ok (ho : SpecOk ro s a) (hc : checkD s = 0) {lk : Lk} (hli : LkIn s lk) (hlm : LkM lk M) {r i : Nat} {d : NodeD} (hd : s.nodes[r]? = some d) (hi : i < d.fields.length) (hlen : ∀ k : Nat, k < s.nodes.length → (preI (kidsAt s) s.nodes.length (k : Int)).length ≤ 100000) (hk : K (.bool (derivedR s lk d i)) ro (.blk p 138 (specV s a ++ [.map (some bm)]) :: .obj bm (mapG (Value.int .i64) lkV M cM) :: G)) :
    CallOk Tryz.prog 144 #[ptr' p, .int .i64 (r : Int), .int .i64 (i : Int)] ro (.blk p 138 (specV s a ++ [.map (some bm)]) :: .obj bm (mapG (Value.int .i64) lkV M cM) :: G) K := by
  have hv := Ahead.of hc
  have hr1 := ho.nodes
  have hm := hr1.max
  have hnc := hr1.le
  unfold maxLen at hm
  obtain ⟨x, hx⟩ : ∃ x, a.xs[r]? = some x := ⟨_, List.getElem?_eq_getElem (by rw [ho.len]; exact (List.getElem?_eq_some_iff.1 hd).1)⟩
  have hrl := (List.getElem?_eq_some_iff.1 hd).1
  have hn1 := ho.each r d x hd hx
  have hfr := hn1.fields
  have hfm := hfr.max
  have hfl := hfr.le
  unfold maxLen at hfm
  have hdr1 := nodesV_drop _ _ _ _ _ hd hx
  obtain ⟨hfo, hks⟩ := hv r d hd
  have h5 := fields_rec hfo (by omega)
  have hkr := kids_rec hfo h5
  obtain ⟨f, hf⟩ : ∃ f, d.fields[i]? = some f := ⟨_, List.getElem?_eq_getElem hi⟩
  have hfe : d.fields[i] = f := Option.some.inj ((List.getElem?_eq_getElem hi).symm.trans hf)
  have hfd := fieldsV_drop d.fields hi
  rw [hfe] at hfd
  obtain ⟨q1, q2⟩ := hks f.type (by rw [hkr]; exact List.mem_map.2 ⟨f, List.mem_of_getElem? hf, rfl⟩)
  obtain ⟨k, hk0⟩ := Int.eq_ofNat_of_zero_le q1
  obtain ⟨ow, how⟩ : ∃ e, s.nodes[k]? = some e := ⟨_, List.getElem?_eq_getElem (by omega)⟩
  obtain ⟨y, hy⟩ : ∃ y, a.xs[k]? = some y := ⟨_, List.getElem?_eq_getElem (by rw [ho.len]; omega)⟩
  have hdro := nodesV_drop _ _ _ _ _ how hy
  unfold derivedR at hk
  rw [hf] at hk
  dsimp only at hk
  rw [hk0, Int.toNat_natCast, how] at hk
  dsimp only at hk
  have hio := idx_spec d f.of
  have hit := idx_spec d f.to
  refine CallOk.intro (args := [_, _, _]) (rs := [_]) T_ok Tryz.func144 Tryz.call144 rfl rfl (by kernel_rfl) rfl rfl ?_
  repeat (first | exact endA | refine wkP ?_ | refine opB (fun b => ?_) | refine opA (fun a' c' hc1 hc2 => ?_) | (apply GJ.and; exact rfl; intro hg) | (apply GJ.or; exact rfl; intro hg))
  rw [Int.toNat_natCast]
  refine OpOk.loadRow rfl rfl (LdN.at hr1 hdr1) rfl ?_
  repeat (first | exact endA | refine wkP ?_ | refine opB (fun b => ?_) | refine opA (fun a' c' hc1 hc2 => ?_) | (apply GJ.and; exact rfl; intro hg) | (apply GJ.or; exact rfl; intro hg))
  rw [Int.toNat_natCast]
  refine OpOk.loadRow rfl rfl (LdN.at hfr hfd) rfl ?_
  repeat (first | exact endA | refine wkP ?_ | refine opB (fun b => ?_) | refine opA (fun a' c' hc1 hc2 => ?_) | (apply GJ.and; exact rfl; intro hg) | (apply GJ.or; exact rfl; intro hg))
  refine rindex_ok hn1 ?_
  repeat (first | exact endA | refine wkP ?_ | refine opB (fun b => ?_) | refine opA (fun a' c' hc1 hc2 => ?_) | (apply GJ.and; exact rfl; intro hg) | (apply GJ.or; exact rfl; intro hg))
  refine rindex_ok hn1 ?_
  repeat (first | exact endA | refine wkP ?_ | refine opB (fun b => ?_) | refine opA (fun a' c' hc1 hc2 => ?_) | (apply GJ.and; exact rfl; intro hg) | (apply GJ.or; exact rfl; intro hg))
  rw [hk0, Int.toNat_natCast]
  refine QOk.loadRow rfl rfl (LdN.at hr1 hdro) rfl ?_
  by_cases h0 : f.derive = 0
  · rw [if_pos h0] at hk
    clear hio hit
    generalize idxR' d f.of = z1 at *
    generalize idxR' d f.to = z2 at *
    by_cases hof : f.of = []
    · rw [decide_eq_true hof, Bool.true_and] at hk
      repeat (first | exact endA | refine wkP ?_ | refine opB (fun b => ?_) | refine opA (fun a' c' hc1 hc2 => ?_) | (apply GJ.and; exact rfl; intro hg) | (apply GJ.or; exact rfl; intro hg))
      exact Wk.outS Sup.auto (.refl _) hk
    · rw [decide_eq_false hof, Bool.false_and] at hk
      repeat (first | exact endA | refine wkP ?_ | refine opB (fun b => ?_) | refine opA (fun a' c' hc1 hc2 => ?_) | (apply GJ.and; exact rfl; intro hg) | (apply GJ.or; exact rfl; intro hg))
      exact Wk.outS Sup.auto (.refl _) hk
  rw [if_neg h0] at hk
  by_cases h12 : f.derive = 1 ∨ f.derive = 2
  · rw [if_pos h12] at hk
    have hnum : isNum ow = decide (ow.kind = 1 ∨ ow.kind = 2) := rfl
    have ht12 : (decide (f.derive = 1) || decide (f.derive = 2)) = true := by rw [← Bool.decide_or]; exact decide_eq_true h12
    rcases h12 with hd1 | hd2
    · have hd2 : f.derive ≠ 2 := by omega
      repeat (first | exact endA | refine wkP ?_ | refine opB (fun b => ?_) | refine opA (fun a' c' hc1 hc2 => ?_) | (apply GJ.and; exact rfl; intro hg) | (apply GJ.or; exact rfl; intro hg))
      refine number_ok ?_
      rw [← hnum]
      cases hN : isNum ow with
      | false =>
        rw [if_pos (.inl hN)] at hk
        clear hio hit
        generalize idxR' d f.of = z1 at *
        generalize idxR' d f.to = z2 at *
        repeat (first | exact endA | refine wkP ?_ | refine opB (fun b => ?_) | refine opA (fun a' c' hc1 hc2 => ?_) | (apply GJ.and; exact rfl; intro hg) | (apply GJ.or; exact rfl; intro hg))
        exact Wk.outS Sup.auto (.refl _) hk
      | true =>
        cases hz : ow.zig with
        | true =>
          rw [if_pos (.inr (.inl hz))] at hk
          clear hio hit
          generalize idxR' d f.of = z1 at *
          generalize idxR' d f.to = z2 at *
          repeat (first | exact endA | refine wkP ?_ | refine opB (fun b => ?_) | refine opA (fun a' c' hc1 hc2 => ?_) | (apply GJ.and; exact rfl; intro hg) | (apply GJ.or; exact rfl; intro hg))
          exact Wk.outS Sup.auto (.refl _) hk
        | false =>
          by_cases hle : idxR' d f.of ≤ (i : Int)
          · rw [if_pos (.inr (.inr (.inl hle)))] at hk
            clear hio hit
            generalize idxR' d f.of = z1 at *
            generalize idxR' d f.to = z2 at *
            repeat (first | exact endA | refine wkP ?_ | refine opB (fun b => ?_) | refine opA (fun a' c' hc1 hc2 => ?_))
            rw [hz]
            repeat (first | exact endA | refine wkP ?_ | refine opB (fun b => ?_) | refine opA (fun a' c' hc1 hc2 => ?_) | (apply GJ.and; exact rfl; intro hg) | (apply GJ.or; exact rfl; intro hg))
            exact Wk.outS Sup.auto (.refl _) hk
          by_cases hto : f.to = []
          rotate_left
          · rw [if_pos (.inr (.inr (.inr hto)))] at hk
            clear hio hit
            generalize idxR' d f.of = z1 at *
            generalize idxR' d f.to = z2 at *
            repeat (first | exact endA | refine wkP ?_ | refine opB (fun b => ?_) | refine opA (fun a' c' hc1 hc2 => ?_))
            rw [hz]
            repeat (first | exact endA | refine wkP ?_ | refine opB (fun b => ?_) | refine opA (fun a' c' hc1 hc2 => ?_) | (apply GJ.and; exact rfl; intro hg) | (apply GJ.or; exact rfl; intro hg))
            exact Wk.outS Sup.auto (.refl _) hk
          have hnb : ¬ (isNum ow = false ∨ ow.zig = true ∨ idxR' d f.of ≤ (i : Int) ∨ f.to ≠ []) := fun h => by
            rcases h with h | h | h | h
            · rw [hN] at h; cases h
            · rw [hz] at h; cases h
            · exact hle h
            · exact h hto
          rw [if_neg hnb] at hk
          clear hnb
          rcases hio with ⟨e1, _⟩ | ⟨j, g, e1, e2, e3⟩
          · omega
          clear hit
          generalize idxR' d f.to = z2 at *
          rw [e1, Int.toNat_natCast, e2] at hk
          dsimp only at hk
          rw [e1] at hle ⊢
          obtain ⟨u1, u2⟩ := hks g.type (by rw [hkr]; exact List.mem_map.2 ⟨g, List.mem_of_getElem? e2, rfl⟩)
          obtain ⟨m, hm0⟩ := Int.eq_ofNat_of_zero_le u1
          obtain ⟨w, hw⟩ : ∃ e, s.nodes[m]? = some e := ⟨_, List.getElem?_eq_getElem (by omega)⟩
          obtain ⟨v, hvx⟩ : ∃ y, a.xs[m]? = some y := ⟨_, List.getElem?_eq_getElem (by rw [ho.len]; omega)⟩
          have hdrw := nodesV_drop _ _ _ _ _ hw hvx
          have hjl := (List.getElem?_eq_some_iff.1 e2).1
          have hg1 : (fieldsV d.fields)[j * 5 + 1]? = some (.int .i64 (m : Int)) := by rw [field_get e2 (by decide), ← hm0]; rfl
          rw [hm0, Int.toNat_natCast, hw] at hk
          dsimp only at hk
          repeat (first | exact endA | refine wkP ?_ | refine opB (fun b => ?_) | refine opA (fun a' c' hc1 hc2 => ?_))
          rw [hz]
          repeat (first | exact endA | refine wkP ?_ | refine opB (fun b => ?_) | refine opA (fun a' c' hc1 hc2 => ?_) | (apply GJ.and; exact rfl; intro hg) | (apply GJ.or; exact rfl; intro hg))
          refine Br.f (fun h => h hto) ?_
          repeat (first | exact endA | refine wkP ?_ | refine opB (fun b => ?_) | refine opA (fun a' c' hc1 hc2 => ?_) | (apply GJ.and; exact rfl; intro hg) | (apply GJ.or; exact rfl; intro hg))
          rw [Int.toNat_natCast, Nat.add_assoc]
          refine QOk.load rfl rfl (Ld.rs hfr hg1) ?_
          repeat (first | exact endA | refine wkP ?_ | refine opB (fun b => ?_) | refine opA (fun a' c' hc1 hc2 => ?_) | (apply GJ.and; exact rfl; intro hg) | (apply GJ.or; exact rfl; intro hg))
          rw [Int.toNat_natCast]
          refine QOk.loadRow rfl rfl (LdN.at hr1 hdrw) rfl ?_
          repeat (first | exact endA | refine wkP ?_ | refine opB (fun b => ?_) | refine opA (fun a' c' hc1 hc2 => ?_) | (apply GJ.and; exact rfl; intro hg) | (apply GJ.or; exact rfl; intro hg))
          refine OpOk.eqlStruct rfl rfl rfl rfl (by kernel_rfl) (by kernel_rfl) (by kernel_rfl) ?_
          generalize hjr : (_ && _ : Bool) = jq
          have hjr2 : jq = justR f w := by
            have e9 : decide ((w.emul : Int) = 1) = decide (w.emul = 1) := decide_eq_decide.2 (by omega)
            rw [← hjr]; simp [justR, e9]
          rw [hjr2]
          clear hjr hjr2
          generalize justR f w = jq at *
          rw [if_neg hd2] at hk
          cases jq with
          | false =>
            rw [Bool.false_and] at hk
            repeat (first | exact endA | refine wkP ?_ | refine opB (fun b => ?_) | refine opA (fun a' c' hc1 hc2 => ?_) | (apply GJ.and; exact rfl; intro hg) | (apply GJ.or; exact rfl; intro hg))
            exact Wk.outS Sup.auto (.refl _) hk
          | true =>
            rw [Bool.true_and] at hk
            by_cases k4 : w.kind = 4
            · rw [decide_eq_true k4, Bool.true_or] at hk
              repeat (first | exact endA | refine wkP ?_ | refine opB (fun b => ?_) | refine opA (fun a' c' hc1 hc2 => ?_) | (apply GJ.and; exact rfl; intro hg) | (apply GJ.or; exact rfl; intro hg))
              exact Wk.outS Sup.auto (.refl _) hk
            rw [decide_eq_false k4, Bool.false_or] at hk
            by_cases k8 : w.kind = 8
            rotate_left
            · rw [decide_eq_false k8, Bool.false_and] at hk
              repeat (first | exact endA | refine wkP ?_ | refine opB (fun b => ?_) | refine opA (fun a' c' hc1 hc2 => ?_) | (apply GJ.and; exact rfl; intro hg) | (apply GJ.or; exact rfl; intro hg))
              exact Wk.outS Sup.auto (.refl _) hk
            rw [decide_eq_true k8, Bool.true_and] at hk
            obtain ⟨v1, v2⟩ := hv m w hw
            have hw1 : w.kids.length = 1 := form_one v1 k8
            obtain ⟨kk, hkk⟩ := List.length_eq_one_iff.1 hw1
            obtain ⟨w1, w2⟩ := v2 kk (by rw [kidsD, hkk]; simp)
            obtain ⟨n, hn0⟩ := Int.eq_ofNat_of_zero_le w1
            have hkr2 := (ho.each m w v hw hvx).kids
            have hkk1 : w.kids[Int.toNat 0]! = (n : Int) := by rw [hkk, hn0]; rfl
            rw [show w.kids[0]?.getD 0 = (n : Int) by rw [hkk, hn0]; rfl] at hk
            have hla := hlen n (by omega)
            have hnl : n < s.nodes.length := by omega
            clear hkk v2 w2
            repeat (first | exact endA | refine wkP ?_ | refine opB (fun b => ?_) | refine opA (fun a' c' hc1 hc2 => ?_) | (apply GJ.and; exact rfl; intro hg) | (apply GJ.or; exact rfl; intro hg))
            rw [hkk1]
            refine CallOk.sup (own0 := .blk p 138 (specV s a ++ [.map (some bm)]) :: .obj bm (mapG (Value.int .i64) lkV M cM) :: G) Sup.auto ?_
            refine apart_ok ho hc hli hlm hnl hla ?_
            repeat (first | exact endA | refine wkP ?_ | refine opB (fun b => ?_) | refine opA (fun a' c' hc1 hc2 => ?_) | (apply GJ.and; exact rfl; intro hg) | (apply GJ.or; exact rfl; intro hg))
            exact Wk.outS Sup.auto (.refl _) hk
    · have hd1 : f.derive ≠ 1 := by omega
      repeat (first | exact endA | refine wkP ?_ | refine opB (fun b => ?_) | refine opA (fun a' c' hc1 hc2 => ?_) | (apply GJ.and; exact rfl; intro hg) | (apply GJ.or; exact rfl; intro hg))
      refine number_ok ?_
      rw [← hnum]
      cases hN : isNum ow with
      | false =>
        rw [if_pos (.inl hN)] at hk
        clear hio hit
        generalize idxR' d f.of = z1 at *
        generalize idxR' d f.to = z2 at *
        repeat (first | exact endA | refine wkP ?_ | refine opB (fun b => ?_) | refine opA (fun a' c' hc1 hc2 => ?_) | (apply GJ.and; exact rfl; intro hg) | (apply GJ.or; exact rfl; intro hg))
        exact Wk.outS Sup.auto (.refl _) hk
      | true =>
        cases hz : ow.zig with
        | true =>
          rw [if_pos (.inr (.inl hz))] at hk
          clear hio hit
          generalize idxR' d f.of = z1 at *
          generalize idxR' d f.to = z2 at *
          repeat (first | exact endA | refine wkP ?_ | refine opB (fun b => ?_) | refine opA (fun a' c' hc1 hc2 => ?_) | (apply GJ.and; exact rfl; intro hg) | (apply GJ.or; exact rfl; intro hg))
          exact Wk.outS Sup.auto (.refl _) hk
        | false =>
          by_cases hle : idxR' d f.of ≤ (i : Int)
          · rw [if_pos (.inr (.inr (.inl hle)))] at hk
            clear hio hit
            generalize idxR' d f.of = z1 at *
            generalize idxR' d f.to = z2 at *
            repeat (first | exact endA | refine wkP ?_ | refine opB (fun b => ?_) | refine opA (fun a' c' hc1 hc2 => ?_))
            rw [hz]
            repeat (first | exact endA | refine wkP ?_ | refine opB (fun b => ?_) | refine opA (fun a' c' hc1 hc2 => ?_) | (apply GJ.and; exact rfl; intro hg) | (apply GJ.or; exact rfl; intro hg))
            exact Wk.outS Sup.auto (.refl _) hk
          by_cases hto : f.to = []
          rotate_left
          · rw [if_pos (.inr (.inr (.inr hto)))] at hk
            clear hio hit
            generalize idxR' d f.of = z1 at *
            generalize idxR' d f.to = z2 at *
            repeat (first | exact endA | refine wkP ?_ | refine opB (fun b => ?_) | refine opA (fun a' c' hc1 hc2 => ?_))
            rw [hz]
            repeat (first | exact endA | refine wkP ?_ | refine opB (fun b => ?_) | refine opA (fun a' c' hc1 hc2 => ?_) | (apply GJ.and; exact rfl; intro hg) | (apply GJ.or; exact rfl; intro hg))
            exact Wk.outS Sup.auto (.refl _) hk
          have hnb : ¬ (isNum ow = false ∨ ow.zig = true ∨ idxR' d f.of ≤ (i : Int) ∨ f.to ≠ []) := fun h => by
            rcases h with h | h | h | h
            · rw [hN] at h; cases h
            · rw [hz] at h; cases h
            · exact hle h
            · exact h hto
          rw [if_neg hnb] at hk
          clear hnb
          rcases hio with ⟨e1, _⟩ | ⟨j, g, e1, e2, e3⟩
          · omega
          clear hit
          generalize idxR' d f.to = z2 at *
          rw [e1, Int.toNat_natCast, e2] at hk
          dsimp only at hk
          rw [e1] at hle ⊢
          obtain ⟨u1, u2⟩ := hks g.type (by rw [hkr]; exact List.mem_map.2 ⟨g, List.mem_of_getElem? e2, rfl⟩)
          obtain ⟨m, hm0⟩ := Int.eq_ofNat_of_zero_le u1
          obtain ⟨w, hw⟩ : ∃ e, s.nodes[m]? = some e := ⟨_, List.getElem?_eq_getElem (by omega)⟩
          obtain ⟨v, hvx⟩ : ∃ y, a.xs[m]? = some y := ⟨_, List.getElem?_eq_getElem (by rw [ho.len]; omega)⟩
          have hdrw := nodesV_drop _ _ _ _ _ hw hvx
          have hjl := (List.getElem?_eq_some_iff.1 e2).1
          have hg1 : (fieldsV d.fields)[j * 5 + 1]? = some (.int .i64 (m : Int)) := by rw [field_get e2 (by decide), ← hm0]; rfl
          rw [hm0, Int.toNat_natCast, hw] at hk
          dsimp only at hk
          repeat (first | exact endA | refine wkP ?_ | refine opB (fun b => ?_) | refine opA (fun a' c' hc1 hc2 => ?_))
          rw [hz]
          repeat (first | exact endA | refine wkP ?_ | refine opB (fun b => ?_) | refine opA (fun a' c' hc1 hc2 => ?_) | (apply GJ.and; exact rfl; intro hg) | (apply GJ.or; exact rfl; intro hg))
          refine Br.f (fun h => h hto) ?_
          repeat (first | exact endA | refine wkP ?_ | refine opB (fun b => ?_) | refine opA (fun a' c' hc1 hc2 => ?_) | (apply GJ.and; exact rfl; intro hg) | (apply GJ.or; exact rfl; intro hg))
          rw [Int.toNat_natCast, Nat.add_assoc]
          refine QOk.load rfl rfl (Ld.rs hfr hg1) ?_
          repeat (first | exact endA | refine wkP ?_ | refine opB (fun b => ?_) | refine opA (fun a' c' hc1 hc2 => ?_) | (apply GJ.and; exact rfl; intro hg) | (apply GJ.or; exact rfl; intro hg))
          rw [Int.toNat_natCast]
          refine QOk.loadRow rfl rfl (LdN.at hr1 hdrw) rfl ?_
          repeat (first | exact endA | refine wkP ?_ | refine opB (fun b => ?_) | refine opA (fun a' c' hc1 hc2 => ?_) | (apply GJ.and; exact rfl; intro hg) | (apply GJ.or; exact rfl; intro hg))
          refine OpOk.eqlStruct rfl rfl rfl rfl (by kernel_rfl) (by kernel_rfl) (by kernel_rfl) ?_
          generalize hjr : (_ && _ : Bool) = jq
          have hjr2 : jq = justR f w := by
            have e9 : decide ((w.emul : Int) = 1) = decide (w.emul = 1) := decide_eq_decide.2 (by omega)
            rw [← hjr]; simp [justR, e9]
          rw [hjr2]
          clear hjr hjr2
          generalize justR f w = jq at *
          rw [if_pos hd2] at hk
          repeat (first | exact endA | refine wkP ?_ | refine opB (fun b => ?_) | refine opA (fun a' c' hc1 hc2 => ?_) | (apply GJ.and; exact rfl; intro hg) | (apply GJ.or; exact rfl; intro hg))
          exact Wk.outS Sup.auto (.refl _) hk
  · rw [if_neg h12] at hk
    by_cases h3 : f.derive = 3
    · rw [if_pos h3] at hk
      have hk3 : True := trivial
      clear hio hit
      generalize hz1 : idxR' d f.of = z1 at *
      generalize hz2 : idxR' d f.to = z2 at *
      clear hz1 hz2
      by_cases c1 : ow.kind = 1
      rotate_left
      · clear hk3
        rw [show (decide (ow.kind = 1) && decide (ow.width = 4) && decide (ow.min = 0) && decide (ow.max = mostD ow)) = false by simp [c1], Bool.false_and] at hk
        repeat (first | exact endA | refine wkP ?_ | refine opB (fun b => ?_) | refine opA (fun a' c' hc1 hc2 => ?_) | (apply GJ.and; exact rfl; intro hg) | (apply GJ.or; exact rfl; intro hg))
        exact Wk.outS Sup.auto (.refl _) hk
      by_cases c2 : ow.width = 4
      rotate_left
      · clear hk3
        rw [show (decide (ow.kind = 1) && decide (ow.width = 4) && decide (ow.min = 0) && decide (ow.max = mostD ow)) = false by simp [c2], Bool.false_and] at hk
        repeat (first | exact endA | refine wkP ?_ | refine opB (fun b => ?_) | refine opA (fun a' c' hc1 hc2 => ?_) | (apply GJ.and; exact rfl; intro hg) | (apply GJ.or; exact rfl; intro hg))
        exact Wk.outS Sup.auto (.refl _) hk
      by_cases c3 : ow.min = 0
      rotate_left
      · clear hk3
        rw [show (decide (ow.kind = 1) && decide (ow.width = 4) && decide (ow.min = 0) && decide (ow.max = mostD ow)) = false by simp [c3], Bool.false_and] at hk
        repeat (first | exact endA | refine wkP ?_ | refine opB (fun b => ?_) | refine opA (fun a' c' hc1 hc2 => ?_) | (apply GJ.and; exact rfl; intro hg) | (apply GJ.or; exact rfl; intro hg))
        exact Wk.outS Sup.auto (.refl _) hk
      repeat (first | exact endA | refine wkP ?_ | refine opB (fun b => ?_) | refine opA (fun a' c' hc1 hc2 => ?_) | (apply GJ.and; exact rfl; intro hg) | (apply GJ.or; exact rfl; intro hg))
      refine smost_ok ?_
      by_cases c4 : ow.max = mostD ow
      rotate_left
      · clear hk3
        rw [show (decide (ow.kind = 1) && decide (ow.width = 4) && decide (ow.min = 0) && decide (ow.max = mostD ow)) = false by simp [c4], Bool.false_and] at hk
        repeat (first | exact endA | refine wkP ?_ | refine opB (fun b => ?_) | refine opA (fun a' c' hc1 hc2 => ?_) | (apply GJ.and; exact rfl; intro hg) | (apply GJ.or; exact rfl; intro hg))
        exact Wk.outS Sup.auto (.refl _) hk
      rw [show (decide (ow.kind = 1) && decide (ow.width = 4) && decide (ow.min = 0) && decide (ow.max = mostD ow)) = true by simp [c1, c2, c3, c4], Bool.true_and] at hk
      by_cases p1 : 0 ≤ z1
      rotate_left
      · rw [decide_eq_false p1, Bool.false_and, Bool.false_and] at hk
        repeat (first | exact endA | refine wkP ?_ | refine opB (fun b => ?_) | refine opA (fun a' c' hc1 hc2 => ?_) | (apply GJ.and; exact rfl; intro hg) | (apply GJ.or; exact rfl; intro hg))
        exact Wk.outS Sup.auto (.refl _) hk
      rw [decide_eq_true p1, Bool.true_and] at hk
      by_cases p2 : z1 ≤ z2
      rotate_left
      · rw [decide_eq_false p2, Bool.false_and] at hk
        repeat (first | exact endA | refine wkP ?_ | refine opB (fun b => ?_) | refine opA (fun a' c' hc1 hc2 => ?_) | (apply GJ.and; exact rfl; intro hg) | (apply GJ.or; exact rfl; intro hg))
        exact Wk.outS Sup.auto (.refl _) hk
      rw [decide_eq_true p2, Bool.true_and] at hk
      repeat (first | exact endA | refine wkP ?_ | refine opB (fun b => ?_) | refine opA (fun a' c' hc1 hc2 => ?_) | (apply GJ.and; exact rfl; intro hg) | (apply GJ.or; exact rfl; intro hg))
      exact Wk.outS Sup.auto (.refl _) hk
    · rw [if_neg h3] at hk
      clear hio hit
      generalize idxR' d f.of = z1 at *
      generalize idxR' d f.to = z2 at *
      repeat (first | exact endA | refine wkP ?_ | refine opB (fun b => ?_) | refine opA (fun a' c' hc1 hc2 => ?_) | (apply GJ.and; exact rfl; intro hg) | (apply GJ.or; exact rfl; intro hg))
      exact Wk.outS Sup.auto (.refl _) hk
end
end Go.Proofs.YtnapjcnfgdkmcaaGreatDoor
end
section
/- Contracts of reg: the looker. -/
namespace Go.Proofs.YtnapjcnfgdkmcaaGreatDoor
open Go Go.E
set_option linter.unusedVariables false
set_option linter.unusedSectionVars false
set_option linter.unusedSimpArgs false
set_option maxRecDepth 10000
/-- Each name leads to a field that there is. -/
def SeenIn (s : SpecD) (seen : List AskD) : Prop := ∀ q ∈ seen, ∃ d, s.nodes[q.record]? = some d ∧ q.field < d.fields.length
theorem SeenIn.snoc {s : SpecD} {l : List AskD} {q : AskD} (h : SeenIn s l) {d : NodeD} (h1 : s.nodes[q.record]? = some d) (h2 : q.field < d.fields.length) : SeenIn s (l ++ [q]) := fun z hz => by
  rcases List.mem_append.1 hz with h3 | h3
  · exact h z h3
  · rw [List.mem_singleton.1 h3]; exact ⟨d, h1, h2⟩
def askC (cs : List AskD) : Option (Option Addr × Nat) → Chs
  | none => []
  | some (oa, oc) => [.sl oa cs.length oc 176 4 (asksV cs)]
def askW (na : Option Addr) (ns cs : List AskD) : Option (Option Addr × Nat) → Value
  | none => .slice na ns.length ns.length
  | some (oa, oc) => .slice oa cs.length oc
theorem goR_err {K : Int → Lk → Except (Int × Int) Lk} (hK : ∀ k lk e, K k lk = .error e → e.1 ≠ 0) : ∀ {l : List Int} {lk : Lk} {e : Int × Int}, goR K l lk = .error e → e.1 ≠ 0
  | [], _, _, h => by cases h
  | x :: l, lk, e, h => by
    unfold goR at h
    cases hx : K x lk with
    | error e2 => rw [hx] at h; cases h; exact hK _ _ _ hx
    | ok lk1 => rw [hx] at h; exact goR_err hK h
theorem recR_err {s : SpecD} {K : Int → List AskD → Lk → Except (Int × Int) Lk} {a : Nat} (hK : ∀ k sn lk e, K k sn lk = .error e → e.1 ≠ 0) : ∀ {fs : List FieldD} {i : Nat} {seen : List AskD} {lk : Lk} {e : Int × Int}, recR s K a i fs seen lk = .error e → e.1 ≠ 0
  | [], _, _, _, _, h => by cases h
  | x :: fs, i, seen, lk, e, h => by
    unfold recR at h
    cases hx : K x.type seen lk with
    | error e2 => rw [hx] at h; cases h; exact hK _ _ _ _ hx
    | ok lk1 => rw [hx] at h; exact recR_err hK h
theorem kindR_err {s : SpecD} : ∀ {n : Nat} {a : Int} {seen : List AskD} {lk : Lk} (e : Int × Int), kindR s n a seen lk = .error e → e.1 ≠ 0
  | 0, _, _, _, _, h => by cases h
  | n + 1, a, seen, lk, e, h => by
    unfold kindR at h
    split at h
    · cases h
    split at h
    · cases h; exact (by decide : (150 : Int) ≠ 0)
    split at h
    · split at h
      · rename_i hx; cases h; exact recR_err (fun k sn l e he => kindR_err e he) hx
      · split at h
        · cases h
        · cases h; exact (by decide : (151 : Int) ≠ 0)
    · exact goR_err (fun k l e he => kindR_err e he) h
def KindRC (s : SpecD) (a : SpecA) (ro : Ro) (p bm : Nat) (n : Nat) : Prop :=
  ∀ (i : Nat), i < n → i < s.nodes.length → ∀ (seen : List AskD) (sa : Option Addr) (sc : Nat) (lk : Lk) (M : List (Int × (Nat × Nat × Nat) × Nat)) (cM : Nat) (G : Chs) (K : Value → Ro → Chs → Prop),
    Rds ro G sa seen.length sc 4 (asksV seen) → SeenIn s seen → LkIn s lk → LkM lk M → seen.length + 65 * i ≤ 200000 →
    (∀ M' cM', (∀ lk2, kindR s n (i : Int) seen lk = .ok lk2 → LkM lk2 M' ∧ LkIn s lk2) → K (flV (errR (kindR s n (i : Int) seen lk))) ro (.blk p 138 (specV s a ++ [.map (some bm)]) :: .obj bm (mapG (Value.int .i64) lkV M' cM') :: G)) →
    CallOk Tryz.prog 92 #[ptr' p, .int .i64 (i : Int), .slice sa seen.length sc] ro (.blk p 138 (specV s a ++ [.map (some bm)]) :: .obj bm (mapG (Value.int .i64) lkV M cM) :: G) K
section
variable {ro : Ro} {K : Value → Ro → Chs → Prop} {s : SpecD} {a : SpecA} {p bm : Nat}
/-- A record's fields, and whether they can be derived. -/
def recAll (s : SpecD) (n i : Nat) (d : NodeD) (seen : List AskD) (lk : Lk) : Except (Int × Int) Lk := match recR s (kindR s n) i 0 d.fields seen lk with
  | .error e => .error e
  | .ok lk2 => if allDer s lk2 d = true then .ok lk2 else .error (151, (i : Int))
set_option maxHeartbeats 8000000 in
theorem rgrec_ok (ho : SpecOk ro s a) (hc : checkD s = 0) {n : Nat} (ih : KindRC s a ro p bm n) {i : Nat} {d : NodeD} (hin : i < n + 1) (hd : s.nodes[i]? = some d) (h5 : d.kind = 5) {seen : List AskD} {sa : Option Addr} {sc : Nat} {lk : Lk} {M : List (Int × (Nat × Nat × Nat) × Nat)} {cM : Nat} {G : Chs}
    (hns : Rds ro G sa seen.length sc 4 (asksV seen)) (hsn : SeenIn s seen) (hli : LkIn s lk) (hlm : LkM lk M) (hb : seen.length + 65 * i ≤ 200000) (hlen : ∀ k : Nat, k < s.nodes.length → (preI (kidsAt s) s.nodes.length (k : Int)).length ≤ 100000)
    (hk : ∀ M' cM', (∀ lk2, recAll s n i d seen lk = .ok lk2 → LkM lk2 M' ∧ LkIn s lk2) → K (flV (errR (recAll s n i d seen lk))) ro (.blk p 138 (specV s a ++ [.map (some bm)]) :: .obj bm (mapG (Value.int .i64) lkV M' cM') :: G)) :
    CallOk Tryz.prog 119 #[ptr' p, .int .i64 (i : Int), .slice sa seen.length sc] ro (.blk p 138 (specV s a ++ [.map (some bm)]) :: .obj bm (mapG (Value.int .i64) lkV M cM) :: G) K := by
  have hv := Ahead.of hc
  have hi := (List.getElem?_eq_some_iff.1 hd).1
  have hr1 := ho.nodes
  have hm := hr1.max
  have hnn := hr1.le
  unfold maxLen at hm
  obtain ⟨x, hx⟩ : ∃ x, a.xs[i]? = some x := ⟨_, List.getElem?_eq_getElem (by rw [ho.len]; exact hi)⟩
  have hn1 := ho.each i d x hd hx
  have hfr := hn1.fields
  have hdr1 := nodesV_drop _ _ _ _ _ hd hx
  obtain ⟨hf, hks⟩ := hv i d hd
  have hsm := form_small hf
  have hnl := hns.len
  have hnc := hns.le
  have hnm := hns.max
  unfold maxLen at hnm
  unfold recAll at hk
  obtain ⟨lk00, hlk00⟩ : ∃ z, z = lk := ⟨_, rfl⟩
  rw [← hlk00] at hk
  refine CallOk.intro (args := [_, _, _]) (rs := [_]) T_ok Tryz.func119 Tryz.call119 rfl rfl (by kernel_rfl) rfl rfl ?_
  repeat (first | exact endA | refine wkP ?_ | refine opB (fun b => ?_) | refine opA (fun a' c' hc1 hc2 => ?_) | (apply GJ.and; exact rfl; intro hg) | (apply GJ.or; exact rfl; intro hg))
  rw [Int.toNat_natCast, Nat.add_assoc]
  refine OpOk.load rfl rfl (Ld.rs hr1 (node_fields hd hx)) ?_
  have hns2 := Rds.clip hns
  have hfm := hfr.max
  have hfl := hfr.le
  unfold maxLen at hfm
  repeat (first | exact endA | refine wkP ?_ | refine opB (fun b => ?_) | refine opA (fun a' c' hc1 hc2 => ?_) | (apply GJ.and; exact rfl; intro hg) | (apply GJ.or; exact rfl; intro hg))
  refine LoopOk.at (ι := Nat × List AskD × Option (Option Addr × Nat) × Lk × List (Int × (Nat × Nat × Nat) × Nat) × Nat) Keep.auto (fun (j, cs, w, lk, M, cM) => [(28, .int .i64 (j : Int)), (7, askW sa seen cs w)]) (fun (j, cs, w, lk, M, cM) => askC cs w ++ .blk b 58 [.int .i64 0, .int .i64 0] :: .blk p 138 (specV s a ++ [.map (some bm)]) :: .obj bm (mapG (Value.int .i64) lkV M cM) :: G) (fun (j, cs, w, lk, M, cM) => j ≤ d.fields.length ∧ (w = none → j = 0 ∧ cs = seen) ∧ (∀ q, w = some q → cs.length ≤ q.2 ∧ q.2 ≤ maxLen) ∧ cs.length = seen.length + j ∧ SeenIn s cs ∧ LkIn s lk ∧ LkM lk M ∧ recR s (kindR s n) i 0 d.fields seen lk00 = recR s (kindR s n) i j (d.fields.drop j) cs lk) (fun (j, cs, w, lk, M, cM) => d.fields.length - j) (0, seen, none, lk, M, cM) ?_ Sub.auto Sup.auto ?_
  · exact ⟨Nat.zero_le _, fun _ => ⟨rfl, rfl⟩, (fun q h => by cases h), rfl, hsn, hli, hlm, by rw [hlk00]; rfl⟩
  clear hlm hli
  rintro ⟨j, cs, w, lk, M, cM⟩ ⟨i1, i2, i3, i4, i5, i6, i7, i8⟩
  dsimp only [List.cons_append, List.nil_append] at i1 i2 i3 i4 i5 i6 i7 i8 ⊢
  cases w with
  | none =>
    obtain ⟨hj0, rfl⟩ := i2 rfl
    dsimp only [askC, askW, List.nil_append]
    by_cases hj : j < d.fields.length
    · obtain ⟨f, hfj⟩ : ∃ f, d.fields[j]? = some f := ⟨_, List.getElem?_eq_getElem hj⟩
      have hfe : d.fields[j] = f := Option.some.inj ((List.getElem?_eq_getElem hj).symm.trans hfj)
      have hfd := fieldsV_drop d.fields hj
      rw [hfe] at hfd
      have hdj : d.fields.drop j = f :: d.fields.drop (j + 1) := by rw [List.drop_eq_getElem_cons hj, hfe]
      rw [hdj, recR] at i8
      have hfm' := List.mem_of_getElem? hfj
      have hty : f.type ∈ kidsD d := by rw [kids_rec hf h5]; exact List.mem_map.2 ⟨f, hfm', rfl⟩
      obtain ⟨q1, q2⟩ := hks _ hty
      obtain ⟨k, hk0⟩ := Int.eq_ofNat_of_zero_le q1
      obtain ⟨e, he⟩ : ∃ e, s.nodes[k]? = some e := ⟨_, List.getElem?_eq_getElem (by omega)⟩
      obtain ⟨y, hy⟩ : ∃ y, a.xs[k]? = some y := ⟨_, List.getElem?_eq_getElem (by rw [ho.len]; omega)⟩
      have hdre := nodesV_drop _ _ _ _ _ he hy
      have hnum : numAt s (k : Int) = isNum e := by unfold numAt; rw [Int.toNat_natCast, he]
      clear hfe hdj hty hfm'
      repeat (first | exact endA | refine wkP ?_ | refine opB (fun b => ?_) | refine opA (fun a' c' hc1 hc2 => ?_) | (apply GJ.and; exact rfl; intro hg) | (apply GJ.or; exact rfl; intro hg))
      rw [Int.toNat_natCast]
      refine OpOk.loadRow rfl rfl (LdN.at hfr hfd) rfl ?_
      repeat (first | exact endA | refine wkP ?_ | refine opB (fun b => ?_) | refine opA (fun a' c' hc1 hc2 => ?_) | (apply GJ.and; exact rfl; intro hg) | (apply GJ.or; exact rfl; intro hg))
      rename_i b9x
      obtain ⟨bF, hbF⟩ : ∃ z : Nat, z = b := ⟨_, rfl⟩
      subst hbF
      rw [hk0] at i8 ⊢
      refine CallOk.sup (own0 := .blk p 138 (specV s a ++ [.map (some bm)]) :: .obj bm (mapG (Value.int .i64) lkV M cM) :: .blk bF 47 (fieldV f) :: .blk b9x 58 [.int .i64 0, .int .i64 0] :: G) Sup.auto ?_
      have hRD : Rds ro (.blk bF 47 (fieldV f) :: .blk b9x 58 [.int .i64 0, .int .i64 0] :: G) sa cs.length cs.length 4 (asksV cs) := (by exact hns2.up)
      refine ih k (by omega) (by omega) cs sa cs.length lk M cM _ _ hRD i5 i6 i7 (by omega) (fun M2 cM2 h2 => ?_)
      dsimp only [List.cons_append, flV]
      have hne := kindR_err (s := s) (n := n) (a := (k : Int)) (seen := cs) (lk := lk)
      cases hz : kindR s n (k : Int) cs lk with
      | error z =>
        rw [hz] at i8
        dsimp only at i8
        rw [i8] at hk
        have hz1 := hne z hz
        obtain ⟨z1, z2⟩ := z
        have hk2 := hk M2 cM2 (fun lk2 h => by cases h)
        dsimp only [errR, flV] at hk2 hz1 ⊢
        repeat (first | exact endA | refine wkP ?_ | refine opB (fun b => ?_) | refine opA (fun a' c' hc1 hc2 => ?_) | (apply GJ.and; exact rfl; intro hg) | (apply GJ.or; exact rfl; intro hg))
        exact Wk.outS Sup.auto (.refl _) hk2
      | ok lk2 =>
        rw [hz] at i8
        dsimp only at i8
        obtain ⟨g1, g2⟩ := h2 lk2 hz
        dsimp only [errR]
        rw [hnum] at i8
        have hne2 : isNum e = decide (e.kind = 1 ∨ e.kind = 2) := rfl
        repeat (first | exact endA | refine wkP ?_ | refine opB (fun b => ?_) | refine opA (fun a' c' hc1 hc2 => ?_) | (apply GJ.and; exact rfl; intro hg) | (apply GJ.or; exact rfl; intro hg))
        rw [hk0, Int.toNat_natCast]
        refine QOk.loadRow rfl rfl (LdN.at hr1 hdre) rfl ?_
        repeat (first | exact endA | refine wkP ?_ | refine opB (fun b => ?_) | refine opA (fun a' c' hc1 hc2 => ?_) | (apply GJ.and; exact rfl; intro hg) | (apply GJ.or; exact rfl; intro hg))
        refine number_ok ?_
        rw [← hne2]
        cases hbn : isNum e with
        | false =>
          rw [hbn, Bool.false_and] at i8
          obtain ⟨qn, hqn⟩ : ∃ q : AskD, q = ⟨f.name, i, j, false⟩ := ⟨_, rfl⟩
          rw [← hqn] at i8
          have hcl : asksV cs ++ flat [Value.agg #[str f.name, .int .i64 (i : Int), .int .i64 (j : Int), .bool false]] = asksV (cs ++ [qn]) := by rw [hqn]; simp [asksV, askV, flat, Value.cells]
          have hse : SeenIn s (cs ++ [qn]) := i5.snoc (by rw [hqn]; exact hd) (by rw [hqn]; exact hj)
          have hnl1 : cs.length + 1 = (cs ++ [qn]).length := by rw [List.length_append, List.length_singleton]
          clear hqn hfd
          repeat (first | exact endA | refine wkP ?_ | refine opB (fun b => ?_) | refine opA (fun a' c' hc1 hc2 => ?_) | (apply GJ.and; exact rfl; intro hg) | (apply GJ.or; exact rfl; intro hg))
          refine OpOk.appendFull rfl rfl rfl rfl rfl (by exact hns2.up) (Rds.hasSl (by decide) (by decide) rfl) (by intro u hu; simp [flat, Value.cells] at hu; rcases hu with rfl | rfl | rfl | rfl <;> rfl) (by decide) (by omega) (fun a' c' hc1 hc2 => ?_)
          repeat (first | exact endA | refine wkP ?_ | refine opB (fun b => ?_) | refine opA (fun a' c' hc1 hc2 => ?_) | (apply GJ.and; exact rfl; intro hg) | (apply GJ.or; exact rfl; intro hg))
          rw [hcl]
          rw [hnl1] at hc1 ⊢
          refine Wk.id ⟨(j + 1, cs ++ [qn], some (a', c'), lk2, M2, cM2), ⟨rfl, ?_⟩, ?_, Sub.auto, Sup.auto⟩
          all_goals try dsimp only
          · exact ⟨by omega, (fun h => by cases h), (fun q hq => by cases hq; exact ⟨hc1, hc2⟩), by rw [← hnl1]; omega, hse, g2, g1, i8⟩
          · omega
        | true =>
          rw [hbn, Bool.true_and] at i8
          obtain ⟨qn, hqn⟩ : ∃ q : AskD, q = ⟨f.name, i, j, decide (f.derive ≠ 3)⟩ := ⟨_, rfl⟩
          rw [← hqn] at i8
          have hcl : asksV cs ++ flat [Value.agg #[str f.name, .int .i64 (i : Int), .int .i64 (j : Int), .bool (decide (f.derive ≠ 3))]] = asksV (cs ++ [qn]) := by rw [hqn]; simp [asksV, askV, flat, Value.cells]
          have hse : SeenIn s (cs ++ [qn]) := i5.snoc (by rw [hqn]; exact hd) (by rw [hqn]; exact hj)
          have hnl1 : cs.length + 1 = (cs ++ [qn]).length := by rw [List.length_append, List.length_singleton]
          clear hqn hfd
          repeat (first | exact endA | refine wkP ?_ | refine opB (fun b => ?_) | refine opA (fun a' c' hc1 hc2 => ?_) | (apply GJ.and; exact rfl; intro hg) | (apply GJ.or; exact rfl; intro hg))
          refine OpOk.appendFull rfl rfl rfl rfl rfl (by exact hns2.up) (Rds.hasSl (by decide) (by decide) rfl) (by intro u hu; simp [flat, Value.cells] at hu; rcases hu with rfl | rfl | rfl | rfl <;> rfl) (by decide) (by omega) (fun a' c' hc1 hc2 => ?_)
          repeat (first | exact endA | refine wkP ?_ | refine opB (fun b => ?_) | refine opA (fun a' c' hc1 hc2 => ?_) | (apply GJ.and; exact rfl; intro hg) | (apply GJ.or; exact rfl; intro hg))
          rw [hcl]
          rw [hnl1] at hc1 ⊢
          refine Wk.id ⟨(j + 1, cs ++ [qn], some (a', c'), lk2, M2, cM2), ⟨rfl, ?_⟩, ?_, Sub.auto, Sup.auto⟩
          all_goals try dsimp only
          · exact ⟨by omega, (fun h => by cases h), (fun q hq => by cases hq; exact ⟨hc1, hc2⟩), by rw [← hnl1]; omega, hse, g2, g1, i8⟩
          · omega
    · obtain rfl : j = d.fields.length := by omega
      rw [List.drop_length, recR] at i8
      rw [i8] at hk
      dsimp only at hk
      repeat (first | exact endA | refine wkP ?_ | refine opB (fun b => ?_) | refine opA (fun a' c' hc1 hc2 => ?_) | (apply GJ.and; exact rfl; intro hg) | (apply GJ.or; exact rfl; intro hg))
      rw [Int.toNat_natCast, Nat.add_assoc]
      refine OpOk.load rfl rfl (Ld.rs hr1 (node_fields hd hx)) ?_
      repeat (first | exact endA | refine wkP ?_ | refine opB (fun b => ?_) | refine opA (fun a' c' hc1 hc2 => ?_) | (apply GJ.and; exact rfl; intro hg) | (apply GJ.or; exact rfl; intro hg))
      have hall : (allDer s lk d = true ↔ ∀ t : Nat, t < d.fields.length → derivedR s lk d t = true) := by simp [allDer]
      refine LoopOk.at (ι := Nat) Keep.auto (fun t => [(76, .int .i64 (t : Int))]) (fun t => .blk b 58 [.int .i64 0, .int .i64 0] :: .blk p 138 (specV s a ++ [.map (some bm)]) :: .obj bm (mapG (Value.int .i64) lkV M cM) :: G) (fun t => t ≤ d.fields.length ∧ ∀ u : Nat, u < t → derivedR s lk d u = true) (fun t => d.fields.length - t) 0 ?_ Sub.auto Sup.auto ?_
      · exact ⟨Nat.zero_le _, fun u hu => absurd hu (Nat.not_lt_zero u)⟩
      rintro t ⟨t1, t2⟩
      by_cases ht : t < d.fields.length
      · repeat (first | exact endA | refine wkP ?_ | refine opB (fun b => ?_) | refine opA (fun a' c' hc1 hc2 => ?_) | (apply GJ.and; exact rfl; intro hg) | (apply GJ.or; exact rfl; intro hg))
        refine CallOk.sup (own0 := .blk p 138 (specV s a ++ [.map (some bm)]) :: .obj bm (mapG (Value.int .i64) lkV M cM) :: .blk b 58 [.int .i64 0, .int .i64 0] :: G) Sup.auto ?_
        refine derived_ok ho hc i6 i7 hd ht hlen ?_
        cases hdt : derivedR s lk d t with
        | true =>
          repeat (first | exact endA | refine wkP ?_ | refine opB (fun b => ?_) | refine opA (fun a' c' hc1 hc2 => ?_) | (apply GJ.and; exact rfl; intro hg) | (apply GJ.or; exact rfl; intro hg))
          refine Wk.id ⟨t + 1, ⟨rfl, ?_⟩, ?_, Sub.auto, Sup.auto⟩
          all_goals try dsimp only
          · exact ⟨by omega, fun u hu => by
              by_cases hut : u < t
              · exact t2 u hut
              · obtain rfl : u = t := by omega
                exact hdt⟩
          · omega
        | false =>
          have hna : ¬ (allDer s lk d = true) := fun h => by rw [hall.1 h t ht] at hdt; cases hdt
          rw [if_neg hna] at hk
          have hk2 := hk M cM (fun lk2 h => by cases h)
          dsimp only [errR, flV] at hk2
          repeat (first | exact endA | refine wkP ?_ | refine opB (fun b => ?_) | refine opA (fun a' c' hc1 hc2 => ?_) | (apply GJ.and; exact rfl; intro hg) | (apply GJ.or; exact rfl; intro hg))
          exact Wk.outS Sup.auto (.refl _) hk2
      · have hya : allDer s lk d = true := hall.2 (fun u hu => t2 u (by omega))
        rw [if_pos hya] at hk
        have hk2 := hk M cM (fun lk2 h => by cases h; exact ⟨i7, i6⟩)
        dsimp only [errR, flV] at hk2
        repeat (first | exact endA | refine wkP ?_ | refine opB (fun b => ?_) | refine opA (fun a' c' hc1 hc2 => ?_) | (apply GJ.and; exact rfl; intro hg) | (apply GJ.or; exact rfl; intro hg))
        exact Wk.outS Sup.auto (.refl _) hk2
  | some q =>
    obtain ⟨oa, oc⟩ := q
    obtain ⟨i9, i10⟩ := i3 _ rfl
    dsimp only at i9 i10
    have i11 := i10
    unfold maxLen at i11
    dsimp only [askC, askW, List.nil_append, List.cons_append]
    by_cases hj : j < d.fields.length
    · obtain ⟨f, hfj⟩ : ∃ f, d.fields[j]? = some f := ⟨_, List.getElem?_eq_getElem hj⟩
      have hfe : d.fields[j] = f := Option.some.inj ((List.getElem?_eq_getElem hj).symm.trans hfj)
      have hfd := fieldsV_drop d.fields hj
      rw [hfe] at hfd
      have hdj : d.fields.drop j = f :: d.fields.drop (j + 1) := by rw [List.drop_eq_getElem_cons hj, hfe]
      rw [hdj, recR] at i8
      have hfm' := List.mem_of_getElem? hfj
      have hty : f.type ∈ kidsD d := by rw [kids_rec hf h5]; exact List.mem_map.2 ⟨f, hfm', rfl⟩
      obtain ⟨q1, q2⟩ := hks _ hty
      obtain ⟨k, hk0⟩ := Int.eq_ofNat_of_zero_le q1
      obtain ⟨e, he⟩ : ∃ e, s.nodes[k]? = some e := ⟨_, List.getElem?_eq_getElem (by omega)⟩
      obtain ⟨y, hy⟩ : ∃ y, a.xs[k]? = some y := ⟨_, List.getElem?_eq_getElem (by rw [ho.len]; omega)⟩
      have hdre := nodesV_drop _ _ _ _ _ he hy
      have hnum : numAt s (k : Int) = isNum e := by unfold numAt; rw [Int.toNat_natCast, he]
      clear hfe hdj hty hfm'
      repeat (first | exact endA | refine wkP ?_ | refine opB (fun b => ?_) | refine opA (fun a' c' hc1 hc2 => ?_) | (apply GJ.and; exact rfl; intro hg) | (apply GJ.or; exact rfl; intro hg))
      rw [Int.toNat_natCast]
      refine OpOk.loadRow rfl rfl (LdN.at hfr hfd) rfl ?_
      repeat (first | exact endA | refine wkP ?_ | refine opB (fun b => ?_) | refine opA (fun a' c' hc1 hc2 => ?_) | (apply GJ.and; exact rfl; intro hg) | (apply GJ.or; exact rfl; intro hg))
      rename_i b9x
      obtain ⟨bF, hbF⟩ : ∃ z : Nat, z = b := ⟨_, rfl⟩
      subst hbF
      rw [hk0] at i8 ⊢
      refine CallOk.sup (own0 := .blk p 138 (specV s a ++ [.map (some bm)]) :: .obj bm (mapG (Value.int .i64) lkV M cM) :: .blk bF 47 (fieldV f) :: .sl oa cs.length oc 176 4 (asksV cs) :: .blk b9x 58 [.int .i64 0, .int .i64 0] :: G) Sup.auto ?_
      have hRD : Rds ro (.blk bF 47 (fieldV f) :: .sl oa cs.length oc 176 4 (asksV cs) :: .blk b9x 58 [.int .i64 0, .int .i64 0] :: G) oa cs.length oc 4 (asksV cs) := (Rds.hasSl (by omega) (by omega) (asksV_len cs))
      refine ih k (by omega) (by omega) cs oa oc lk M cM _ _ hRD i5 i6 i7 (by omega) (fun M2 cM2 h2 => ?_)
      dsimp only [List.cons_append, flV]
      have hne := kindR_err (s := s) (n := n) (a := (k : Int)) (seen := cs) (lk := lk)
      cases hz : kindR s n (k : Int) cs lk with
      | error z =>
        rw [hz] at i8
        dsimp only at i8
        rw [i8] at hk
        have hz1 := hne z hz
        obtain ⟨z1, z2⟩ := z
        have hk2 := hk M2 cM2 (fun lk2 h => by cases h)
        dsimp only [errR, flV] at hk2 hz1 ⊢
        repeat (first | exact endA | refine wkP ?_ | refine opB (fun b => ?_) | refine opA (fun a' c' hc1 hc2 => ?_) | (apply GJ.and; exact rfl; intro hg) | (apply GJ.or; exact rfl; intro hg))
        exact Wk.outS Sup.auto (.refl _) hk2
      | ok lk2 =>
        rw [hz] at i8
        dsimp only at i8
        obtain ⟨g1, g2⟩ := h2 lk2 hz
        dsimp only [errR]
        rw [hnum] at i8
        have hne2 : isNum e = decide (e.kind = 1 ∨ e.kind = 2) := rfl
        repeat (first | exact endA | refine wkP ?_ | refine opB (fun b => ?_) | refine opA (fun a' c' hc1 hc2 => ?_) | (apply GJ.and; exact rfl; intro hg) | (apply GJ.or; exact rfl; intro hg))
        rw [hk0, Int.toNat_natCast]
        refine QOk.loadRow rfl rfl (LdN.at hr1 hdre) rfl ?_
        repeat (first | exact endA | refine wkP ?_ | refine opB (fun b => ?_) | refine opA (fun a' c' hc1 hc2 => ?_) | (apply GJ.and; exact rfl; intro hg) | (apply GJ.or; exact rfl; intro hg))
        refine number_ok ?_
        rw [← hne2]
        cases hbn : isNum e with
        | false =>
          rw [hbn, Bool.false_and] at i8
          obtain ⟨qn, hqn⟩ : ∃ q : AskD, q = ⟨f.name, i, j, false⟩ := ⟨_, rfl⟩
          rw [← hqn] at i8
          have hcl : asksV cs ++ flat [Value.agg #[str f.name, .int .i64 (i : Int), .int .i64 (j : Int), .bool false]] = asksV (cs ++ [qn]) := by rw [hqn]; simp [asksV, askV, flat, Value.cells]
          have hse : SeenIn s (cs ++ [qn]) := i5.snoc (by rw [hqn]; exact hd) (by rw [hqn]; exact hj)
          have hnl1 : cs.length + 1 = (cs ++ [qn]).length := by rw [List.length_append, List.length_singleton]
          clear hqn hfd
          repeat (first | exact endA | refine wkP ?_ | refine opB (fun b => ?_) | refine opA (fun a' c' hc1 hc2 => ?_) | (apply GJ.and; exact rfl; intro hg) | (apply GJ.or; exact rfl; intro hg))
          rw [hcl]
          rw [hnl1] at hc1 ⊢
          refine Wk.id ⟨(j + 1, cs ++ [qn], some (a', c'), lk2, M2, cM2), ⟨rfl, ?_⟩, ?_, Sub.auto, Sup.auto⟩
          all_goals try dsimp only
          · exact ⟨by omega, (fun h => by cases h), (fun q hq => by cases hq; exact ⟨hc1, hc2⟩), by rw [← hnl1]; omega, hse, g2, g1, i8⟩
          · omega
        | true =>
          rw [hbn, Bool.true_and] at i8
          obtain ⟨qn, hqn⟩ : ∃ q : AskD, q = ⟨f.name, i, j, decide (f.derive ≠ 3)⟩ := ⟨_, rfl⟩
          rw [← hqn] at i8
          have hcl : asksV cs ++ flat [Value.agg #[str f.name, .int .i64 (i : Int), .int .i64 (j : Int), .bool (decide (f.derive ≠ 3))]] = asksV (cs ++ [qn]) := by rw [hqn]; simp [asksV, askV, flat, Value.cells]
          have hse : SeenIn s (cs ++ [qn]) := i5.snoc (by rw [hqn]; exact hd) (by rw [hqn]; exact hj)
          have hnl1 : cs.length + 1 = (cs ++ [qn]).length := by rw [List.length_append, List.length_singleton]
          clear hqn hfd
          repeat (first | exact endA | refine wkP ?_ | refine opB (fun b => ?_) | refine opA (fun a' c' hc1 hc2 => ?_) | (apply GJ.and; exact rfl; intro hg) | (apply GJ.or; exact rfl; intro hg))
          rw [hcl]
          rw [hnl1] at hc1 ⊢
          refine Wk.id ⟨(j + 1, cs ++ [qn], some (a', c'), lk2, M2, cM2), ⟨rfl, ?_⟩, ?_, Sub.auto, Sup.auto⟩
          all_goals try dsimp only
          · exact ⟨by omega, (fun h => by cases h), (fun q hq => by cases hq; exact ⟨hc1, hc2⟩), by rw [← hnl1]; omega, hse, g2, g1, i8⟩
          · omega
    · obtain rfl : j = d.fields.length := by omega
      rw [List.drop_length, recR] at i8
      rw [i8] at hk
      dsimp only at hk
      repeat (first | exact endA | refine wkP ?_ | refine opB (fun b => ?_) | refine opA (fun a' c' hc1 hc2 => ?_) | (apply GJ.and; exact rfl; intro hg) | (apply GJ.or; exact rfl; intro hg))
      rw [Int.toNat_natCast, Nat.add_assoc]
      refine OpOk.load rfl rfl (Ld.rs hr1 (node_fields hd hx)) ?_
      repeat (first | exact endA | refine wkP ?_ | refine opB (fun b => ?_) | refine opA (fun a' c' hc1 hc2 => ?_) | (apply GJ.and; exact rfl; intro hg) | (apply GJ.or; exact rfl; intro hg))
      have hall : (allDer s lk d = true ↔ ∀ t : Nat, t < d.fields.length → derivedR s lk d t = true) := by simp [allDer]
      refine LoopOk.at (ι := Nat) Keep.auto (fun t => [(76, .int .i64 (t : Int))]) (fun t => .sl oa cs.length oc 176 4 (asksV cs) :: .blk b 58 [.int .i64 0, .int .i64 0] :: .blk p 138 (specV s a ++ [.map (some bm)]) :: .obj bm (mapG (Value.int .i64) lkV M cM) :: G) (fun t => t ≤ d.fields.length ∧ ∀ u : Nat, u < t → derivedR s lk d u = true) (fun t => d.fields.length - t) 0 ?_ Sub.auto Sup.auto ?_
      · exact ⟨Nat.zero_le _, fun u hu => absurd hu (Nat.not_lt_zero u)⟩
      rintro t ⟨t1, t2⟩
      by_cases ht : t < d.fields.length
      · repeat (first | exact endA | refine wkP ?_ | refine opB (fun b => ?_) | refine opA (fun a' c' hc1 hc2 => ?_) | (apply GJ.and; exact rfl; intro hg) | (apply GJ.or; exact rfl; intro hg))
        refine CallOk.sup (own0 := .blk p 138 (specV s a ++ [.map (some bm)]) :: .obj bm (mapG (Value.int .i64) lkV M cM) :: .sl oa cs.length oc 176 4 (asksV cs) :: .blk b 58 [.int .i64 0, .int .i64 0] :: G) Sup.auto ?_
        refine derived_ok ho hc i6 i7 hd ht hlen ?_
        cases hdt : derivedR s lk d t with
        | true =>
          repeat (first | exact endA | refine wkP ?_ | refine opB (fun b => ?_) | refine opA (fun a' c' hc1 hc2 => ?_) | (apply GJ.and; exact rfl; intro hg) | (apply GJ.or; exact rfl; intro hg))
          refine Wk.id ⟨t + 1, ⟨rfl, ?_⟩, ?_, Sub.auto, Sup.auto⟩
          all_goals try dsimp only
          · exact ⟨by omega, fun u hu => by
              by_cases hut : u < t
              · exact t2 u hut
              · obtain rfl : u = t := by omega
                exact hdt⟩
          · omega
        | false =>
          have hna : ¬ (allDer s lk d = true) := fun h => by rw [hall.1 h t ht] at hdt; cases hdt
          rw [if_neg hna] at hk
          have hk2 := hk M cM (fun lk2 h => by cases h)
          dsimp only [errR, flV] at hk2
          repeat (first | exact endA | refine wkP ?_ | refine opB (fun b => ?_) | refine opA (fun a' c' hc1 hc2 => ?_) | (apply GJ.and; exact rfl; intro hg) | (apply GJ.or; exact rfl; intro hg))
          exact Wk.outS Sup.auto (.refl _) hk2
      · have hya : allDer s lk d = true := hall.2 (fun u hu => t2 u (by omega))
        rw [if_pos hya] at hk
        have hk2 := hk M cM (fun lk2 h => by cases h; exact ⟨i7, i6⟩)
        dsimp only [errR, flV] at hk2
        repeat (first | exact endA | refine wkP ?_ | refine opB (fun b => ?_) | refine opA (fun a' c' hc1 hc2 => ?_) | (apply GJ.and; exact rfl; intro hg) | (apply GJ.or; exact rfl; intro hg))
        exact Wk.outS Sup.auto (.refl _) hk2
end
end Go.Proofs.YtnapjcnfgdkmcaaGreatDoor
end
section
/- Contracts of reg: a type's names and kids. -/
namespace Go.Proofs.YtnapjcnfgdkmcaaGreatDoor
open Go Go.E
set_option linter.unusedVariables false
set_option linter.unusedSectionVars false
set_option linter.unusedSimpArgs false
set_option maxRecDepth 10000
def restR (i : Nat) (seen : List AskD) : List (List UInt8) → Lk → Option Lk
  | [], lk => some lk
  | n :: ns, lk => (oneR i seen n lk).bind (restR i seen ns)
theorem kindR_two {s : SpecD} {n i : Nat} {d : NodeD} (hd : s.nodes[i]? = some d) (seen : List AskD) (lk : Lk) : kindR s (n + 1) (i : Int) seen lk = match restR i seen [d.reg, d.ereg] lk with
    | none => .error (150, (i : Int))
    | some lk1 => if d.kind = 5 then recAll s n i d seen lk1 else goR (fun k => kindR s n k seen) (kidsD d) lk1 := by
  have e : restR i seen [d.reg, d.ereg] lk = (oneR i seen d.reg lk).bind (oneR i seen d.ereg) := by
    have e1 : restR i seen [d.ereg] = oneR i seen d.ereg := funext fun l => by
      unfold restR
      cases oneR i seen d.ereg l <;> rfl
    conv => lhs; unfold restR
    rw [e1]
  rw [e]
  conv => lhs; unfold kindR
  rw [Int.toNat_natCast, hd]
  rfl
theorem putLk_in {s : SpecD} {lk : Lk} (h : LkIn s lk) {seen : List AskD} (hs : SeenIn s seen) {q : AskD} (hq : q ∈ seen) (x : Nat) : LkIn s (putLk lk x q.record q.field) := fun y r f hy => by
  unfold putLk at hy
  by_cases hxy : y = x
  · rw [if_pos hxy] at hy
    obtain ⟨d, h1, h2⟩ := hs q hq
    cases hy
    exact ⟨d, h1, h2⟩
  · rw [if_neg hxy] at hy
    exact h y r f hy
section
variable {ro : Ro} {K : Value → Ro → Chs → Prop} {s : SpecD} {a : SpecA} {p bm : Nat}
set_option maxHeartbeats 8000000 in
theorem rgkind_ok (ho : SpecOk ro s a) (hc : checkD s = 0) (hlen : ∀ k : Nat, k < s.nodes.length → (preI (kidsAt s) s.nodes.length (k : Int)).length ≤ 100000) : ∀ n, KindRC s a ro p bm n := by
  have hv := Ahead.of hc
  intro n
  induction n with
  | zero => intro i h; omega
  | succ n ih =>
    intro i hin hi seen sa sc lk M cM G K hns hsn hli hlm hb hk
    obtain ⟨d, hd⟩ : ∃ d, s.nodes[i]? = some d := ⟨_, List.getElem?_eq_getElem hi⟩
    have hr1 := ho.nodes
    have hm := hr1.max
    have hnn := hr1.le
    unfold maxLen at hm
    obtain ⟨x, hx⟩ : ∃ x, a.xs[i]? = some x := ⟨_, List.getElem?_eq_getElem (by rw [ho.len]; exact hi)⟩
    have hn1 := ho.each i d x hd hx
    have hdr1 := nodesV_drop _ _ _ _ _ hd hx
    obtain ⟨hf, hks⟩ := hv i d hd
    have hsm := form_small hf
    have hnl := hns.len
    have hnc := hns.le
    have hnm := hns.max
    unfold maxLen at hnm
    have hZ := kindR_two (n := n) hd seen lk
    generalize kindR s (n + 1) (i : Int) seen lk = Z at hk hZ
    generalize hR0 : restR i seen [d.reg, d.ereg] lk = R0 at hZ
    refine CallOk.intro (args := [_, _, _]) (rs := [_]) T_ok Tryz.func92 Tryz.call92 rfl rfl (by kernel_rfl) rfl rfl ?_
    repeat (first | exact endA | refine wkP ?_ | refine opB (fun b => ?_) | refine opA (fun a' c' hc1 hc2 => ?_) | (apply GJ.and; exact rfl; intro hg) | (apply GJ.or; exact rfl; intro hg))
    rw [Int.toNat_natCast]
    refine OpOk.loadRow rfl rfl (LdN.at hr1 hdr1) rfl ?_
    repeat (first | exact endA | refine wkP ?_ | refine opB (fun b => ?_) | refine opA (fun a' c' hc1 hc2 => ?_) | (apply GJ.and; exact rfl; intro hg) | (apply GJ.or; exact rfl; intro hg))
    rename_i b9x
    obtain ⟨bN, hbN⟩ : ∃ z : Nat, z = b := ⟨_, rfl⟩
    subst hbN
    refine OpOk.buildK (ps := [(0, .tmp 24), (1, .tmp 27)]) [str d.reg, str d.ereg] rfl (by kernel_rfl) ?_
    repeat (first | exact endA | refine wkP ?_ | refine opB (fun b => ?_) | refine opA (fun a' c' hc1 hc2 => ?_) | (apply GJ.and; exact rfl; intro hg) | (apply GJ.or; exact rfl; intro hg))
    refine LoopOk.at (ι := Nat × Lk × List (Int × (Nat × Nat × Nat) × Nat) × Nat) Keep.auto (fun (t, lk, M, cM) => [(29, .int .i64 (t : Int))]) (fun (t, lk, M, cM) => .blk bN 40 (nodeV d x) :: .blk b9x 58 [.int .i64 0, .int .i64 0] :: .blk p 138 (specV s a ++ [.map (some bm)]) :: .obj bm (mapG (Value.int .i64) lkV M cM) :: G) (fun (t, lk, M, cM) => t ≤ 2 ∧ LkIn s lk ∧ LkM lk M ∧ R0 = restR i seen ([d.reg, d.ereg].drop t) lk) (fun (t, lk, M, cM) => 2 - t) (0, lk, M, cM) ?_ Sub.auto Sup.auto ?_
    · exact ⟨by omega, hli, hlm, hR0.symm⟩
    clear hlm hli hR0
    rintro ⟨t, lk, M, cM⟩ ⟨i1, i6, i7, i8⟩
    dsimp only [List.cons_append, List.nil_append] at i1 i6 i7 i8 ⊢
    by_cases ht : t < 2
    · obtain ⟨nm, hnm9, hnv⟩ : ∃ nm, [d.reg, d.ereg].drop t = nm :: [d.reg, d.ereg].drop (t + 1) ∧ ([str d.reg, str d.ereg] : List Value)[t]? = some (str nm) := by
        have h01 : t = 0 ∨ t = 1 := by omega
        rcases h01 with rfl | rfl
        · exact ⟨d.reg, rfl, rfl⟩
        · exact ⟨d.ereg, rfl, rfl⟩
      rw [hnm9, restR] at i8
      repeat (first | exact endA | refine wkP ?_ | refine opB (fun b => ?_) | refine opA (fun a' c' hc1 hc2 => ?_) | (apply GJ.and; exact rfl; intro hg) | (apply GJ.or; exact rfl; intro hg))
      refine OpOk.index1 (k := t) (n := 2) rfl rfl Tryz.underlying174 Tryz.underlying9 rfl (by kernel_rfl) rfl (by omega) hnv ?_
      repeat (first | exact endA | refine wkP ?_ | refine opB (fun b => ?_) | refine opA (fun a' c' hc1 hc2 => ?_) | (apply GJ.and; exact rfl; intro hg) | (apply GJ.or; exact rfl; intro hg))
      by_cases hnm : nm = []
      · rw [oneR, if_pos hnm, Option.bind_some] at i8
        refine Br.t hnm ?_
        repeat (first | exact endA | refine wkP ?_ | refine opB (fun b => ?_) | refine opA (fun a' c' hc1 hc2 => ?_) | (apply GJ.and; exact rfl; intro hg) | (apply GJ.or; exact rfl; intro hg))
        refine Wk.id ⟨(t + 1, lk, M, cM), ⟨rfl, ?_⟩, ?_, Sub.auto, Sup.auto⟩
        all_goals try dsimp only
        · exact ⟨by omega, i6, i7, i8⟩
        · omega
      rw [oneR, if_neg hnm] at i8
      refine Br.f hnm ?_
      repeat (first | exact endA | refine wkP ?_ | refine opB (fun b => ?_) | refine opA (fun a' c' hc1 hc2 => ?_) | (apply GJ.and; exact rfl; intro hg) | (apply GJ.or; exact rfl; intro hg))
      refine find_ok (l := seen) (by exact hns.up) rfl ?_
      cases hfq : findR seen nm with
      | none =>
        rw [hfq] at i8
        dsimp only [Option.bind_none] at i8
        rw [i8] at hZ
        dsimp only at hZ
        rw [hZ] at hk
        have hk2 := hk M cM (fun lk2 h => by cases h)
        dsimp only [errR, flV] at hk2
        dsimp only [Option.isSome_none, noAsk]
        repeat (first | exact endA | refine wkP ?_ | refine opB (fun b => ?_) | refine opA (fun a' c' hc1 hc2 => ?_) | (apply GJ.and; exact rfl; intro hg) | (apply GJ.or; exact rfl; intro hg))
        exact Wk.outS Sup.auto (.refl _) hk2
      | some q =>
        rw [hfq] at i8
        dsimp only at i8
        have hq := List.mem_of_find?_eq_some hfq
        cases hqn : q.number with
        | false =>
          rw [if_neg (by rw [hqn]; decide)] at i8
          rw [Option.bind_none] at i8
          rw [i8] at hZ
          dsimp only at hZ
          rw [hZ] at hk
          have hk2 := hk M cM (fun lk2 h => by cases h)
          dsimp only [errR, flV] at hk2
          dsimp only [Option.isSome_some, askV]
          rw [hqn]
          repeat (first | exact endA | refine wkP ?_ | refine opB (fun b => ?_) | refine opA (fun a' c' hc1 hc2 => ?_) | (apply GJ.and; exact rfl; intro hg) | (apply GJ.or; exact rfl; intro hg))
          exact Wk.outS Sup.auto (.refl _) hk2
        | true =>
          rw [if_pos hqn, Option.bind_some] at i8
          have hin2 := putLk_in i6 hsn hq i
          have hput := fun c => LkM.put i7 i q.record q.field c
          obtain ⟨q1, q2, q3, q4⟩ := q
          dsimp only at hqn
          subst hqn
          dsimp only [Option.isSome_some, askV] at i8 hin2 hput ⊢
          repeat (first | exact endA | refine wkP ?_ | refine opB (fun b => ?_) | refine opA (fun a' c' hc1 hc2 => ?_) | (apply GJ.and; exact rfl; intro hg) | (apply GJ.or; exact rfl; intro hg))
          refine OpOk.mapUpdateG (kt := 3) (et := 70) (kv := Value.int .i64) (vv := lkV) (k := (i : Int)) (v := (i, q2, q3)) rfl rfl rfl (by kernel_rfl) (KeyEnc.int (by kernel_rfl)) i7.map trivial (fun c2 => ?_)
          repeat (first | exact endA | refine wkP ?_ | refine opB (fun b => ?_) | refine opA (fun a' c' hc1 hc2 => ?_) | (apply GJ.and; exact rfl; intro hg) | (apply GJ.or; exact rfl; intro hg))
          refine Wk.id ⟨(t + 1, putLk lk i q2 q3, putG M cM (i : Int) (i, q2, q3), c2), ⟨rfl, ?_⟩, ?_, Sub.auto, Sup.auto⟩
          all_goals try dsimp only
          · exact ⟨by omega, hin2, hput cM, i8⟩
          · omega
    · obtain rfl : t = 2 := by omega
      rw [show restR i seen ([d.reg, d.ereg].drop 2) lk = some lk from rfl] at i8
      rw [i8] at hZ
      dsimp only at hZ
      by_cases h5 : d.kind = 5
      · rw [if_pos h5] at hZ
        repeat (first | exact endA | refine wkP ?_ | refine opB (fun b => ?_) | refine opA (fun a' c' hc1 hc2 => ?_) | (apply GJ.and; exact rfl; intro hg) | (apply GJ.or; exact rfl; intro hg))
        refine CallOk.sup (own0 := .blk p 138 (specV s a ++ [.map (some bm)]) :: .obj bm (mapG (Value.int .i64) lkV M cM) :: .blk bN 40 (nodeV d x) :: .blk b9x 58 [.int .i64 0, .int .i64 0] :: G) Sup.auto ?_
        have hRD : Rds ro (.blk bN 40 (nodeV d x) :: .blk b9x 58 [.int .i64 0, .int .i64 0] :: G) sa seen.length sc 4 (asksV seen) := hns.up
        refine rgrec_ok ho hc ih hin hd h5 hRD hsn i6 i7 hb hlen (fun M2 cM2 h2 => ?_)
        rw [← hZ] at h2 ⊢
        have hk2 := hk M2 cM2 h2
        generalize errR Z = z at *
        obtain ⟨z1, z2⟩ := z
        dsimp only [flV, List.cons_append] at hk2 ⊢
        repeat (first | exact endA | refine wkP ?_ | refine opB (fun b => ?_) | refine opA (fun a' c' hc1 hc2 => ?_) | (apply GJ.and; exact rfl; intro hg) | (apply GJ.or; exact rfl; intro hg))
        exact Wk.outS Sup.auto (.refl _) hk2
      · rw [if_neg h5] at hZ
        repeat (first | exact endA | refine wkP ?_ | refine opB (fun b => ?_) | refine opA (fun a' c' hc1 hc2 => ?_) | (apply GJ.and; exact rfl; intro hg) | (apply GJ.or; exact rfl; intro hg))
        refine kids_ok hn1 (by omega) (fun a1 n1 c1 h1 h2 h3 => ?_)
        subst h1
        have hkl : (kidsD d).length ≤ 1000 := by unfold kidsD; split <;> simp <;> omega
        obtain ⟨lk01, hlk01⟩ : ∃ z, z = lk := ⟨_, rfl⟩
        rw [← hlk01] at hZ
        repeat (first | exact endA | refine wkP ?_ | refine opB (fun b => ?_) | refine opA (fun a' c' hc1 hc2 => ?_) | (apply GJ.and; exact rfl; intro hg) | (apply GJ.or; exact rfl; intro hg))
        refine LoopOk.at (ι := Nat × Lk × List (Int × (Nat × Nat × Nat) × Nat) × Nat) Keep.auto (fun (j, lk, M, cM) => [(71, .int .i64 (j : Int))]) (fun (j, lk, M, cM) => .sl a1 (kidsD d).length c1 3 1 (kidsV (kidsD d)) :: .blk bN 40 (nodeV d x) :: .blk b9x 58 [.int .i64 0, .int .i64 0] :: .blk p 138 (specV s a ++ [.map (some bm)]) :: .obj bm (mapG (Value.int .i64) lkV M cM) :: G) (fun (j, lk, M, cM) => j ≤ (kidsD d).length ∧ LkIn s lk ∧ LkM lk M ∧ goR (fun k => kindR s n k seen) (kidsD d) lk01 = goR (fun k => kindR s n k seen) ((kidsD d).drop j) lk) (fun (j, lk, M, cM) => (kidsD d).length - j) (0, lk, M, cM) ?_ Sub.auto Sup.auto ?_
        · exact ⟨Nat.zero_le _, i6, i7, by rw [hlk01]; rfl⟩
        clear i6 i7 i8 hlk01
        rintro ⟨j, lk, M, cM⟩ ⟨j1, j2, j3, j4⟩
        dsimp only [List.cons_append, List.nil_append] at j1 j2 j3 j4 ⊢
        by_cases hj : j < (kidsD d).length
        · obtain ⟨y, hy⟩ : ∃ y, (kidsD d)[j]? = some y := ⟨_, List.getElem?_eq_getElem hj⟩
          have hyb : (kidsD d)[((j : Nat) : Int).toNat]! = y := by rw [Int.toNat_natCast, List.getElem!_eq_getElem?_getD, hy]; rfl
          have hdj : (kidsD d).drop j = y :: (kidsD d).drop (j + 1) := by rw [List.drop_eq_getElem_cons hj]; congr 1; exact Option.some.inj ((List.getElem?_eq_getElem hj).symm.trans hy)
          rw [hdj, goR] at j4
          obtain ⟨q1, q2⟩ := hks y (List.mem_of_getElem? hy)
          obtain ⟨k, rfl⟩ := Int.eq_ofNat_of_zero_le q1
          repeat (first | exact endA | refine wkP ?_ | refine opB (fun b => ?_) | refine opA (fun a' c' hc1 hc2 => ?_) | (apply GJ.and; exact rfl; intro hg) | (apply GJ.or; exact rfl; intro hg))
          rw [hyb]
          refine CallOk.sup (own0 := .blk p 138 (specV s a ++ [.map (some bm)]) :: .obj bm (mapG (Value.int .i64) lkV M cM) :: .sl a1 (kidsD d).length c1 3 1 (kidsV (kidsD d)) :: .blk bN 40 (nodeV d x) :: .blk b9x 58 [.int .i64 0, .int .i64 0] :: G) Sup.auto ?_
          have hRD : Rds ro (.sl a1 (kidsD d).length c1 3 1 (kidsV (kidsD d)) :: .blk bN 40 (nodeV d x) :: .blk b9x 58 [.int .i64 0, .int .i64 0] :: G) sa seen.length sc 4 (asksV seen) := hns.up
          refine ih k (by omega) (by omega) seen sa sc lk M cM _ _ hRD hsn j2 j3 (by omega) (fun M2 cM2 h2 => ?_)
          dsimp only [List.cons_append, flV]
          have hne := kindR_err (s := s) (n := n) (a := (k : Int)) (seen := seen) (lk := lk)
          cases hz : kindR s n (k : Int) seen lk with
          | error z =>
            rw [hz] at j4
            dsimp only at j4
            rw [j4] at hZ
            rw [hZ] at hk
            have hz1 := hne z hz
            obtain ⟨z1, z2⟩ := z
            have hk2 := hk M2 cM2 (fun lk2 h => by cases h)
            dsimp only [errR, flV] at hk2 hz1 ⊢
            repeat (first | exact endA | refine wkP ?_ | refine opB (fun b => ?_) | refine opA (fun a' c' hc1 hc2 => ?_) | (apply GJ.and; exact rfl; intro hg) | (apply GJ.or; exact rfl; intro hg))
            exact Wk.outS Sup.auto (.refl _) hk2
          | ok lk2 =>
            rw [hz] at j4
            dsimp only at j4
            obtain ⟨g1, g2⟩ := h2 lk2 hz
            dsimp only [errR]
            repeat (first | exact endA | refine wkP ?_ | refine opB (fun b => ?_) | refine opA (fun a' c' hc1 hc2 => ?_) | (apply GJ.and; exact rfl; intro hg) | (apply GJ.or; exact rfl; intro hg))
            refine Wk.id ⟨(j + 1, lk2, M2, cM2), ⟨rfl, ?_⟩, ?_, Sub.auto, Sup.auto⟩
            all_goals try dsimp only
            · exact ⟨by omega, g2, g1, j4⟩
            · omega
        · rw [List.drop_eq_nil_of_le (by omega), goR] at j4
          rw [j4] at hZ
          rw [hZ] at hk
          have hk2 := hk M cM (fun lk2 h => by cases h; exact ⟨j3, j2⟩)
          dsimp only [errR, flV] at hk2
          repeat (first | exact endA | refine wkP ?_ | refine opB (fun b => ?_) | refine opA (fun a' c' hc1 hc2 => ?_) | (apply GJ.and; exact rfl; intro hg) | (apply GJ.or; exact rfl; intro hg))
          exact Wk.outS Sup.auto (.refl _) hk2
end
end Go.Proofs.YtnapjcnfgdkmcaaGreatDoor
end
section
/- Contracts of reg: look, Check. -/
namespace Go.Proofs.YtnapjcnfgdkmcaaGreatDoor
open Go Go.E
set_option linter.unusedVariables false
set_option linter.unusedSectionVars false
set_option linter.unusedSimpArgs false
set_option maxRecDepth 10000
theorem pre_sub {s : SpecD} (hv : Ahead s) : ∀ (n a : Nat), a < n → a < s.nodes.length → ∀ i ∈ preI (kidsAt s) s.nodes.length (a : Int), (preI (kidsAt s) s.nodes.length i).length ≤ (preI (kidsAt s) s.nodes.length (a : Int)).length
  | 0, a, h, _, _, _ => by omega
  | n + 1, a, h, ha, i, hi => by
    have hi0 := hi
    rw [preI_eq hv.kidsAt ha] at hi
    rcases List.mem_cons.1 hi with h1 | h1
    · rw [h1]; exact Nat.le_refl _
    · obtain ⟨k, hk, hik⟩ := List.mem_flatMap.1 h1
      obtain ⟨q1, q2⟩ := hv.kidsAt a k hk
      obtain ⟨m, rfl⟩ := Int.eq_ofNat_of_zero_le q1
      have h2 := pre_sub hv n m (by omega) (by omega) i hik
      have h3 := flat_le (f := preI (kidsAt s) s.nodes.length) hk
      rw [preI_eq hv.kidsAt ha, List.length_cons]
      omega
theorem pre_all {s : SpecD} (hc : checkD s = 0) (k : Nat) (hk : k < s.nodes.length) : (preI (kidsAt s) s.nodes.length (k : Int)).length ≤ 100000 := by
  have hv := Ahead.of hc
  obtain ⟨d, h1, h2⟩ := own_mem hc hk
  have hm := List.mem_of_getElem? h1
  obtain ⟨q1, q2⟩ := defs_inS hc d hm
  have h3 := pre_len hc hm
  obtain ⟨m, hm0⟩ := Int.eq_ofNat_of_zero_le q1
  rw [hm0] at h2 h3 q2
  have h4 := pre_sub hv (m + 1) m (by omega) (by omega) _ h2
  have h5 : s.nodes.length ≤ 2048 := by
    obtain ⟨_, _, _, _, h1, h2, _, _⟩ := checkD_ok hc
    exact h1
  omega
theorem scope_chk {s : SpecD} (h : (scopeS s).1 = 0) : checkD s = 0 := by
  unfold scopeS at h
  split at h
  · rename_i hc; exact absurd h hc
  · rename_i hc; exact Decidable.of_not_not hc
section
variable {ro : Ro} {own : Chs} {K : Value → Ro → Chs → Prop} {s : SpecD} {a : SpecA}
set_option maxHeartbeats 8000000 in
theorem rglook_ok (ho : SpecOk ro s a) (hM : MaxOk ro) (hT : TextIn s)
    (hk1 : ∀ ro', Le ro ro' → ∀ e, lookR s = .error e → K (tup [.pointer none, flV e]) ro' own)
    (hk2 : ∀ ro', Le ro ro' → ∀ p bm M cM lk, lookR s = .ok lk → LkM lk M → LkIn s lk → K (tup [ptr' p, flV (0, 0)]) ro' (.blk p 138 (specV s a ++ [.map (some bm)]) :: .obj bm (mapG (Value.int .i64) lkV M cM) :: own)) :
    CallOk Tryz.prog 67 #[.agg (specV s a).toArray] ro own K := by
  have hcl : (Value.agg (specV s a).toArray).cells.toList = specV s a := rfl
  have hr2 := ho.defs
  have hm2 := hr2.max
  have hle2 := hr2.le
  unfold maxLen at hm2
  have hsz := @scope_chk s
  have hLR : lookR s = if (scopeS s).1 ≠ 0 then .error (scopeS s) else defsR s s.defs noLk := rfl
  generalize lookR s = LR at hk1 hk2 hLR
  refine CallOk.intro (args := [_]) (rs := [_, _]) T_ok Tryz.func67 Tryz.call67 rfl rfl (by kernel_rfl) rfl rfl ?_
  repeat (first | exact endA | refine wkP ?_ | refine opB (fun b => ?_) | refine opA (fun a' c' hc1 hc2 => ?_) | (apply GJ.and; exact rfl; intro hg) | (apply GJ.or; exact rfl; intro hg))
  rw [hcl]
  refine scheck_ok ho hM hT (fun ro2 hl2 => ?_)
  have hL2 : Leq ro ro2 := ⟨hl2.1⟩
  generalize scopeS s = z at *
  obtain ⟨z1, z2⟩ := z
  dsimp only [flV] at hsz hLR ⊢
  by_cases hz : z1 ≠ 0
  · rw [if_pos hz] at hLR
    have hk3 := hk1 ro2 hl2 _ hLR
    dsimp only [flV] at hk3
    repeat (first | exact endA | refine wkP ?_ | refine opB (fun b => ?_) | refine opA (fun a' c' hc1 hc2 => ?_) | (apply GJ.and; exact rfl; intro hg) | (apply GJ.or; exact rfl; intro hg))
    exact Wk.outS Sup.auto (.refl _) hk3
  rw [if_neg hz] at hLR
  have hc := hsz (Decidable.of_not_not hz)
  have hv := Ahead.of hc
  have hdi := defs_inS hc
  obtain ⟨hnn, hnd⟩ : s.nodes.length ≤ 2048 ∧ s.defs.length ≤ 64 := by
    obtain ⟨_, _, _, _, h1, h2, _, _⟩ := checkD_ok hc
    exact ⟨h1, h2⟩
  have hpa := pre_all hc
  clear hsz
  repeat (first | exact endA | refine wkP ?_ | refine opB (fun b => ?_) | refine opA (fun a' c' hc1 hc2 => ?_) | (apply GJ.and; exact rfl; intro hg) | (apply GJ.or; exact rfl; intro hg))
  refine OpOk.makeMapG (kv := Value.int .i64) (vv := lkV) (fun bm => ?_)
  repeat (first | exact endA | refine wkP ?_ | refine opB (fun b => ?_) | refine opA (fun a' c' hc1 hc2 => ?_) | (apply GJ.and; exact rfl; intro hg) | (apply GJ.or; exact rfl; intro hg))
  rename_i bS bR bF
  obtain ⟨p, hp⟩ : ∃ z : Nat, z = b := ⟨_, rfl⟩
  subst hp
  rw [show (Value.agg #[.slice a.na s.nodes.length a.nc, .slice a.da s.defs.length a.dc, .map (some bm)]).cells.toList = specV s a ++ [.map (some bm)] from rfl]
  refine LoopOk.at (ι := Nat × Lk × List (Int × (Nat × Nat × Nat) × Nat) × Nat) Keep.auto (fun (j, lk, M, cM) => [(22, .int .i64 (j : Int))]) (fun (j, lk, M, cM) => .blk p 138 (specV s a ++ [.map (some bm)]) :: .obj bm (mapG (Value.int .i64) lkV M cM) :: .blk bF 58 [.int .i64 z1, .int .i64 z2] :: .blk bR 58 [.int .i64 0, .int .i64 0] :: .blk bS 25 (specV s a) :: own) (fun (j, lk, M, cM) => j ≤ s.defs.length ∧ LkIn s lk ∧ LkM lk M ∧ LR = defsR s (s.defs.drop j) lk) (fun (j, lk, M, cM) => s.defs.length - j) (0, noLk, [], 0) ?_ Sub.auto Sup.auto ?_
  · exact ⟨Nat.zero_le _, (fun x r f h => by cases h), LkM.nil, hLR⟩
  clear hLR
  rintro ⟨j, lk, M, cM⟩ ⟨i1, i2, i3, i4⟩
  dsimp only [List.cons_append, List.nil_append] at i1 i2 i3 i4 ⊢
  have ho2 := ho.lift hl2
  by_cases hj : j < s.defs.length
  · obtain ⟨d, hd⟩ : ∃ d, s.defs[j]? = some d := ⟨_, List.getElem?_eq_getElem hj⟩
    have hde : s.defs[j] = d := Option.some.inj ((List.getElem?_eq_getElem hj).symm.trans hd)
    have hdd := defsV_drop s.defs hj
    rw [hde] at hdd
    have hdj : s.defs.drop j = d :: s.defs.drop (j + 1) := by rw [List.drop_eq_getElem_cons hj, hde]
    have hmem := List.mem_of_getElem? hd
    obtain ⟨q1, q2⟩ := hdi d hmem
    obtain ⟨k, hk0⟩ := Int.eq_ofNat_of_zero_le q1
    rw [hdj, defsR] at i4
    have hr4 := ho2.defs
    clear hde hd hdj hmem
    repeat (first | exact endA | refine wkP ?_ | refine opB (fun b => ?_) | refine opA (fun a' c' hc1 hc2 => ?_) | (apply GJ.and; exact rfl; intro hg) | (apply GJ.or; exact rfl; intro hg))
    rw [Int.toNat_natCast]
    refine OpOk.loadRow rfl rfl (LdN.at hr4 hdd) rfl ?_
    repeat (first | exact endA | refine wkP ?_ | refine opB (fun b => ?_) | refine opA (fun a' c' hc1 hc2 => ?_) | (apply GJ.and; exact rfl; intro hg) | (apply GJ.or; exact rfl; intro hg))
    obtain ⟨bD, hbD⟩ : ∃ z : Nat, z = b := ⟨_, rfl⟩
    subst hbD
    rw [hk0] at i4 ⊢
    refine CallOk.sup (own0 := .blk p 138 (specV s a ++ [.map (some bm)]) :: .obj bm (mapG (Value.int .i64) lkV M cM) :: .blk bD 44 (defV d) :: .blk bF 58 [.int .i64 z1, .int .i64 z2] :: .blk bR 58 [.int .i64 0, .int .i64 0] :: .blk bS 25 (specV s a) :: own) Sup.auto ?_
    refine rgkind_ok ho2 hc hpa s.nodes.length k (by omega) (by omega) [] none 0 lk M cM _ _ (Rds.nil _ _ _) (fun q h => by cases h) i2 i3 (by simp; omega) (fun M2 cM2 h2 => ?_)
    dsimp only [List.cons_append, flV]
    have hne := kindR_err (s := s) (n := s.nodes.length) (a := (k : Int)) (seen := []) (lk := lk)
    cases hz9 : kindR s s.nodes.length (k : Int) [] lk with
    | error y =>
      rw [hz9] at i4
      dsimp only at i4
      have hy1 := hne y hz9
      have hk3 := hk1 ro2 hl2 y i4
      obtain ⟨y1, y2⟩ := y
      dsimp only [errR, flV] at hk3 hy1 ⊢
      repeat (first | exact endA | refine wkP ?_ | refine opB (fun b => ?_) | refine opA (fun a' c' hc1 hc2 => ?_) | (apply GJ.and; exact rfl; intro hg) | (apply GJ.or; exact rfl; intro hg))
      exact Wk.outS Sup.auto (.refl _) hk3
    | ok lk2 =>
      rw [hz9] at i4
      dsimp only at i4
      obtain ⟨g1, g2⟩ := h2 lk2 hz9
      dsimp only [errR]
      repeat (first | exact endA | refine wkP ?_ | refine opB (fun b => ?_) | refine opA (fun a' c' hc1 hc2 => ?_) | (apply GJ.and; exact rfl; intro hg) | (apply GJ.or; exact rfl; intro hg))
      refine Wk.id ⟨(j + 1, lk2, M2, cM2), ⟨rfl, ?_⟩, ?_, Sub.auto, Sup.auto⟩
      all_goals try dsimp only
      · exact ⟨by omega, g2, g1, i4⟩
      · omega
  · rw [List.drop_eq_nil_of_le (by omega), defsR] at i4
    have hk3 := hk2 ro2 hl2 p bm M cM lk i4 i3 i2
    dsimp only [flV] at hk3
    repeat (first | exact endA | refine wkP ?_ | refine opB (fun b => ?_) | refine opA (fun a' c' hc1 hc2 => ?_) | (apply GJ.and; exact rfl; intro hg) | (apply GJ.or; exact rfl; intro hg))
    exact Wk.outS Sup.auto (.refl _) hk3
end
end Go.Proofs.YtnapjcnfgdkmcaaGreatDoor
end
section
/- Contracts of reg: Check, Derived, By. -/
namespace Go.Proofs.YtnapjcnfgdkmcaaGreatDoor
open Go Go.E
set_option linter.unusedVariables false
set_option linter.unusedSectionVars false
set_option linter.unusedSimpArgs false
set_option maxRecDepth 10000
def derG (name : List UInt8) : List FieldD → Nat → Int
  | [], _ => -1
  | f :: fs, i => if (f.derive = 1 ∨ f.derive = 2) ∧ f.of = name then (i : Int) else derG name fs (i + 1)
theorem derG_eq {name : List UInt8} : ∀ (l : List FieldD) (i : Nat), derG name l i = match l.findIdx? (fun f => decide (f.derive = 1 ∨ f.derive = 2) && decide (f.of = name)) with
    | some k => ((i + k : Nat) : Int)
    | none => -1
  | [], i => rfl
  | f :: l, i => by
    rw [derG, List.findIdx?_cons]
    by_cases h : (f.derive = 1 ∨ f.derive = 2) ∧ f.of = name
    · rw [if_pos h]
      have : (decide (f.derive = 1 ∨ f.derive = 2) && decide (f.of = name)) = true := by simp [h.1, h.2]
      rw [if_pos this]
      rfl
    · rw [if_neg h, derG_eq l (i + 1)]
      have : ¬ ((decide (f.derive = 1 ∨ f.derive = 2) && decide (f.of = name)) = true) := by
        rw [Bool.and_eq_true, decide_eq_true_eq, decide_eq_true_eq]; exact h
      rw [if_neg this]
      cases l.findIdx? (fun f => decide (f.derive = 1 ∨ f.derive = 2) && decide (f.of = name)) with
      | none => rfl
      | some k => show (((i + 1 + k : Nat) : Int)) = ((i + (k + 1) : Nat) : Int); omega
theorem derOf_eq (d : NodeD) (name : List UInt8) : derOf d name = derG name d.fields 0 := by
  rw [derG_eq]
  unfold derOf
  cases d.fields.findIdx? (fun f => decide (f.derive = 1 ∨ f.derive = 2) && decide (f.of = name)) with
  | none => rfl
  | some k => simp
def derAt (d : NodeD) (z : Int) : Int := if z < 0 then -1 else match d.fields[z.toNat]? with
  | none => -1
  | some g => derOf d g.name
section
variable {ro : Ro} {own : Chs} {K : Value → Ro → Chs → Prop} {s : SpecD} {a : SpecA}
set_option maxHeartbeats 4000000 in
theorem rgcheck_ok (ho : SpecOk ro s a) (hM : MaxOk ro) (hT : TextIn s) (hk : ∀ ro', Le ro ro' → K (flV (errR (lookR s))) ro' own) : CallOk Tryz.prog 34 #[.agg (specV s a).toArray] ro own K := by
  have hcl : (Value.agg (specV s a).toArray).cells.toList = specV s a := rfl
  refine CallOk.intro (args := [_]) (rs := [_]) T_ok Tryz.func34 Tryz.call34 rfl rfl (by kernel_rfl) rfl rfl ?_
  repeat (first | exact endA | refine wkP ?_ | refine opB (fun b => ?_) | refine opA (fun a' c' hc1 hc2 => ?_) | (apply GJ.and; exact rfl; intro hg) | (apply GJ.or; exact rfl; intro hg))
  rw [hcl]
  refine rglook_ok ho hM hT (fun ro2 hl2 e he => ?_) (fun ro2 hl2 p bm M cM lk hlk _ _ => ?_)
  · have hk2 := hk ro2 hl2
    have hL2 : Leq ro ro2 := ⟨hl2.1⟩
    rw [he] at hk2
    obtain ⟨e1, e2⟩ := e
    dsimp only [errR, flV, tup] at hk2 ⊢
    repeat (first | exact endA | refine wkP ?_ | refine opB (fun b => ?_) | refine opA (fun a' c' hc1 hc2 => ?_) | (apply GJ.and; exact rfl; intro hg) | (apply GJ.or; exact rfl; intro hg))
    exact Wk.outS Sup.auto (.refl _) hk2
  · have hk2 := hk ro2 hl2
    have hL2 : Leq ro ro2 := ⟨hl2.1⟩
    rw [hlk] at hk2
    dsimp only [errR, flV, tup] at hk2 ⊢
    repeat (first | exact endA | refine wkP ?_ | refine opB (fun b => ?_) | refine opA (fun a' c' hc1 hc2 => ?_) | (apply GJ.and; exact rfl; intro hg) | (apply GJ.or; exact rfl; intro hg))
    exact Wk.outS Sup.auto (.refl _) hk2
set_option maxHeartbeats 8000000 in
theorem rderive_ok {d : NodeD} {x : NodeA} {z : Int} (hn : NodeOk ro d x) (hk : K (.int .i64 (derAt d z)) ro own) : CallOk Tryz.prog 43 #[.agg (nodeV d x).toArray, .int .i64 z] ro own K := by
  have hr := hn.fields
  have hm := hr.max
  have hle := hr.le
  unfold maxLen at hm
  have hcl : (Value.agg (nodeV d x).toArray).cells.toList = nodeV d x := rfl
  unfold derAt at hk
  refine CallOk.intro (args := [_, _]) (rs := [_]) T_ok Tryz.func43 Tryz.call43 rfl rfl (by kernel_rfl) rfl rfl ?_
  by_cases h0 : z < 0
  · rw [if_pos h0] at hk
    repeat (first | exact endA | refine wkP ?_ | refine opB (fun b => ?_) | refine opA (fun a' c' hc1 hc2 => ?_) | (apply GJ.and; exact rfl; intro hg) | (apply GJ.or; exact rfl; intro hg))
    exact Wk.outS Sup.auto (.refl _) hk
  rw [if_neg h0] at hk
  obtain ⟨i, rfl⟩ := Int.eq_ofNat_of_zero_le (show 0 ≤ z by omega)
  rw [Int.toNat_natCast] at hk
  by_cases hi : i < d.fields.length
  rotate_left
  · rw [List.getElem?_eq_none (by omega)] at hk
    dsimp only at hk
    repeat (first | exact endA | refine wkP ?_ | refine opB (fun b => ?_) | refine opA (fun a' c' hc1 hc2 => ?_) | (apply GJ.and; exact rfl; intro hg) | (apply GJ.or; exact rfl; intro hg))
    exact Wk.outS Sup.auto (.refl _) hk
  obtain ⟨g, hg⟩ : ∃ g, d.fields[i]? = some g := ⟨_, List.getElem?_eq_getElem hi⟩
  rw [hg] at hk
  dsimp only at hk
  have hg0 : (fieldsV d.fields)[i * 5 + 0]? = some (str g.name) := by rw [field_get hg (by decide)]; rfl
  rw [derOf_eq] at hk
  repeat (first | exact endA | refine wkP ?_ | refine opB (fun b => ?_) | refine opA (fun a' c' hc1 hc2 => ?_) | (apply GJ.and; exact rfl; intro hg) | (apply GJ.or; exact rfl; intro hg))
  rw [hcl]
  obtain ⟨bN, hbN⟩ : ∃ z : Nat, z = b := ⟨_, rfl⟩
  subst hbN
  refine LoopOk.at (ι := Nat) Keep.auto (fun j => [(19, .int .i64 (j : Int))]) (fun j => .blk bN 40 (nodeV d x) :: own) (fun j => j ≤ d.fields.length ∧ derG g.name d.fields 0 = derG g.name (d.fields.drop j) j) (fun j => d.fields.length - j) 0 ?_ Sub.auto Sup.auto ?_
  · exact ⟨Nat.zero_le _, rfl⟩
  rintro j ⟨i1, i2⟩
  dsimp only [List.cons_append, List.nil_append] at i1 i2 ⊢
  by_cases hj : j < d.fields.length
  · obtain ⟨f, hf⟩ : ∃ f, d.fields[j]? = some f := ⟨_, List.getElem?_eq_getElem hj⟩
    have hfe : d.fields[j] = f := Option.some.inj ((List.getElem?_eq_getElem hj).symm.trans hf)
    have hfd := fieldsV_drop d.fields hj
    rw [hfe] at hfd
    have hdr : d.fields.drop j = f :: d.fields.drop (j + 1) := by rw [List.drop_eq_getElem_cons hj, hfe]
    rw [hdr, derG] at i2
    clear hfe hdr hg hf
    repeat (first | exact endA | refine wkP ?_ | refine opB (fun b => ?_) | refine opA (fun a' c' hc1 hc2 => ?_) | (apply GJ.and; exact rfl; intro hg) | (apply GJ.or; exact rfl; intro hg))
    rw [Int.toNat_natCast]
    refine OpOk.loadRow rfl rfl (LdN.at hr hfd) rfl ?_
    by_cases hd : f.derive = 1 ∨ f.derive = 2
    rotate_left
    · rw [if_neg (fun h => hd h.1)] at i2
      have hd1 : f.derive ≠ 1 := fun h => hd (.inl h)
      have hd2 : f.derive ≠ 2 := fun h => hd (.inr h)
      clear hd
      repeat (first | exact endA | refine wkP ?_ | refine opB (fun b => ?_) | refine opA (fun a' c' hc1 hc2 => ?_) | (apply GJ.and; exact rfl; intro hg) | (apply GJ.or; exact rfl; intro hg))
      refine Wk.id ⟨j + 1, ⟨rfl, ?_⟩, ?_, Sub.auto, Sup.auto⟩
      all_goals try dsimp only
      · exact ⟨by omega, i2⟩
      · omega
    by_cases hof : f.of = g.name
    · rw [if_pos ⟨hd, hof⟩] at i2
      rw [i2] at hk
      rcases hd with hd1 | hd2
      · have hd2 : f.derive ≠ 2 := by omega
        repeat (first | exact endA | refine wkP ?_ | refine opB (fun b => ?_) | refine opA (fun a' c' hc1 hc2 => ?_) | (apply GJ.and; exact rfl; intro hg) | (apply GJ.or; exact rfl; intro hg))
        rw [Int.toNat_natCast, Nat.add_assoc]
        refine QOk.load rfl rfl (Ld.rs hr hg0) ?_
        repeat (first | exact endA | refine wkP ?_ | refine opB (fun b => ?_) | refine opA (fun a' c' hc1 hc2 => ?_) | (apply GJ.and; exact rfl; intro hg) | (apply GJ.or; exact rfl; intro hg))
        exact Wk.outS Sup.auto (.refl _) hk
      · have hd1 : f.derive ≠ 1 := by omega
        repeat (first | exact endA | refine wkP ?_ | refine opB (fun b => ?_) | refine opA (fun a' c' hc1 hc2 => ?_) | (apply GJ.and; exact rfl; intro hg) | (apply GJ.or; exact rfl; intro hg))
        rw [Int.toNat_natCast, Nat.add_assoc]
        refine QOk.load rfl rfl (Ld.rs hr hg0) ?_
        repeat (first | exact endA | refine wkP ?_ | refine opB (fun b => ?_) | refine opA (fun a' c' hc1 hc2 => ?_) | (apply GJ.and; exact rfl; intro hg) | (apply GJ.or; exact rfl; intro hg))
        exact Wk.outS Sup.auto (.refl _) hk
    · rw [if_neg (fun h => hof h.2)] at i2
      rcases hd with hd1 | hd2
      · have hd2 : f.derive ≠ 2 := by omega
        repeat (first | exact endA | refine wkP ?_ | refine opB (fun b => ?_) | refine opA (fun a' c' hc1 hc2 => ?_) | (apply GJ.and; exact rfl; intro hg) | (apply GJ.or; exact rfl; intro hg))
        rw [Int.toNat_natCast, Nat.add_assoc]
        refine QOk.load rfl rfl (Ld.rs hr hg0) ?_
        repeat (first | exact endA | refine wkP ?_ | refine opB (fun b => ?_) | refine opA (fun a' c' hc1 hc2 => ?_) | (apply GJ.and; exact rfl; intro hg) | (apply GJ.or; exact rfl; intro hg))
        refine Wk.id ⟨j + 1, ⟨rfl, ?_⟩, ?_, Sub.auto, Sup.auto⟩
        all_goals try dsimp only
        · exact ⟨by omega, i2⟩
        · omega
      · have hd1 : f.derive ≠ 1 := by omega
        repeat (first | exact endA | refine wkP ?_ | refine opB (fun b => ?_) | refine opA (fun a' c' hc1 hc2 => ?_) | (apply GJ.and; exact rfl; intro hg) | (apply GJ.or; exact rfl; intro hg))
        rw [Int.toNat_natCast, Nat.add_assoc]
        refine QOk.load rfl rfl (Ld.rs hr hg0) ?_
        repeat (first | exact endA | refine wkP ?_ | refine opB (fun b => ?_) | refine opA (fun a' c' hc1 hc2 => ?_) | (apply GJ.and; exact rfl; intro hg) | (apply GJ.or; exact rfl; intro hg))
        refine Wk.id ⟨j + 1, ⟨rfl, ?_⟩, ?_, Sub.auto, Sup.auto⟩
        all_goals try dsimp only
        · exact ⟨by omega, i2⟩
        · omega
  · obtain rfl : j = d.fields.length := by omega
    rw [List.drop_length, derG] at i2
    rw [i2] at hk
    repeat (first | exact endA | refine wkP ?_ | refine opB (fun b => ?_) | refine opA (fun a' c' hc1 hc2 => ?_) | (apply GJ.and; exact rfl; intro hg) | (apply GJ.or; exact rfl; intro hg))
    exact Wk.outS Sup.auto (.refl _) hk
end
end Go.Proofs.YtnapjcnfgdkmcaaGreatDoor
end
section
/- Contracts of reg: By, Links. -/
namespace Go.Proofs.YtnapjcnfgdkmcaaGreatDoor
open Go Go.E
set_option linter.unusedVariables false
set_option linter.unusedSectionVars false
set_option linter.unusedSimpArgs false
set_option maxRecDepth 10000
def byR (s : SpecD) (i : Nat) : Option (Nat × Nat) := match lookR s with
  | .ok lk => lk i
  | .error _ => none
def byV (i : Nat) : Option (Nat × Nat) → Value
  | some (r, f) => .agg #[.int .i64 (i : Int), .int .i64 (r : Int), .int .i64 (f : Int)]
  | none => .agg #[.int .i64 0, .int .i64 0, .int .i64 0]
/-- The links of the types below i, in order. -/
def linksTo (lk : Lk) (i : Nat) : List (Nat × Nat × Nat) := (List.range i).filterMap (fun x => (lk x).map (fun p => (x, p.1, p.2)))
theorem linksTo_succ (lk : Lk) (i : Nat) : linksTo lk (i + 1) = linksTo lk i ++ (match lk i with | some p => [(i, p.1, p.2)] | none => []) := by
  unfold linksTo
  rw [List.range_succ, List.filterMap_append]
  congr 1
  cases h : lk i with
  | none => simp [h]
  | some p => simp [h]
theorem linksTo_len (lk : Lk) (i : Nat) : (linksTo lk i).length ≤ i := by
  unfold linksTo
  have := List.length_filterMap_le (fun x => (lk x).map (fun p => (x, p.1, p.2))) (List.range i)
  rwa [List.length_range] at this
def links0V (l : List (Nat × Nat × Nat)) : List Value := l.flatMap (fun q => [.int .i64 (q.1 : Int), .int .i64 (q.2.1 : Int), .int .i64 (q.2.2 : Int)])
theorem links0V_len (l : List (Nat × Nat × Nat)) : (links0V l).length = l.length * 3 := by
  induction l with
  | nil => rfl
  | cons q l ih => simp [links0V] at ih ⊢; omega
theorem defsR_err {s : SpecD} : ∀ {ds : List DefD} {lk : Lk} {e : Int × Int}, defsR s ds lk = .error e → e.1 ≠ 0
  | [], _, _, h => by cases h
  | d :: ds, lk, e, h => by
    unfold defsR at h
    cases hx : kindR s s.nodes.length d.type [] lk with
    | error y => rw [hx] at h; cases h; exact kindR_err _ hx
    | ok lk1 => rw [hx] at h; exact defsR_err h
theorem lookR_err {s : SpecD} {e : Int × Int} (h : lookR s = .error e) : e.1 ≠ 0 := by
  unfold lookR at h
  split at h
  · rename_i hz; cases h; exact hz
  · exact defsR_err h
theorem look_check {s : SpecD} {lk : Lk} (h : lookR s = .ok lk) : checkD s = 0 ∧ s.nodes.length ≤ 2048 := by
  unfold lookR at h
  split at h
  · cases h
  · rename_i hz
    have hc := scope_chk (Decidable.of_not_not hz)
    obtain ⟨_, _, _, _, h1, h2, _, _⟩ := checkD_ok hc
    exact ⟨hc, h1⟩
section
variable {ro : Ro} {own : Chs} {K : Value → Ro → Chs → Prop} {s : SpecD} {a : SpecA}
set_option maxHeartbeats 4000000 in
theorem rgby_ok (ho : SpecOk ro s a) (hM : MaxOk ro) (hT : TextIn s) {i : Nat} (hk : ∀ ro', Le ro ro' → K (tup [byV i (byR s i), .bool (byR s i).isSome]) ro' own) : CallOk Tryz.prog 38 #[.agg (specV s a).toArray, .int .i64 (i : Int)] ro own K := by
  have hcl : (Value.agg (specV s a).toArray).cells.toList = specV s a := rfl
  unfold byR at hk
  refine CallOk.intro (args := [_, _]) (rs := [_, _]) T_ok Tryz.func38 Tryz.call38 rfl rfl (by kernel_rfl) rfl rfl ?_
  repeat (first | exact endA | refine wkP ?_ | refine opB (fun b => ?_) | refine opA (fun a' c' hc1 hc2 => ?_) | (apply GJ.and; exact rfl; intro hg) | (apply GJ.or; exact rfl; intro hg))
  rw [hcl]
  refine rglook_ok ho hM hT (fun ro2 hl2 e he => ?_) (fun ro2 hl2 p bm M cM lk hlk hlm hli9 => ?_)
  · have hk2 := hk ro2 hl2
    have hL2 : Leq ro ro2 := ⟨hl2.1⟩
    have hz := lookR_err he
    rw [he] at hk2
    obtain ⟨e1, e2⟩ := e
    dsimp only [flV, tup, byV, Option.isSome_none] at hk2 hz ⊢
    repeat (first | exact endA | refine wkP ?_ | refine opB (fun b => ?_) | refine opA (fun a' c' hc1 hc2 => ?_) | (apply GJ.and; exact rfl; intro hg) | (apply GJ.or; exact rfl; intro hg))
    exact Wk.outS Sup.auto (.refl _) hk2
  · have hk2 := hk ro2 hl2
    have hL2 : Leq ro ro2 := ⟨hl2.1⟩
    rw [hlk] at hk2
    dsimp only [flV, tup] at hk2 ⊢
    repeat (first | exact endA | refine wkP ?_ | refine opB (fun b => ?_) | refine opA (fun a' c' hc1 hc2 => ?_) | (apply GJ.and; exact rfl; intro hg) | (apply GJ.or; exact rfl; intro hg))
    refine OpOk.lookupOkG (kt := 3) (et := 70) (kv := Value.int .i64) (vv := lkV) (k := (i : Int)) (z := .agg #[.int .i64 0, .int .i64 0, .int .i64 0]) rfl rfl Tryz.underlying136 (KeyEnc.int Tryz.underlying3) hlm.map trivial (by kernel_rfl) ?_
    rw [hlm.is]
    cases hli : lk i with
    | none =>
      rw [hli] at hk2
      dsimp only [byV, Option.isSome_none] at hk2
      simp only [Option.map_none, Option.getD_none, Option.isSome_none]
      repeat (first | exact endA | refine wkP ?_ | refine opB (fun b => ?_) | refine opA (fun a' c' hc1 hc2 => ?_) | (apply GJ.and; exact rfl; intro hg) | (apply GJ.or; exact rfl; intro hg))
      exact Wk.outS Sup.auto (.refl _) hk2
    | some q =>
      obtain ⟨r, f⟩ := q
      rw [hli] at hk2
      dsimp only [byV, Option.isSome_some] at hk2
      simp only [Option.map_some, Option.getD_some, Option.isSome_some, lkV]
      repeat (first | exact endA | refine wkP ?_ | refine opB (fun b => ?_) | refine opA (fun a' c' hc1 hc2 => ?_) | (apply GJ.and; exact rfl; intro hg) | (apply GJ.or; exact rfl; intro hg))
      exact Wk.outS Sup.auto (.refl _) hk2
set_option maxHeartbeats 8000000 in
theorem rglinks_ok (ho : SpecOk ro s a) (hM : MaxOk ro) (hT : TextIn s)
    (hk1 : ∀ ro', Le ro ro' → ∀ e, lookR s = .error e → K (tup [.slice none 0 0, flV e]) ro' own)
    (hk2 : ∀ ro', Le ro ro' → ∀ lk, lookR s = .ok lk → ∀ la lc, (linksTo lk s.nodes.length).length ≤ lc → lc ≤ maxLen → K (tup [.slice la (linksTo lk s.nodes.length).length lc, flV (0, 0)]) ro' (.sl la (linksTo lk s.nodes.length).length lc 70 3 (links0V (linksTo lk s.nodes.length)) :: own)) :
    CallOk Tryz.prog 37 #[.agg (specV s a).toArray] ro own K := by
  have hcl : (Value.agg (specV s a).toArray).cells.toList = specV s a := rfl
  have hr1 := ho.nodes
  have hm := hr1.max
  have hnc := hr1.le
  unfold maxLen at hm
  refine CallOk.intro (args := [_]) (rs := [_, _]) T_ok Tryz.func37 Tryz.call37 rfl rfl (by kernel_rfl) rfl rfl ?_
  repeat (first | exact endA | refine wkP ?_ | refine opB (fun b => ?_) | refine opA (fun a' c' hc1 hc2 => ?_) | (apply GJ.and; exact rfl; intro hg) | (apply GJ.or; exact rfl; intro hg))
  rw [hcl]
  refine rglook_ok ho hM hT (fun ro2 hl2 e he => ?_) (fun ro2 hl2 p bm M cM lk hlk hlm hli9 => ?_)
  · have hk3 := hk1 ro2 hl2 e he
    have hL2 : Leq ro ro2 := ⟨hl2.1⟩
    have hz := lookR_err he
    obtain ⟨e1, e2⟩ := e
    dsimp only [flV, tup] at hk3 hz ⊢
    repeat (first | exact endA | refine wkP ?_ | refine opB (fun b => ?_) | refine opA (fun a' c' hc1 hc2 => ?_) | (apply GJ.and; exact rfl; intro hg) | (apply GJ.or; exact rfl; intro hg))
    exact Wk.outS Sup.auto (.refl _) hk3
  · have hk3 := hk2 ro2 hl2 lk hlk
    have hL2 : Leq ro ro2 := ⟨hl2.1⟩
    dsimp only [flV, tup] at hk3 ⊢
    repeat (first | exact endA | refine wkP ?_ | refine opB (fun b => ?_) | refine opA (fun a' c' hc1 hc2 => ?_) | (apply GJ.and; exact rfl; intro hg) | (apply GJ.or; exact rfl; intro hg))
    rename_i bS bR
    obtain ⟨bF, hbF⟩ : ∃ z : Nat, z = b := ⟨_, rfl⟩
    subst hbF
    have hll := linksTo_len lk
    have h2048 := (look_check hlk).2
    refine LoopOk.at (ι := Nat × Option Addr × Nat) Keep.auto (fun (j, la, lc) => [(22, .int .i64 (j : Int)), (6, .slice la (linksTo lk j).length lc)]) (fun (j, la, lc) => .sl la (linksTo lk j).length lc 70 3 (links0V (linksTo lk j)) :: .blk bF 58 [.int .i64 0, .int .i64 0] :: .blk p 138 (specV s a ++ [.map (some bm)]) :: .obj bm (mapG (Value.int .i64) lkV M cM) :: .blk bR 58 [.int .i64 0, .int .i64 0] :: .blk bS 25 (specV s a) :: own) (fun (j, la, lc) => j ≤ s.nodes.length ∧ (linksTo lk j).length ≤ lc ∧ lc ≤ maxLen) (fun (j, la, lc) => s.nodes.length - j) (0, none, 0) ?_ Sub.auto Sup.auto ?_
    · exact ⟨Nat.zero_le _, Nat.le_refl _, Nat.zero_le _⟩
    rintro ⟨j, la, lc⟩ ⟨i1, i2, i3⟩
    dsimp only [List.cons_append, List.nil_append] at i1 i2 i3 ⊢
    have i4 := i3
    unfold maxLen at i4
    have hlj := hll j
    have hs := linksTo_succ lk j
    by_cases hj : j < s.nodes.length
    · repeat (first | exact endA | refine wkP ?_ | refine opB (fun b => ?_) | refine opA (fun a' c' hc1 hc2 => ?_) | (apply GJ.and; exact rfl; intro hg) | (apply GJ.or; exact rfl; intro hg))
      refine OpOk.lookupOkG (kt := 3) (et := 70) (kv := Value.int .i64) (vv := lkV) (k := (j : Int)) (z := .agg #[.int .i64 0, .int .i64 0, .int .i64 0]) rfl rfl Tryz.underlying136 (KeyEnc.int Tryz.underlying3) hlm.map trivial (by kernel_rfl) ?_
      rw [hlm.is]
      cases hli : lk j with
      | none =>
        rw [hli] at hs
        dsimp only at hs
        rw [List.append_nil] at hs
        simp only [Option.map_none, Option.getD_none, Option.isSome_none]
        repeat (first | exact endA | refine wkP ?_ | refine opB (fun b => ?_) | refine opA (fun a' c' hc1 hc2 => ?_) | (apply GJ.and; exact rfl; intro hg) | (apply GJ.or; exact rfl; intro hg))
        rw [← hs] at i2 ⊢
        refine Wk.id ⟨(j + 1, la, lc), ⟨rfl, ?_⟩, ?_, Sub.auto, Sup.auto⟩
        all_goals try dsimp only
        · exact ⟨by omega, i2, i3⟩
        · omega
      | some q =>
        obtain ⟨r, f⟩ := q
        rw [hli] at hs
        dsimp only at hs
        have hnl : (linksTo lk j).length + 1 = (linksTo lk (j + 1)).length := by rw [hs, List.length_append, List.length_singleton]
        have hcl2 : links0V (linksTo lk j) ++ flat [Value.agg #[.int .i64 (j : Int), .int .i64 (r : Int), .int .i64 (f : Int)]] = links0V (linksTo lk (j + 1)) := by rw [hs]; simp [links0V, flat, Value.cells]
        have h3l := links0V_len (linksTo lk j)
        simp only [Option.map_some, Option.getD_some, Option.isSome_some, lkV]
        repeat (first | exact endA | refine wkP ?_ | refine opB (fun b => ?_) | refine opA (fun a' c' hc1 hc2 => ?_) | (apply GJ.and; exact rfl; intro hg) | (apply GJ.or; exact rfl; intro hg))
        rw [hcl2]
        rw [hnl] at hc1 ⊢
        refine Wk.id ⟨(j + 1, a', c'), ⟨rfl, ?_⟩, ?_, Sub.auto, Sup.auto⟩
        all_goals try dsimp only
        · exact ⟨by omega, hc1, hc2⟩
        · omega
    · obtain rfl : j = s.nodes.length := by omega
      have hk4 := hk3 la lc i2 i3
      repeat (first | exact endA | refine wkP ?_ | refine opB (fun b => ?_) | refine opA (fun a' c' hc1 hc2 => ?_) | (apply GJ.and; exact rfl; intro hg) | (apply GJ.or; exact rfl; intro hg))
      exact Wk.outS Sup.auto (.refl _) hk4
end
end Go.Proofs.YtnapjcnfgdkmcaaGreatDoor
end
section
/- Contracts of reg: Sums. -/
namespace Go.Proofs.YtnapjcnfgdkmcaaGreatDoor
open Go Go.E
set_option linter.unusedVariables false
set_option linter.unusedSectionVars false
set_option linter.unusedSimpArgs false
set_option maxRecDepth 10000
/-- The sums' fields among the first j, each with the indices of its two names. -/
def sumsTo (d : NodeD) (j : Nat) : List (Nat × Int × Int) := (List.range j).filterMap (fun i => match d.fields[i]? with
  | some f => if f.derive = 3 then some (i, idxR' d f.of, idxR' d f.to) else none
  | none => none)
theorem sumsTo_succ {d : NodeD} {j : Nat} {f : FieldD} (hf : d.fields[j]? = some f) : sumsTo d (j + 1) = sumsTo d j ++ (if f.derive = 3 then [(j, idxR' d f.of, idxR' d f.to)] else []) := by
  unfold sumsTo
  rw [List.range_succ, List.filterMap_append]
  congr 1
  by_cases h : f.derive = 3
  · simp [hf, h]
  · simp [hf, h]
theorem sumsTo_len (d : NodeD) (j : Nat) : (sumsTo d j).length ≤ j := by
  unfold sumsTo
  have := List.length_filterMap_le (fun i => match d.fields[i]? with
    | some f => if f.derive = 3 then some (i, idxR' d f.of, idxR' d f.to) else none
    | none => none) (List.range j)
  rwa [List.length_range] at this
def sums0V (l : List (Nat × Int × Int)) : List Value := l.flatMap (fun q => [.int .i64 (q.1 : Int), .int .i64 q.2.1, .int .i64 q.2.2])
theorem sums0V_len (l : List (Nat × Int × Int)) : (sums0V l).length = l.length * 3 := by
  induction l with
  | nil => rfl
  | cons q l ih => simp [sums0V] at ih ⊢; omega
section
variable {ro : Ro} {own : Chs} {K : Value → Ro → Chs → Prop} {s : SpecD} {a : SpecA}
set_option maxHeartbeats 8000000 in
theorem rgsums_ok {d : NodeD} {x : NodeA} (hn : NodeOk ro d x) (h64 : d.fields.length ≤ 64)
    (hk : ∀ la lc, (sumsTo d d.fields.length).length ≤ lc → lc ≤ maxLen → K (.slice la (sumsTo d d.fields.length).length lc) ro (.sl la (sumsTo d d.fields.length).length lc 81 3 (sums0V (sumsTo d d.fields.length)) :: own)) :
    CallOk Tryz.prog 42 #[.agg (nodeV d x).toArray] ro own K := by
  have hr := hn.fields
  have hm := hr.max
  have hle := hr.le
  unfold maxLen at hm
  have hcl : (Value.agg (nodeV d x).toArray).cells.toList = nodeV d x := rfl
  refine CallOk.intro (args := [_]) (rs := [_]) T_ok Tryz.func42 Tryz.call42 rfl rfl (by kernel_rfl) rfl rfl ?_
  repeat (first | exact endA | refine wkP ?_ | refine opB (fun b => ?_) | refine opA (fun a' c' hc1 hc2 => ?_) | (apply GJ.and; exact rfl; intro hg) | (apply GJ.or; exact rfl; intro hg))
  rw [hcl]
  obtain ⟨bN, hbN⟩ : ∃ z : Nat, z = b := ⟨_, rfl⟩
  subst hbN
  have hll := sumsTo_len d
  refine LoopOk.at (ι := Nat × Option Addr × Nat) Keep.auto (fun (j, la, lc) => [(9, .int .i64 (j : Int)), (3, .slice la (sumsTo d j).length lc)]) (fun (j, la, lc) => .sl la (sumsTo d j).length lc 81 3 (sums0V (sumsTo d j)) :: .blk bN 40 (nodeV d x) :: own) (fun (j, la, lc) => j ≤ d.fields.length ∧ (sumsTo d j).length ≤ lc ∧ lc ≤ maxLen) (fun (j, la, lc) => d.fields.length - j) (0, none, 0) ?_ Sub.auto Sup.auto ?_
  · exact ⟨Nat.zero_le _, Nat.le_refl _, Nat.zero_le _⟩
  rintro ⟨j, la, lc⟩ ⟨i1, i2, i3⟩
  dsimp only [List.cons_append, List.nil_append] at i1 i2 i3 ⊢
  have i4 := i3
  unfold maxLen at i4
  have hlj := hll j
  by_cases hj : j < d.fields.length
  · obtain ⟨f, hf⟩ : ∃ f, d.fields[j]? = some f := ⟨_, List.getElem?_eq_getElem hj⟩
    have hfe : d.fields[j] = f := Option.some.inj ((List.getElem?_eq_getElem hj).symm.trans hf)
    have hfd := fieldsV_drop d.fields hj
    rw [hfe] at hfd
    have hs := sumsTo_succ hf
    clear hfe hf
    repeat (first | exact endA | refine wkP ?_ | refine opB (fun b => ?_) | refine opA (fun a' c' hc1 hc2 => ?_) | (apply GJ.and; exact rfl; intro hg) | (apply GJ.or; exact rfl; intro hg))
    rw [Int.toNat_natCast]
    refine OpOk.loadRow rfl rfl (LdN.at hr hfd) rfl ?_
    by_cases h3 : f.derive = 3
    · rw [if_pos h3] at hs
      have hnl : (sumsTo d j).length + 1 = (sumsTo d (j + 1)).length := by rw [hs, List.length_append, List.length_singleton]
      have h3l := sums0V_len (sumsTo d j)
      generalize hz1 : idxR' d f.of = z1 at hs
      generalize hz2 : idxR' d f.to = z2 at hs
      have hcl2 : sums0V (sumsTo d j) ++ flat [Value.agg #[.int .i64 (j : Int), .int .i64 z1, .int .i64 z2]] = sums0V (sumsTo d (j + 1)) := by rw [hs]; simp [sums0V, flat, Value.cells]
      repeat (first | exact endA | refine wkP ?_ | refine opB (fun b => ?_) | refine opA (fun a' c' hc1 hc2 => ?_) | (apply GJ.and; exact rfl; intro hg) | (apply GJ.or; exact rfl; intro hg))
      refine rindex_ok hn ?_
      repeat (first | exact endA | refine wkP ?_ | refine opB (fun b => ?_) | refine opA (fun a' c' hc1 hc2 => ?_) | (apply GJ.and; exact rfl; intro hg) | (apply GJ.or; exact rfl; intro hg))
      refine rindex_ok hn ?_
      rw [hz1, hz2]
      repeat (first | exact endA | refine wkP ?_ | refine opB (fun b => ?_) | refine opA (fun a' c' hc1 hc2 => ?_) | (apply GJ.and; exact rfl; intro hg) | (apply GJ.or; exact rfl; intro hg))
      refine QOk.buildK (ps := [(0, .tmp 18), (1, .tmp 22), (2, .tmp 26)]) [.int .i64 (j : Int), .int .i64 z1, .int .i64 z2] rfl (by kernel_rfl) ?_
      repeat (first | exact endA | refine wkP ?_ | refine opB (fun b => ?_) | refine opA (fun a' c' hc1 hc2 => ?_) | (apply GJ.and; exact rfl; intro hg) | (apply GJ.or; exact rfl; intro hg))
      rw [hcl2]
      rw [hnl] at hc1 ⊢
      refine Wk.id ⟨(j + 1, a', c'), ⟨rfl, ?_⟩, ?_, Sub.auto, Sup.auto⟩
      all_goals try dsimp only
      · exact ⟨by omega, hc1, hc2⟩
      · omega
    · rw [if_neg h3, List.append_nil] at hs
      repeat (first | exact endA | refine wkP ?_ | refine opB (fun b => ?_) | refine opA (fun a' c' hc1 hc2 => ?_) | (apply GJ.and; exact rfl; intro hg) | (apply GJ.or; exact rfl; intro hg))
      rw [← hs] at i2 ⊢
      refine Wk.id ⟨(j + 1, la, lc), ⟨rfl, ?_⟩, ?_, Sub.auto, Sup.auto⟩
      all_goals try dsimp only
      · exact ⟨by omega, i2, i3⟩
      · omega
  · obtain rfl : j = d.fields.length := by omega
    have hk4 := hk la lc i2 i3
    repeat (first | exact endA | refine wkP ?_ | refine opB (fun b => ?_) | refine opA (fun a' c' hc1 hc2 => ?_) | (apply GJ.and; exact rfl; intro hg) | (apply GJ.or; exact rfl; intro hg))
    exact Wk.outS Sup.auto (.refl _) hk4
end
end Go.Proofs.YtnapjcnfgdkmcaaGreatDoor
end
section
/- Contracts of reg: Asked. -/
namespace Go.Proofs.YtnapjcnfgdkmcaaGreatDoor
open Go Go.E
set_option linter.unusedVariables false
set_option linter.unusedSectionVars false
set_option linter.unusedSimpArgs false
set_option maxRecDepth 10000
theorem encComap {P : Program} {kt : TypeId} {κ κ' : Type} {kv : κ → Value} {ok : κ → Prop} (E : KeyEnc P kt kv ok) (f : κ' → κ) (hf : ∀ a b, f a = f b → a = b) : KeyEnc P kt (fun k => kv (f k)) (fun k => ok (f k)) where
  check k hk w em := E.check (f k) hk w em
  search w k hk es he := E.search w (f k) hk es (fun e h => by
    obtain ⟨j, h1, h2⟩ := he e h
    exact ⟨f j, h1, h2⟩)
  stays k hk w := E.stays (f k) hk w
  inj a b h := hf a b (E.inj _ _ h)
def nN (k : Nat) : Value := .int .i64 (k : Int)
def twoN (p : Nat × Nat) : Value := .agg #[.int .i64 (p.1 : Int), .int .i64 (p.2 : Int)]
def okN (p : Nat × Nat) : Prop := (Lit.int .i64 (p.1 : Int)).wf = true ∧ (Lit.int .i64 (p.2 : Int)).wf = true
theorem okN_of {x y : Nat} (hx : x < 100000) (hy : y < 100000) : okN (x, y) := by
  have h : ∀ z : Nat, z < 100000 → (Lit.int .i64 (z : Int)).wf = true := fun z hz => by
    show (decide (IntKind.i64.min ≤ (z : Int)) && decide ((z : Int) ≤ IntKind.i64.max)) = true
    rw [show IntKind.i64.min = -9223372036854775808 by decide, show IntKind.i64.max = 9223372036854775807 by decide, decide_eq_true (by omega), decide_eq_true (by omega)]
    rfl
  exact ⟨h x hx, h y hy⟩
theorem twoN_enc : KeyEnc Tryz.prog 78 twoN okN := encComap (KeyEnc.two (q := .i64) (e := 3) (deep_law_gate (by kernel_rfl) (by decide +kernel) (by decide +kernel) (by kernel_rfl) (by kernel_rfl)) (by kernel_rfl) (by decide +kernel) (by kernel_rfl) (by kernel_rfl) (by kernel_rfl) (by kernel_rfl)) (fun p : Nat × Nat => ((p.1 : Int), (p.2 : Int))) (fun a b h => Prod.ext (Int.ofNat.inj (Prod.mk.inj h).1) (Int.ofNat.inj (Prod.mk.inj h).2))
/-- How many links go to this field. -/
def cntL (l : List (Nat × Nat × Nat)) (k : Nat × Nat) : Nat := (l.filter (fun q => decide ((q.2.1, q.2.2) = k))).length
structure AskM (l : List (Nat × Nat × Nat)) (M : List ((Nat × Nat) × Nat × Nat)) (c : Nat) : Prop where
  map : MapOk okN M
  born : BornOk M c
  is : ∀ k, getG M k = if cntL l k = 0 then none else some (cntL l k)
theorem AskM.nil : AskM [] [] 0 := ⟨MapOk.nil, BornOk.nil, fun k => rfl⟩
theorem cntL_snoc (l : List (Nat × Nat × Nat)) (q : Nat × Nat × Nat) (k : Nat × Nat) : cntL (l ++ [q]) k = cntL l k + if (q.2.1, q.2.2) = k then 1 else 0 := by
  unfold cntL
  rw [List.filter_append, List.length_append]
  by_cases h : (q.2.1, q.2.2) = k
  · simp [h]
  · simp [h]
theorem put_set {κ ν : Type} [DecidableEq κ] {l : List (κ × ν × Nat)} (hn : (l.map (·.1)).Nodup) {j : Nat} {q : κ × ν × Nat} (hj : l[j]? = some q) (c : Nat) (v : ν) : l.set j (q.1, v, q.2.2) = putG l c q.1 v := ((Go.E.get_at hn hj).2 c v).symm
theorem AskM.add {l : List (Nat × Nat × Nat)} {M M2 : List ((Nat × Nat) × Nat × Nat)} {c c2 : Nat} (h : AskM l M c) (q : Nat × Nat × Nat) (hok : okN (q.2.1, q.2.2)) (c0 : Nat) (he : M2 = putG M c0 (q.2.1, q.2.2) (cntL l (q.2.1, q.2.2) + 1)) (hB : BornOk M2 c2) : AskM (l ++ [q]) M2 c2 := by
  refine ⟨he ▸ h.map.put hok c0 _, hB, fun k => ?_⟩
  rw [he, getG_putG, cntL_snoc]
  by_cases hk : k = (q.2.1, q.2.2)
  · subst hk; simp
  · rw [if_neg hk, show (if (q.2.1, q.2.2) = k then 1 else 0) = 0 from if_neg (fun e => hk e.symm), Nat.add_zero]; exact h.is k
theorem AskM.entry0 {l : List (Nat × Nat × Nat)} {M : List ((Nat × Nat) × Nat × Nat)} {c : Nat} (h : AskM l M c) (q : Nat × Nat × Nat) (hok : okN (q.2.1, q.2.2)) (hg : getG M (q.2.1, q.2.2) = none) : AskM (l ++ [q]) ((M ++ [((q.2.1, q.2.2), 0, c)]).set M.length ((q.2.1, q.2.2), cntL l (q.2.1, q.2.2) + 1, c)) (c + 1) := by
  have hall : ∀ p ∈ M, p.1 ≠ (q.2.1, q.2.2) := fun p hp e => by
    obtain ⟨j, hj⟩ := List.getElem?_of_mem hp
    have := (Go.E.get_at h.map.nodup hj).1
    rw [e, hg] at this
    cases this
  have hB := (h.born.snoc (q.2.1, q.2.2) 0).set (j := M.length) (q := ((q.2.1, q.2.2), 0, c)) (by simp) (q.2.1, q.2.2) (cntL l (q.2.1, q.2.2) + 1)
  refine h.add q hok c ?_ hB
  rw [(get_none hall).2]
  simp
theorem AskM.entry1 {l : List (Nat × Nat × Nat)} {M : List ((Nat × Nat) × Nat × Nat)} {c : Nat} (h : AskM l M c) (q : Nat × Nat × Nat) (hok : okN (q.2.1, q.2.2)) {j : Nat} {r : (Nat × Nat) × Nat × Nat} (hj : M[j]? = some r) (hr : r.1 = (q.2.1, q.2.2)) : AskM (l ++ [q]) (M.set j (r.1, cntL l (q.2.1, q.2.2) + 1, r.2.2)) c := by
  have hB := h.born.set hj r.1 (cntL l (q.2.1, q.2.2) + 1)
  refine h.add q hok c ?_ hB
  rw [put_set h.map.nodup hj c, hr]
theorem none_all {κ ν : Type} [DecidableEq κ] {ok : κ → Prop} {M : List (κ × ν × Nat)} (h : MapOk ok M) {k : κ} (hg : getG M k = none) : ∀ p ∈ M, p.1 ≠ k := fun p hp e => by
  obtain ⟨j, hj⟩ := List.getElem?_of_mem hp
  have := (Go.E.get_at h.nodup hj).1
  rw [e, hg] at this
  cases this
theorem getG_snoc {κ ν : Type} [DecidableEq κ] {k : κ} {v : ν} {c : Nat} : ∀ {l : List (κ × ν × Nat)}, getG l k = none → getG (l ++ [(k, v, c)]) k = some v
  | [], _ => by simp [getG]
  | p :: l, h => by
    unfold getG at h
    split at h
    · cases h
    · rename_i hne
      rw [List.cons_append, getG, if_neg hne]
      exact getG_snoc h
theorem links0V_drop : ∀ (l : List (Nat × Nat × Nat)) {i : Nat} {q : Nat × Nat × Nat}, l[i]? = some q → ((links0V l).drop (i * 3)).take 3 = [.int .i64 (q.1 : Int), .int .i64 (q.2.1 : Int), .int .i64 (q.2.2 : Int)]
  | [], i, q, h => by simp at h
  | x :: l, 0, q, h => by simp at h; subst h; simp [links0V]
  | x :: l, i + 1, q, h => by
    have ih := links0V_drop l (i := i) (q := q) (by simpa using h)
    rw [show (i + 1) * 3 = 3 + i * 3 by omega, ← List.drop_drop]
    rw [show (links0V (x :: l)).drop 3 = links0V l by simp [links0V]]
    exact ih
section
variable {ro : Ro} {own : Chs} {K : Value → Ro → Chs → Prop} {s : SpecD} {a : SpecA}
set_option maxHeartbeats 8000000 in
theorem rgasked_ok (ho : SpecOk ro s a) (hM : MaxOk ro) (hT : TextIn s) (hsm : ∀ lk, lookR s = .ok lk → ∀ q ∈ linksTo lk s.nodes.length, q.2.1 < 100000 ∧ q.2.2 < 100000)
    (hk1 : ∀ ro', Le ro ro' → ∀ e, lookR s = .error e → K (tup [.map none, flV e]) ro' own)
    (hk2 : ∀ ro', Le ro ro' → ∀ lk, lookR s = .ok lk → ∀ bA MA cA, AskM (linksTo lk s.nodes.length) MA cA → K (tup [.map (some bA), flV (0, 0)]) ro' (.obj bA (mapG twoN nN MA cA) :: own)) :
    CallOk Tryz.prog 41 #[.agg (specV s a).toArray] ro own K := by
  have hcl : (Value.agg (specV s a).toArray).cells.toList = specV s a := rfl
  refine CallOk.intro (args := [_]) (rs := [_, _]) T_ok Tryz.func41 Tryz.call41 rfl rfl (by kernel_rfl) rfl rfl ?_
  repeat (first | exact endA | refine wkP ?_ | refine opB (fun b => ?_) | refine opA (fun a' c' hc1 hc2 => ?_) | (apply GJ.and; exact rfl; intro hg) | (apply GJ.or; exact rfl; intro hg))
  rw [hcl]
  refine rglinks_ok ho hM hT (fun ro2 hl2 e he => ?_) (fun ro2 hl2 lk hlk la lc h1 h2 => ?_)
  · have hk3 := hk1 ro2 hl2 e he
    have hL2 : Leq ro ro2 := ⟨hl2.1⟩
    have hz := lookR_err he
    obtain ⟨e1, e2⟩ := e
    dsimp only [flV, tup] at hk3 hz ⊢
    repeat (first | exact endA | refine wkP ?_ | refine opB (fun b => ?_) | refine opA (fun a' c' hc1 hc2 => ?_) | (apply GJ.and; exact rfl; intro hg) | (apply GJ.or; exact rfl; intro hg))
    exact Wk.outS Sup.auto (.refl _) hk3
  · have hk3 := hk2 ro2 hl2 lk hlk
    have hL2 : Leq ro ro2 := ⟨hl2.1⟩
    have h2048 := (look_check hlk).2
    have hll := linksTo_len lk s.nodes.length
    have hsq := hsm lk hlk
    clear hsm hk1 hk2
    generalize linksTo lk s.nodes.length = L at *
    have hlv := links0V_len L
    unfold maxLen at h2
    dsimp only [flV, tup] at hk3 ⊢
    repeat (first | exact endA | refine wkP ?_ | refine opB (fun b => ?_) | refine opA (fun a' c' hc1 hc2 => ?_) | (apply GJ.and; exact rfl; intro hg) | (apply GJ.or; exact rfl; intro hg))
    refine OpOk.makeMapG (kv := twoN) (vv := nN) (fun bA => ?_)
    repeat (first | exact endA | refine wkP ?_ | refine opB (fun b => ?_) | refine opA (fun a' c' hc1 hc2 => ?_) | (apply GJ.and; exact rfl; intro hg) | (apply GJ.or; exact rfl; intro hg))
    rename_i bS bR
    obtain ⟨bF, hbF⟩ : ∃ z : Nat, z = b := ⟨_, rfl⟩
    subst hbF
    refine LoopOk.at (ι := Nat × List ((Nat × Nat) × Nat × Nat) × Nat) Keep.auto (fun (j, M, cM) => [(21, .int .i64 (j : Int))]) (fun (j, M, cM) => .obj bA (mapG twoN nN M cM) :: .blk bF 58 [.int .i64 0, .int .i64 0] :: .sl la L.length lc 70 3 (links0V L) :: .blk bR 58 [.int .i64 0, .int .i64 0] :: .blk bS 25 (specV s a) :: own) (fun (j, M, cM) => j ≤ L.length ∧ AskM (L.take j) M cM) (fun (j, M, cM) => L.length - j) (0, [], 0) ?_ Sub.auto Sup.auto ?_
    · exact ⟨Nat.zero_le _, AskM.nil⟩
    rintro ⟨j, M, cM⟩ ⟨i1, i2⟩
    dsimp only [List.cons_append, List.nil_append] at i1 i2 ⊢
    by_cases hj : j < L.length
    · obtain ⟨q, hq⟩ : ∃ q, L[j]? = some q := ⟨_, List.getElem?_eq_getElem hj⟩
      have hdq := links0V_drop L hq
      have htk : L.take (j + 1) = L.take j ++ [q] := by rw [List.take_add_one, hq]; rfl
      obtain ⟨s1, s2⟩ := hsq q (List.mem_of_getElem? hq)
      have hok := okN_of s1 s2
      repeat (first | exact endA | refine wkP ?_ | refine opB (fun b => ?_) | refine opA (fun a' c' hc1 hc2 => ?_) | (apply GJ.and; exact rfl; intro hg) | (apply GJ.or; exact rfl; intro hg))
      rw [Int.toNat_natCast]
      have hrl : Rds ro2 (.obj bA (mapG twoN nN M cM) :: .blk bF 58 [.int .i64 0, .int .i64 0] :: .sl la L.length lc 70 3 (links0V L) :: .blk bR 58 [.int .i64 0, .int .i64 0] :: .blk bS 25 (specV s a) :: own) la L.length lc 3 (links0V L) := Rds.hasSl h1 h2 (by omega)
      refine OpOk.loadRow rfl rfl (LdN.atR hrl hdq (by omega)) rfl ?_
      obtain ⟨key, hkey⟩ : ∃ z : Nat × Nat, z = (q.2.1, q.2.2) := ⟨_, rfl⟩
      have hgv : ((getG M key).map nN).getD (.int .i64 0) = .int .i64 (cntL (L.take j) key : Int) := by
        rw [i2.is key]
        by_cases h0 : cntL (L.take j) key = 0
        · rw [if_pos h0, h0]; rfl
        · rw [if_neg h0]; rfl
      have hcb : cntL (L.take j) key ≤ 2048 := by
        have e1 := List.length_filter_le (fun q => decide ((q.2.1, q.2.2) = key)) (L.take j)
        have e2 := List.length_take_le j L
        unfold cntL
        omega
      have hkv : twoN key = .agg #[.int .i64 (q.2.1 : Int), .int .i64 (q.2.2 : Int)] := by rw [hkey]; rfl
      have hokk : okN key := hkey ▸ hok
      have he0 := i2.entry0 q hok
      have he1 := fun (j1 : Nat) (r : (Nat × Nat) × Nat × Nat) => i2.entry1 q hok (j := j1) (r := r)
      rw [← htk, ← hkey] at he0
      rw [← htk, ← hkey] at he1
      have hbo := i2.born
      have hmo := i2.map
      have hbo0 := hbo.snoc key 0
      generalize hcn : cntL (L.take j) key = cn at *
      have hcast : (some (Value.int .i64 ((cn : Int) + 1))) = some (nN (cn + 1)) := rfl
      repeat (first | exact endA | refine wkN ?_ | refine Bs.all ?_ | (show QOk _ _ _ _ _ _ _; refine QOk.build rfl rfl Nf.auto ?_) | refine opB (fun b => ?_) | refine opA (fun a' c' hc1 hc2 => ?_) | (show GJ _ _ _ _ _ _ _; first | refine GJ.t (by decide) ?_ | refine GJ.f (by decide) ?_ | refine GJ.ft (by decide) ?_ | refine GJ.ff (by decide) ?_) | (show Br _ _ _; first | refine Br.t (by decide) ?_ | refine Br.f (by decide) ?_) | (apply GJ.and; exact rfl; intro hg) | (apply GJ.or; exact rfl; intro hg))
      refine CodeOk.drawnK 6 6 NfT.auto rfl (by kernel_rfl) (by rfl) (by kernel_rfl) ?_
      refine Stop.mk ?_
      refine Bs.mk ⟨[.blk b 70 [.int .i64 (q.1 : Int), .int .i64 (q.2.1 : Int), .int .i64 (q.2.2 : Int)]], Sup.auto, ?_⟩
      repeat (first | exact endA | refine wkU ?_ | (show QOk _ _ _ _ _ _ _; refine QOk.build rfl rfl Nf.auto ?_) | (show GJ _ _ _ _ _ _ _; first | with_reducible refine GJ.neF ?_ | with_reducible refine GJ.neT ?_) | (show Br _ _ _; with_reducible refine Br.ne ?_) | refine opB (fun b => ?_) | refine opA (fun a' c' hc1 hc2 => ?_) | (apply GJ.and; exact rfl; intro hg) | (apply GJ.or; exact rfl; intro hg))
      refine QOk.buildK (ps := [(0, .tmp 27), (1, .tmp 29)]) [.int .i64 (q.2.1 : Int), .int .i64 (q.2.2 : Int)] rfl (by kernel_rfl) ?_
      repeat (first | exact endA | refine wkU ?_ | (show QOk _ _ _ _ _ _ _; refine QOk.build rfl rfl Nf.auto ?_) | (show GJ _ _ _ _ _ _ _; first | with_reducible refine GJ.neF ?_ | with_reducible refine GJ.neT ?_) | (show Br _ _ _; with_reducible refine Br.ne ?_) | refine opB (fun b => ?_) | refine opA (fun a' c' hc1 hc2 => ?_) | (apply GJ.and; exact rfl; intro hg) | (apply GJ.or; exact rfl; intro hg))
      have hmo0 : getG M key = none → MapOk okN (M ++ [(key, 0, cM)]) := fun hg => by
        have := hmo.put hokk cM 0
        rwa [(get_none (none_all hmo hg)).2] at this
      have hgv0 : getG M key = none → ((getG (M ++ [(key, 0, cM)]) key).map nN).getD (.int .i64 0) = .int .i64 (cn : Int) := fun hg => by
        rw [hg] at hgv
        rw [getG_snoc hg, ← hgv]
        rfl
      have hkv2 := congrArg some hkv.symm
      obtain ⟨bL, hbL⟩ : ∃ z : Nat, z = b := ⟨_, rfl⟩
      subst hbL
      refine AllOk.keepK (ι := List ((Nat × Nat) × Nat × Nat) × Nat) (fun _ => []) (fun w => .blk bL 70 [.int .i64 (q.1 : Int), .int .i64 (q.2.1 : Int), .int .i64 (q.2.2 : Int)] :: .obj bA (mapG twoN nN w.1 w.2) :: .blk bF 58 [.int .i64 0, .int .i64 0] :: .sl la L.length lc 70 3 (links0V L) :: .blk bR 58 [.int .i64 0, .int .i64 0] :: .blk bS 25 (specV s a) :: own) (fun w ro' => ro' = ro2 ∧ AskM (L.take (j + 1)) w.1 w.2) ?_ (fun w ro3 _ hw => ?_)
      · repeat' (first
          | with_reducible exact vFo.nil
          | ((with_reducible refine vFo.cons ?_ ?_); refine vOne.at (by rfl) ?_)
          | ((with_reducible refine vFo.leafK ?_); refine ⟨((M ++ [(key, 0, cM)]).set M.length (key, cn + 1, cM), cM + 1), ⟨rfl, he0 (by assumption)⟩, ?_, ?_⟩ <;> (try dsimp only [List.nil_append]) <;> first | exact Sub.auto | exact Sup.auto)
          | ((with_reducible refine vFo.leafK ?_); refine ⟨(M.set j1 (r.1, cn + 1, r.2.2), cM), ⟨rfl, he1 j1 r (by assumption) (by assumption)⟩, ?_, ?_⟩ <;> (try dsimp only [List.nil_append]) <;> first | exact Sub.auto | exact Sup.auto)
          | (show Stop (OpOk _ _ _ _ _ _ _); refine Stop.mk ?_)
          | (show OpOk _ _ _ _ _ _ _; first
            | (refine OpOk.lookupG (kt := 78) (et := 3) (kv := twoN) (vv := nN) (k := key) (l := M) (z := .int .i64 0) rfl hkv2 (by kernel_rfl) twoN_enc hmo hokk (by kernel_rfl) ?_; rw [hgv])
            | (refine OpOk.lookupG (kt := 78) (et := 3) (kv := twoN) (vv := nN) (k := key) (l := M ++ [(key, 0, cM)]) (z := .int .i64 0) rfl hkv2 (by kernel_rfl) twoN_enc (hmo0 (by assumption)) hokk (by kernel_rfl) ?_; rw [hgv0 (by assumption)])
            | refine OpOk.mapEntryG (kt := 78) (et := 3) (kv := twoN) (vv := nN) (k := key) (z0 := 0) (l := M) rfl hkv2 (by kernel_rfl) twoN_enc hmo hokk (by kernel_rfl) (fun hg0 => ?_) (fun j1 r hj1 hr1 hg1 => ?_)
            | refine OpOk.entryStoreG (kv := twoN) (vv := nN) (j := M.length) (st := cM) (l := M ++ [(key, 0, cM)]) (q := (key, 0, cM)) (v := cn + 1) rfl rfl hcast hbo0 (by simp) rfl ?_
            | refine OpOk.entryStoreG (kv := twoN) (vv := nN) (l := M) (v := cn + 1) rfl rfl hcast hbo (by assumption) rfl ?_)
          | (show vOp _ _ _ _ _ _ _ _ _; refine wkA ?_)
          | (show Sup _ _ ∧ _; refine ⟨Sup.auto, ?_⟩)
          | refine vFo.stop Sup.auto ?_)
        all_goals done
      obtain ⟨M2, c2⟩ := w
      obtain ⟨rfl, hA⟩ := hw
      dsimp only [List.nil_append] at hA ⊢
      repeat (first | exact endA | refine wkP ?_ | refine opB (fun b => ?_) | refine opA (fun a' c' hc1 hc2 => ?_) | (apply GJ.and; exact rfl; intro hg) | (apply GJ.or; exact rfl; intro hg))
      refine Wk.id ⟨(j + 1, M2, c2), ⟨rfl, ?_⟩, ?_, Sub.auto, Sup.auto⟩
      all_goals try dsimp only
      · exact ⟨by omega, hA⟩
      · omega
    · obtain rfl : j = L.length := by omega
      rw [List.take_length] at i2
      have hk4 := hk3 bA M cM i2
      repeat (first | exact endA | refine wkP ?_ | refine opB (fun b => ?_) | refine opA (fun a' c' hc1 hc2 => ?_) | (apply GJ.and; exact rfl; intro hg) | (apply GJ.or; exact rfl; intro hg))
      exact Wk.outS Sup.auto (.refl _) hk4
end
end Go.Proofs.YtnapjcnfgdkmcaaGreatDoor
end
section
/- Law 14: what its laws ask first. -/
namespace Go.Proofs.YtnapjcnfgdkmcaaGreatDoor
open Go Go.E
set_option linter.unusedVariables false
set_option linter.unusedSectionVars false
set_option linter.unusedSimpArgs false
set_option maxRecDepth 10000
theorem text_in {s : SpecD} (h : (s.nodes.all (fun d => decide (d.text.length ≤ 300) && d.fields.all (fun f => decide (f.name.length ≤ 300))) && s.defs.all (fun d => decide (d.name.length ≤ 300))) = true) : TextIn s := by
  rw [Bool.and_eq_true, List.all_eq_true, List.all_eq_true] at h
  refine ⟨fun d hd f hf => ?_, fun d hd => ?_, fun d hd => ?_⟩
  · have h1 := h.1 d hd
    rw [Bool.and_eq_true, List.all_eq_true] at h1
    have := of_decide_eq_true (h1.2 f hf)
    omega
  · have h1 := h.1 d hd
    rw [Bool.and_eq_true] at h1
    have := of_decide_eq_true h1.1
    omega
  · have := of_decide_eq_true (h.2 d hd)
    omega
section
variable {ro : Ro} {own : Chs} {K : Value → Ro → Chs → Prop}
end
end Go.Proofs.YtnapjcnfgdkmcaaGreatDoor
end
