/- Texts of a walk, one behind the other. -/
import Derived.Shelf.Sort.Plain
import Derived.Shelf.Slices.In.SortNone
import Derived.Ground.NamesProg
import Derived.Test.YtinbmhbfcoiefaaGreatDoorMg3
import Derived.Test.YtinbmhbfcoiefaaGreatDoorMg6
import Derived.Test.YtinbmhbfcoiefaaGreatDoorMg7
section
/- Contracts of nfa: node, repeat. -/
namespace Go.Proofs.YtinbmhbfcoiefaaGreatDoor
open Go Go.E
set_option linter.unusedVariables false
set_option linter.unusedSimpArgs false
set_option maxRecDepth 10000
/-- How many edges there are, and how many more may come by states. -/
def budN (st : StD) : Nat := edgesN st + 4 * (4096 - st.rows.length)
def stM (R : List RowM) (full : Bool) : StD := ⟨rowsOf R, full⟩
theorem stM_len (R : List RowM) (full : Bool) : (stM R full).rows.length = R.length := by simp [stM, rowsOf]
theorem stM_eq {R : List RowM} {st : StD} (h : rowsOf R = st.rows) : stM R st.full = st := by unfold stM; rw [h]
theorem row_ofM {R : List RowM} {full : Bool} {f : Nat} {row : RowM} (h : R[f]? = some row) : row.2.length ≤ edgesN (stM R full) := by
  refine row_edges (f := f) ?_
  unfold stM rowsOf
  rw [List.getElem?_map, h]; rfl
theorem bud_state (st : StD) (h : StOk st) : budN (stateN st).2 ≤ budN st ∧ ((stateN st).2.full = false → budN (stateN st).2 + 4 ≤ budN st) := by
  have h1 := edges_state st
  have h2 := state_len st
  have h3 := h.le
  unfold budN
  refine ⟨by rw [h1, h2]; split <;> omega, fun hf => ?_⟩
  rw [state_full] at hf
  split at hf
  · cases hf
  · rename_i h4
    rw [h1, h2, if_neg h4]; omega
theorem bud_edge (f : Nat) (x : EdgeD) (st : StD) : budN (edgeN f x st) ≤ budN st + 1 := by
  have h1 := edges_edge f x st
  have h2 := edge_len f x st
  unfold budN; rw [h2]; omega
theorem bud_made {c s : Nat} {st : StD} {p : Nat × StD} (h : Made c s st p) : budN p.2 ≤ budN st + 4 * s ∧ (p.2.full = false → budN p.2 ≤ budN st) := by
  have h1 := h.grow
  have h2 := h.ok.le
  unfold budN
  exact ⟨by have := h.edges1; omega, fun hf => by have := h.edges0 hf; omega⟩
/-- What is asked of the making of an expression's automaton: just what nodeN says comes of it. -/
structure NodeC (n : RgD) : Prop where
  run : ∀ {ro : Ro} {r : Chs} {K : Value → Ro → Chs → Prop} {q c f : Nat} {a : Option Addr} {e : Int} {full : Bool} {R : List RowM} {v : List Value}, RgOk ro n v → wrongD n = 0 → StOk (stM R full) → f < R.length → (full = true ∨ budN (stM R full) + 4 * sizeD n ≤ 900000) →
    (∀ a' c' R', rowsOf R' = (nodeN n f (stM R full)).2.rows → K (.int .i64 ((nodeN n f (stM R full)).1 : Int)) ro (mkC q a' c' e (nodeN n f (stM R full)).2.full R' r)) →
    CallOk Tryz.prog 45 #[ptr' q, .agg v.toArray, .int .i64 (f : Int)] ro (mkC q a c e full R r) K
section
variable {ro : Ro} {own r : Chs} {K : Value → Ro → Chs → Prop} {g : Chunk → Chs}
/-- state, as told of the maker's state. -/
theorem nstate_st {q c : Nat} {a : Option Addr} {e : Int} {full : Bool} {R : List RowM} (ho : StOk (stM R full))
    (hk : ∀ a' c' R', stM R' (stateN (stM R full)).2.full = (stateN (stM R full)).2 → K (.int .i64 ((stateN (stM R full)).1 : Int)) ro (mkC q a' c' e (stateN (stM R full)).2.full R' r)) :
    CallOk Tryz.prog 44 #[ptr' q] ro (mkC q a c e full R r) K :=
  nstate_ok (by have := ho.le; rw [stM_len] at this; exact this) fun a' c' R' h => hk a' c' R' (stM_eq h)
theorem nedge_st {q c : Nat} {a : Option Addr} {e : Int} {full : Bool} {R : List RowM} {f : Nat} {x : EdgeD} (ho : StOk (stM R full)) (hf : f < R.length) (hb : budN (stM R full) ≤ 1000000)
    (hk : ∀ R', stM R' full = edgeN f x (stM R full) → K (.tuple #[]) ro (mkC q a c e full R' r)) :
    CallOk Tryz.prog 68 #[ptr' q, .int .i64 (f : Int), .agg (edgeV x).toArray] ro (mkC q a c e full R r) K := by
  obtain ⟨row, hr⟩ : ∃ row, R[f]? = some row := ⟨_, List.getElem?_eq_getElem hf⟩
  refine nedge_ok hr ?_ (by have := ho.le; rw [stM_len] at this; exact this) fun R' h1 h2 => hk R' ?_
  · have := row_ofM (full := full) hr
    unfold budN at hb; omega
  · have := stM_eq h1
    exact this
theorem mk_in2 (x y : Chunk) (q : Nat) (a : Option Addr) (c : Nat) (e : Int) (full : Bool) (R : List RowM) (r : Chs) : (x :: y :: mkC q a c e full R r).Perm (mkC q a c e full R (x :: y :: r)) :=
  ((mk_in y q a c e full R r).cons x).trans (mk_in x q a c e full R (y :: r))
theorem dropN_cons {α : Type} {l : List α} {i : Nat} {x : α} (h : l[i]? = some x) : l.drop i = x :: l.drop (i + 1) := by
  obtain ⟨h1, h2⟩ := List.getElem?_eq_some_iff.1 h
  rw [List.drop_eq_getElem_cons h1, h2]
theorem cat_cons (x : RgD) (l : List RgD) (f : Nat) (st : StD) : catN (x :: l) f st = catN l (nodeN x f st).1 (nodeN x f st).2 := by rw [catN]
theorem alt_cons (x : RgD) (l : List RgD) (f to : Nat) (st : StD) : altN (x :: l) f to st = altN l f to (altN [x] f to st) := by rw [altN, altN, altN]
theorem alt_one (x : RgD) (f to : Nat) (st : StD) : altN [x] f to st = edgeN (nodeN x (stateN st).1 (edgeN f (freeE (stateN st).1) (stateN st).2)).1 (freeE to) (nodeN x (stateN st).1 (edgeN f (freeE (stateN st).1) (stateN st).2)).2 := by rw [altN, altN]
theorem rep_min (F : NodeF) (k f : Nat) (st : StD) (h : st.full = false) : minN F (k + 1) f st = minN F k (F f st).1 (F f st).2 := by rw [minN, if_neg (by rw [h]; decide)]
theorem rep_full (F : NodeF) (k f : Nat) (st : StD) (h : st.full = true) : minN F (k + 1) f st = (true, 0, st) := by rw [minN, if_pos h]
theorem rep_max (F : NodeF) (to k f : Nat) (st : StD) (h : st.full = false) : maxN F to (k + 1) f st = maxN F to k (oneN F to f st).1 (oneN F to f st).2 := by rw [maxN, if_neg (by rw [h]; decide)]
theorem rep_maxF (F : NodeF) (to k f : Nat) (st : StD) (h : st.full = true) : maxN F to (k + 1) f st = (true, 0, st) := by rw [maxN, if_pos h]
set_option maxHeartbeats 16000000 in
theorem nrepeat_ok {x : RgD} (ih : NodeC x) {q c f : Nat} {a : Option Addr} {e : Int} {R : List RowM} {z : SetD} {mn mx : Int} {ad : Option Addr} {cp : Nat} {v : List Value} (hrs : Rs ro ad 1 cp 8 v) (hvv : RgOk ro x v) (hw : wrongD x = 0) (h : ¬ (mn < 0 ∨ 256 < mn ∨ 256 < mx ∨ (0 ≤ mx ∧ mx < mn)))
    (ho : StOk (stM R false)) (hf : f < R.length) (hb : budN (stM R false) + 4 * sizeD x + 4 ≤ 900000)
    (hk : ∀ a' c' R', rowsOf R' = (repeatN (nodeN x) mn mx f (stM R false)).2.rows → K (.int .i64 ((repeatN (nodeN x) mn mx f (stM R false)).1 : Int)) ro (mkC q a' c' e (repeatN (nodeN x) mn mx f (stM R false)).2.full R' r)) :
    CallOk Tryz.prog 69 #[ptr' q, .agg (nodeV 5 z ad 1 cp mn mx).toArray, .int .i64 (f : Int)] ro (mkC q a c e false R r) K := by
  have hM := made_node x hw
  obtain ⟨ak, ck, hvk⟩ := hvv.cells
  have hvk0 : (v.drop 0).take 8 = nodeV x.kind x.set ak x.kids.length ck x.min x.max := by rw [hvk]; rfl
  rw [hvk] at hvv
  have hRl := stM_len R false
  unfold repeatN at hk
  obtain ⟨n, hn⟩ : ∃ n : Nat, mn = (n : Int) := ⟨mn.toNat, by omega⟩
  have hmn : mn.toNat = n := by omega
  rw [hmn] at hk
  refine CallOk.intro (args := [_, _, _]) (rs := [_]) T_ok Tryz.func69 Tryz.call69 rfl rfl (by kernel_rfl) rfl rfl ?_
  repeat (first | exact endA | refine wkP ?_ | refine opB (fun b => ?_) | refine opA (fun a' c' hc1 hc2 => ?_) | (apply GJ.and; exact rfl; intro hg) | (apply GJ.or; exact rfl; intro hg))
  obtain ⟨bN, hbN⟩ : ∃ z : Nat, z = b := ⟨_, rfl⟩
  subst hbN
  refine LoopOk.at (ι := Nat × Nat × List RowM × Bool × Option Addr × Nat) Keep.auto (fun (i, fi, R2, u2, a2, c2) => [(12, .int .i64 (i : Int)), (2, .int .i64 (fi : Int))]) (fun (i, fi, R2, u2, a2, c2) => .blk bN 26 (nodeV 5 z ad 1 cp mn mx) :: mkC q a2 c2 e u2 R2 r) (fun (i, fi, R2, u2, a2, c2) => i ≤ n ∧ minN (nodeN x) n f (stM R false) = minN (nodeN x) (n - i) fi (stM R2 u2) ∧ StOk (stM R2 u2) ∧ fi < R2.length ∧ budN (stM R2 u2) ≤ budN (stM R false) + 4 * sizeD x ∧ (u2 = false → budN (stM R2 u2) ≤ budN (stM R false))) (fun (i, fi, R2, u2, a2, c2) => n - i) (0, f, R, false, a, c) ?_ Sub.auto Sup.auto ?_
  · exact ⟨Nat.zero_le _, rfl, ho, hf, by omega, fun _ => Nat.le_refl _⟩
  rintro ⟨i, fi, R2, u2, a2, c2⟩ ⟨i1, i2, i3, i4, i5, i6⟩
  dsimp only [List.cons_append, List.nil_append] at i1 i2 i3 i4 i5 i6 ⊢
  have hR2 := stM_len R2 u2
  by_cases hi : i < n
  · rw [show n - i = (n - (i + 1)) + 1 by omega] at i2
    cases u2 with
    | true =>
      rw [rep_full _ _ _ _ rfl] at i2
      rw [i2] at hk
      repeat (first | exact endA | refine wkP ?_ | refine opB (fun b => ?_) | refine opA (fun a' c' hc1 hc2 => ?_) | (apply GJ.and; exact rfl; intro hg) | (apply GJ.or; exact rfl; intro hg))
      exact Wk.own _ (Sup.drop _ (Sup.all _)) (Wk.id (hk a2 c2 R2 rfl))
    | false =>
      rw [rep_min _ _ _ _ rfl] at i2
      have hmd := (hM fi (stM R2 false) i3 (by omega)).1
      have hbd := bud_made hmd
      have i6 := i6 rfl
      repeat (first | exact endA | refine wkP ?_ | refine opB (fun b => ?_) | refine opA (fun a' c' hc1 hc2 => ?_) | (apply GJ.and; exact rfl; intro hg) | (apply GJ.or; exact rfl; intro hg))
      refine OpOk.loadRow rfl rfl (LdN.at (k := 0) hrs hvk0) rfl ?_
      repeat (first | exact endA | refine wkP ?_ | refine opB (fun b => ?_) | refine opA (fun a' c' hc1 hc2 => ?_) | (apply GJ.and; exact rfl; intro hg) | (apply GJ.or; exact rfl; intro hg))
      refine CallOk.perm (mk_in _ _ _ _ _ _ _ _) ?_
      refine ih.run hvv hw i3 i4 (.inr (by omega)) (fun a3 c3 R3 h3 => ?_)
      have e3 := stM_eq h3
      generalize nodeN x fi (stM R2 false) = p at *
      have hlt := hmd.lt
      have l3 : R3.length = p.2.rows.length := by rw [← e3, stM_len]
      repeat (first | exact endA | refine wkP ?_ | refine opB (fun b => ?_) | refine opA (fun a' c' hc1 hc2 => ?_) | (apply GJ.and; exact rfl; intro hg) | (apply GJ.or; exact rfl; intro hg))
      refine Wk.perm (mk_in _ _ _ _ _ _ _ _).symm ?_
      refine Wk.id ⟨(i + 1, p.1, R3, p.2.full, a3, c3), ⟨rfl, ?_⟩, ?_, Sub.auto, Sup.auto⟩
      all_goals try dsimp only
      · exact ⟨by omega, by rw [e3]; exact i2, by rw [e3]; exact hmd.ok, by omega, by rw [e3]; omega, fun hu => by rw [e3]; have := hbd.2 hu; omega⟩
      · omega
  · obtain rfl : i = n := by omega
    rw [Nat.sub_self, minN] at i2
    rw [i2] at hk
    dsimp only at hk
    repeat (first | exact endA | refine wkP ?_ | refine opB (fun b => ?_) | refine opA (fun a' c' hc1 hc2 => ?_) | (apply GJ.and; exact rfl; intro hg) | (apply GJ.or; exact rfl; intro hg))
    refine CallOk.perm (mk_in _ _ _ _ _ _ _ _) ?_
    refine nstate_st i3 (fun a0 c0 R0 h0 => ?_)
    have m0 := made_state i3
    have d0 := (bud_state _ i3).1
    have d1 := (bud_state _ i3).2
    have k0 := m0.keep
    have g0 := m0.grow
    have t0 := m0.lt
    have o0 := m0.ok
    generalize stateN (stM R2 u2) = p0 at *
    have l0 : R0.length = p0.2.rows.length := by rw [← h0, stM_len]
    by_cases hmx : mx < 0
    · rw [if_pos hmx] at hk
      unfold loopN at hk
      dsimp only at hk
      repeat (first | exact endA | refine wkP ?_ | refine opB (fun b => ?_) | refine opA (fun a' c' hc1 hc2 => ?_) | (apply GJ.and; exact rfl; intro hg) | (apply GJ.or; exact rfl; intro hg))
      refine nstate_st (by rw [h0]; exact o0) (fun a3 c3 R3 h3 => ?_)
      rw [h0] at h3
      rw [h0]
      have m1 := made_state o0
      have t1 := m1.lt
      have b1 := (bud_state _ o0).1
      have b2 := (bud_state _ o0).2
      have k1 := m1.keep
      have g1 := m1.grow
      have o1 := m1.ok
      generalize stateN p0.2 = p1 at *
      have l3 : R3.length = p1.2.rows.length := by rw [← h3, stM_len]
      repeat (first | exact endA | refine wkP ?_ | refine opB (fun b => ?_) | refine opA (fun a' c' hc1 hc2 => ?_) | (apply GJ.and; exact rfl; intro hg) | (apply GJ.or; exact rfl; intro hg))
      refine nedge_st (x := freeE p1.1) (by rw [h3]; exact o1) (by omega) (by rw [h3]; omega) (fun R4 h4 => ?_)
      rw [h3] at h4
      have o2 : StOk (edgeN fi (freeE p1.1) p1.2) := o1.edge t1
      have e2 := edge_len fi (freeE p1.1) p1.2
      have b3 := bud_edge fi (freeE p1.1) p1.2
      have u3 := edge_full fi (freeE p1.1) p1.2
      generalize edgeN fi (freeE p1.1) p1.2 = s2 at *
      have l4 : R4.length = s2.rows.length := by rw [← h4, stM_len]
      repeat (first | exact endA | refine wkP ?_ | refine opB (fun b => ?_) | refine opA (fun a' c' hc1 hc2 => ?_) | (apply GJ.and; exact rfl; intro hg) | (apply GJ.or; exact rfl; intro hg))
      refine nedge_st (x := freeE p0.1) (by rw [h4]; exact o2) (by omega) (by rw [h4]; omega) (fun R5 h5 => ?_)
      rw [h4] at h5
      have o3 : StOk (edgeN p1.1 (freeE p0.1) s2) := o2.edge (show p0.1 < s2.rows.length by omega)
      have e3 := edge_len p1.1 (freeE p0.1) s2
      have b4 := bud_edge p1.1 (freeE p0.1) s2
      have u4 := edge_full p1.1 (freeE p0.1) s2
      generalize edgeN p1.1 (freeE p0.1) s2 = s3 at *
      have l5 : R5.length = s3.rows.length := by rw [← h5, stM_len]
      have hmd := (hM p1.1 s3 o3 (by omega)).1
      have hmd2 := (hM p1.1 s3 o3 (by omega)).2
      have hmb := bud_made hmd
      repeat (first | exact endA | refine wkP ?_ | refine opB (fun b => ?_) | refine opA (fun a' c' hc1 hc2 => ?_) | (apply GJ.and; exact rfl; intro hg) | (apply GJ.or; exact rfl; intro hg))
      refine OpOk.loadRow rfl rfl (LdN.at (k := 0) hrs hvk0) rfl ?_
      repeat (first | exact endA | refine wkP ?_ | refine opB (fun b => ?_) | refine opA (fun a' c' hc1 hc2 => ?_) | (apply GJ.and; exact rfl; intro hg) | (apply GJ.or; exact rfl; intro hg))
      refine ih.run hvv hw (by rw [h5]; exact o3) (by omega) (by
        rw [h5]
        cases hu : p1.2.full with
        | true => exact .inl rfl
        | false =>
          have hu0 : p0.2.full = false := by cases hh : p0.2.full with
            | false => rfl
            | true => rw [k1 hh] at hu; cases hu
          have hu2 : u2 = false := by cases hh : u2 with
            | false => rfl
            | true => have := k0 hh; rw [this] at hu0; cases hu0
          have := b2 hu; have := d1 hu0; have := i6 hu2
          exact .inr (by omega)) (fun a6 c6 R6 h6 => ?_)
      rw [h5] at h6
      have e6 := stM_eq h6
      rw [h5]
      have hbb : budN (nodeN x p1.1 s3).2 ≤ 900000 + 100 := by
        cases hu : s3.full with
        | true =>
          have h1 := hmd2 hu
          have h2 := hmd.grow
          have h3 := full_len o3 hmd.ok h2 hu
          unfold budN at *; omega
        | false =>
          have hu1 : p1.2.full = false := by rw [← u3, ← u4]; exact hu
          have hu0 : p0.2.full = false := by cases hh : p0.2.full with
            | false => rfl
            | true => rw [k1 hh] at hu1; cases hu1
          have hu2 : u2 = false := by cases hh : u2 with
            | false => rfl
            | true => have := k0 hh; rw [this] at hu0; cases hu0
          have := b2 hu1; have := d1 hu0; have := i6 hu2
          omega
      generalize nodeN x p1.1 s3 = p6 at *
      have l6 : R6.length = p6.2.rows.length := by rw [← e6, stM_len]
      have t6 := hmd.lt
      repeat (first | exact endA | refine wkP ?_ | refine opB (fun b => ?_) | refine opA (fun a' c' hc1 hc2 => ?_) | (apply GJ.and; exact rfl; intro hg) | (apply GJ.or; exact rfl; intro hg))
      refine nedge_st (x := freeE p1.1) (by rw [e6]; exact hmd.ok) (by omega) (by rw [e6]; omega) (fun R7 h7 => ?_)
      rw [e6] at h7
      repeat (first | exact endA | refine wkP ?_ | refine opB (fun b => ?_) | refine opA (fun a' c' hc1 hc2 => ?_) | (apply GJ.and; exact rfl; intro hg) | (apply GJ.or; exact rfl; intro hg))
      exact Wk.perm (mk_in _ _ _ _ _ _ _ _).symm (Wk.own _ (Sup.drop _ (Sup.all _)) (Wk.id (hk a6 c6 R7 (congrArg StD.rows h7))))
    · rw [if_neg hmx] at hk
      obtain ⟨m, hm⟩ : ∃ m : Nat, mx - mn = (m : Int) := ⟨(mx - mn).toNat, by omega⟩
      rw [hm, Int.toNat_natCast] at hk
      repeat (first | exact endA | refine wkP ?_ | refine opB (fun b => ?_) | refine opA (fun a' c' hc1 hc2 => ?_) | (apply GJ.and; exact rfl; intro hg) | (apply GJ.or; exact rfl; intro hg))
      rw [hm]
      refine LoopOk.at (ι := Nat × Nat × List RowM × Bool × Option Addr × Nat) Keep.auto (fun (j, fj, R3, u3, a3, c3) => [(60, .int .i64 (j : Int)), (2, .int .i64 (fj : Int))]) (fun (j, fj, R3, u3, a3, c3) => mkC q a3 c3 e u3 R3 (.blk bN 26 (nodeV 5 z ad 1 cp mn mx) :: r)) (fun (j, fj, R3, u3, a3, c3) => j ≤ m ∧ maxN (nodeN x) p0.1 m fi p0.2 = maxN (nodeN x) p0.1 (m - j) fj (stM R3 u3) ∧ StOk (stM R3 u3) ∧ fj < R3.length ∧ p0.2.rows.length ≤ R3.length ∧ budN (stM R3 u3) ≤ budN (stM R false) + 4 * sizeD x + 4 ∧ (u3 = false → budN (stM R3 u3) ≤ budN (stM R false))) (fun (j, fj, R3, u3, a3, c3) => m - j) (0, fi, R0, p0.2.full, a0, c0) ?_ Sub.auto Sup.auto ?_
      · exact ⟨Nat.zero_le _, by rw [h0]; rfl, by rw [h0]; exact o0, by omega, by omega, by rw [h0]; omega, fun hu => by
          rw [h0]
          have hu2 : u2 = false := by cases hh : u2 with
            | false => rfl
            | true => have := k0 hh; rw [this] at hu; cases hu
          have := i6 hu2; omega⟩
      rintro ⟨j, fj, R3, u3, a3, c3⟩ ⟨j1, j2, j3, j4, j5, j6, j7⟩
      dsimp only [List.cons_append, List.nil_append] at j1 j2 j3 j4 j5 j6 j7 ⊢
      have hR3 := stM_len R3 u3
      by_cases hj : j < m
      · rw [show m - j = (m - (j + 1)) + 1 by omega] at j2
        cases u3 with
        | true =>
          rw [rep_maxF _ _ _ _ _ rfl] at j2
          rw [j2] at hk
          repeat (first | exact endA | refine wkP ?_ | refine opB (fun b => ?_) | refine opA (fun a' c' hc1 hc2 => ?_) | (apply GJ.and; exact rfl; intro hg) | (apply GJ.or; exact rfl; intro hg))
          exact Wk.perm (mk_in _ _ _ _ _ _ _ _).symm (Wk.own _ (Sup.drop _ (Sup.all _)) (Wk.id (hk a3 c3 R3 rfl)))
        | false =>
          rw [rep_max _ _ _ _ _ rfl] at j2
          have j7 := j7 rfl
          have hone := MadeF.one hM (to := p0.1) (f0 := fj) j3 (by omega) (by omega)
          have hbone := bud_made hone
          have hoo := hone.ok
          have hog := hone.grow
          have hot := hone.lt
          unfold oneN at j2 hbone hoo hog hot
          have q1 : StOk (edgeN fj (freeE p0.1) (stM R3 false)) := j3.edge (show p0.1 < (stM R3 false).rows.length by omega)
          have q2 := edge_len fj (freeE p0.1) (stM R3 false)
          have q3 := bud_edge fj (freeE p0.1) (stM R3 false)
          repeat (first | exact endA | refine wkP ?_ | refine opB (fun b => ?_) | refine opA (fun a' c' hc1 hc2 => ?_) | (apply GJ.and; exact rfl; intro hg) | (apply GJ.or; exact rfl; intro hg))
          refine nedge_st (x := freeE p0.1) j3 (by omega) (by omega) (fun R4 h4 => ?_)
          generalize edgeN fj (freeE p0.1) (stM R3 false) = s1 at *
          have l4 : R4.length = s1.rows.length := by rw [← h4, stM_len]
          repeat (first | exact endA | refine wkP ?_ | refine opB (fun b => ?_) | refine opA (fun a' c' hc1 hc2 => ?_) | (apply GJ.and; exact rfl; intro hg) | (apply GJ.or; exact rfl; intro hg))
          refine nstate_st (by rw [h4]; exact q1) (fun a5 c5 R5 h5 => ?_)
          rw [h4] at h5
          rw [h4]
          have m1 := made_state q1
          have t1 := m1.lt
          have b1 := (bud_state _ q1).1
          have b2 := (bud_state _ q1).2
          have g1 := m1.grow
          have o1 := m1.ok
          generalize stateN s1 = p1 at *
          have l5 : R5.length = p1.2.rows.length := by rw [← h5, stM_len]
          repeat (first | exact endA | refine wkP ?_ | refine opB (fun b => ?_) | refine opA (fun a' c' hc1 hc2 => ?_) | (apply GJ.and; exact rfl; intro hg) | (apply GJ.or; exact rfl; intro hg))
          refine nedge_st (x := freeE p1.1) (by rw [h5]; exact o1) (by omega) (by rw [h5]; omega) (fun R6 h6 => ?_)
          rw [h5] at h6
          have o2 : StOk (edgeN fj (freeE p1.1) p1.2) := o1.edge t1
          have e2 := edge_len fj (freeE p1.1) p1.2
          have b3 := bud_edge fj (freeE p1.1) p1.2
          have u4 := edge_full fj (freeE p1.1) p1.2
          generalize edgeN fj (freeE p1.1) p1.2 = s2 at *
          have l6 : R6.length = s2.rows.length := by rw [← h6, stM_len]
          repeat (first | exact endA | refine wkP ?_ | refine opB (fun b => ?_) | refine opA (fun a' c' hc1 hc2 => ?_) | (apply GJ.and; exact rfl; intro hg) | (apply GJ.or; exact rfl; intro hg))
          refine OpOk.loadRow rfl rfl (LdN.at (k := 0) hrs hvk0) rfl ?_
          repeat (first | exact endA | refine wkP ?_ | refine opB (fun b => ?_) | refine opA (fun a' c' hc1 hc2 => ?_) | (apply GJ.and; exact rfl; intro hg) | (apply GJ.or; exact rfl; intro hg))
          refine ih.run hvv hw (by rw [h6]; exact o2) (by omega) (by
            rw [h6]
            cases hu : p1.2.full with
            | true => exact .inl rfl
            | false => have := b2 hu; exact .inr (by omega)) (fun a7 c7 R7 h7 => ?_)
          rw [h6] at h7
          have e7 := stM_eq h7
          rw [h6]
          generalize nodeN x p1.1 s2 = p7 at *
          have l7 : R7.length = p7.2.rows.length := by rw [← e7, stM_len]
          repeat (first | exact endA | refine wkP ?_ | refine opB (fun b => ?_) | refine opA (fun a' c' hc1 hc2 => ?_) | (apply GJ.and; exact rfl; intro hg) | (apply GJ.or; exact rfl; intro hg))
          refine Wk.id ⟨(j + 1, p7.1, R7, p7.2.full, a7, c7), ⟨rfl, ?_⟩, ?_, Sub.auto, Sup.auto⟩
          all_goals try dsimp only
          · exact ⟨by omega, by rw [e7]; exact j2, by rw [e7]; exact hoo, by omega, by omega, by rw [e7]; omega, fun hu => by rw [e7]; have := hbone.2 hu; omega⟩
          · omega
      · obtain rfl : j = m := by omega
        rw [Nat.sub_self, maxN] at j2
        rw [j2] at hk
        dsimp only at hk
        repeat (first | exact endA | refine wkP ?_ | refine opB (fun b => ?_) | refine opA (fun a' c' hc1 hc2 => ?_) | (apply GJ.and; exact rfl; intro hg) | (apply GJ.or; exact rfl; intro hg))
        refine nedge_st (x := freeE p0.1) j3 (by omega) (by omega) (fun R4 h4 => ?_)
        repeat (first | exact endA | refine wkP ?_ | refine opB (fun b => ?_) | refine opA (fun a' c' hc1 hc2 => ?_) | (apply GJ.and; exact rfl; intro hg) | (apply GJ.or; exact rfl; intro hg))
        exact Wk.perm (mk_in _ _ _ _ _ _ _ _).symm (Wk.own _ (Sup.drop _ (Sup.all _)) (Wk.id (hk a3 c3 R4 (congrArg StD.rows h4))))
set_option maxHeartbeats 8000000 in
theorem nodeC : ∀ n, NodeC n := RgD.ind fun k z l mn mx ih => ⟨fun {ro r K q c f a e full R v} hv hw ho hf hb hk => by
  obtain ⟨hform, hkw⟩ := wrongD_parts hw
  have hF := form_cases hform
  rw [RgOk] at hv
  obtain ⟨ad, cp, cs, rfl, hs, hrs, hks⟩ := hv
  have hle := hrs.le
  have hmx := hrs.max
  unfold maxLen at hmx
  have hRl := stM_len R full
  rw [nodeN] at hk
  dsimp only at hk
  cases full with
  | true =>
    rw [if_pos (show (stM R true).full = true from rfl)] at hk
    refine CallOk.intro (args := [_, _, _]) (rs := [_]) T_ok Tryz.func45 Tryz.call45 rfl rfl (by kernel_rfl) rfl rfl ?_
    repeat (first | exact endA | refine wkP ?_ | refine opB (fun b => ?_) | refine opA (fun a' c' hc1 hc2 => ?_) | (apply GJ.and; exact rfl; intro hg) | (apply GJ.or; exact rfl; intro hg))
    exact Wk.outS Sup.auto (.refl _) (hk a c R rfl)
  | false =>
    rw [if_neg (show ¬ (stM R false).full = true from (by intro h; cases h))] at hk
    have hb : budN (stM R false) + 4 * (sizeK l + 1) ≤ 900000 := by
      rcases hb with hb | hb
      · cases hb
      · rw [sizeD] at hb; exact hb
    cases hF with
    | none s a1 b1 =>
      rw [if_neg (by decide), if_neg (by decide), if_neg (by decide), if_neg (by decide)] at hk
      refine CallOk.intro (args := [_, _, _]) (rs := [_]) T_ok Tryz.func45 Tryz.call45 rfl rfl (by kernel_rfl) rfl rfl ?_
      repeat (first | exact endA | refine wkP ?_ | refine opB (fun b => ?_) | refine opA (fun a' c' hc1 hc2 => ?_) | (apply GJ.and; exact rfl; intro hg) | (apply GJ.or; exact rfl; intro hg))
      exact Wk.outS Sup.auto (.refl _) (hk a c R rfl)
    | one s a1 b1 h =>
      rw [if_pos rfl] at hk
      refine CallOk.intro (args := [_, _, _]) (rs := [_]) T_ok Tryz.func45 Tryz.call45 rfl rfl (by kernel_rfl) rfl rfl ?_
      repeat (first | exact endA | refine wkP ?_ | refine opB (fun b => ?_) | refine opA (fun a' c' hc1 hc2 => ?_) | (apply GJ.and; exact rfl; intro hg) | (apply GJ.or; exact rfl; intro hg))
      refine CallOk.perm (mk_in _ _ _ _ _ _ _ _) ?_
      refine nstate_st ho (fun a2 c2 R2 h2 => ?_)
      have m1 := made_state ho
      have b1 := (bud_state _ ho).1
      generalize stateN (stM R false) = p at *
      have o2 : StOk (stM R2 p.2.full) := by rw [h2]; exact m1.ok
      have l2 : R2.length = p.2.rows.length := by rw [← h2, stM_len]
      have g2 := m1.grow
      repeat (first | exact endA | refine wkP ?_ | refine opB (fun b => ?_) | refine opA (fun a' c' hc1 hc2 => ?_) | (apply GJ.and; exact rfl; intro hg) | (apply GJ.or; exact rfl; intro hg))
      refine nedge_st (x := setE p.1 z) o2 (by omega) (by rw [h2]; omega) (fun R3 h3 => ?_)
      repeat (first | exact endA | refine wkP ?_ | refine opB (fun b => ?_) | refine opA (fun a' c' hc1 hc2 => ?_) | (apply GJ.and; exact rfl; intro hg) | (apply GJ.or; exact rfl; intro hg))
      rw [h2] at h3
      exact Wk.perm (mk_in _ _ _ _ _ _ _ _).symm (Wk.own _ (Sup.drop _ (Sup.all _)) (Wk.id (hk a2 c2 R3 (congrArg StD.rows h3))))
    | cat s x y l a1 b1 =>
      rw [if_neg (by decide), if_pos rfl] at hk
      generalize x :: y :: l = l at *
      refine CallOk.intro (args := [_, _, _]) (rs := [_]) T_ok Tryz.func45 Tryz.call45 rfl rfl (by kernel_rfl) rfl rfl ?_
      repeat (first | exact endA | refine wkP ?_ | refine opB (fun b => ?_) | refine opA (fun a' c' hc1 hc2 => ?_) | (apply GJ.and; exact rfl; intro hg) | (apply GJ.or; exact rfl; intro hg))
      obtain ⟨bN, hbN⟩ : ∃ z : Nat, z = b := ⟨_, rfl⟩
      subst hbN
      refine LoopOk.at (ι := Nat × Nat × List RowM × Bool × Option Addr × Nat) Keep.auto (fun (i, fi, R2, u2, a2, c2) => [(37, .int .i64 (i : Int)), (2, .int .i64 (fi : Int))]) (fun (i, fi, R2, u2, a2, c2) => .blk bN 26 (nodeV 3 z ad l.length cp mn mx) :: mkC q a2 c2 e u2 R2 r) (fun (i, fi, R2, u2, a2, c2) => i ≤ l.length ∧ catN l f (stM R false) = catN (l.drop i) fi (stM R2 u2) ∧ StOk (stM R2 u2) ∧ fi < R2.length ∧ budN (stM R2 u2) + 4 * sizeK (l.drop i) ≤ 900000) (fun (i, fi, R2, u2, a2, c2) => l.length - i) (0, f, R, false, a, c) ?_ Sub.auto Sup.auto ?_
      · exact ⟨Nat.zero_le _, by simp, ho, hf, by rw [List.drop_zero]; omega⟩
      rintro ⟨i, fi, R2, u2, a2, c2⟩ ⟨i1, i2, i3, i4, i5⟩
      dsimp only [List.cons_append, List.nil_append] at i1 i2 i3 i4 i5 ⊢
      by_cases hi : i < l.length
      · obtain ⟨kd, hkd⟩ : ∃ kd, l[i]? = some kd := ⟨_, List.getElem?_eq_getElem hi⟩
        have hmk := List.mem_of_getElem? hkd
        have hvv := hks.get hkd
        obtain ⟨ak, ck, hvk⟩ := hvv.cells
        rw [hvk] at hvv
        rw [dropN_cons hkd, cat_cons] at i2
        rw [dropN_cons hkd, sizeK] at i5
        have hwk := wrongK_all hkw kd hmk
        have hmd := (made_node kd hwk fi (stM R2 u2) i3 (by rw [stM_len]; exact i4)).1
        have hbd := (bud_made hmd).1
        repeat (first | exact endA | refine wkP ?_ | refine opB (fun b => ?_) | refine opA (fun a' c' hc1 hc2 => ?_) | (apply GJ.and; exact rfl; intro hg) | (apply GJ.or; exact rfl; intro hg))
        rw [Int.toNat_natCast]
        refine OpOk.loadRow rfl rfl (LdN.at hrs hvk) rfl ?_
        repeat (first | exact endA | refine wkP ?_ | refine opB (fun b => ?_) | refine opA (fun a' c' hc1 hc2 => ?_) | (apply GJ.and; exact rfl; intro hg) | (apply GJ.or; exact rfl; intro hg))
        refine CallOk.perm (mk_in2 _ _ _ _ _ _ _ _ _) ?_
        refine (ih kd hmk).run hvv hwk i3 i4 (.inr (by omega)) (fun a3 c3 R3 h3 => ?_)
        have e3 := stM_eq h3
        generalize nodeN kd fi (stM R2 u2) = p at *
        have hlt := hmd.lt
        have l3 : R3.length = p.2.rows.length := by rw [← e3, stM_len]
        repeat (first | exact endA | refine wkP ?_ | refine opB (fun b => ?_) | refine opA (fun a' c' hc1 hc2 => ?_) | (apply GJ.and; exact rfl; intro hg) | (apply GJ.or; exact rfl; intro hg))
        refine Wk.perm (mk_in2 _ _ _ _ _ _ _ _ _).symm ?_
        refine Wk.id ⟨(i + 1, p.1, R3, p.2.full, a3, c3), ⟨rfl, ?_⟩, ?_, Sub.auto, Sup.auto⟩
        all_goals try dsimp only
        · exact ⟨by omega, by rw [e3]; exact i2, by rw [e3]; exact hmd.ok, by omega, by rw [e3]; omega⟩
        · omega
      · obtain rfl : i = l.length := by omega
        rw [List.drop_length, catN] at i2
        rw [i2] at hk
        repeat (first | exact endA | refine wkP ?_ | refine opB (fun b => ?_) | refine opA (fun a' c' hc1 hc2 => ?_) | (apply GJ.and; exact rfl; intro hg) | (apply GJ.or; exact rfl; intro hg))
        exact Wk.own _ (Sup.drop _ (Sup.all _)) (Wk.id (hk a2 c2 R2 rfl))
    | alt s x y l a1 b1 =>
      rw [if_neg (by decide), if_neg (by decide), if_pos rfl] at hk
      generalize x :: y :: l = l at *
      refine CallOk.intro (args := [_, _, _]) (rs := [_]) T_ok Tryz.func45 Tryz.call45 rfl rfl (by kernel_rfl) rfl rfl ?_
      repeat (first | exact endA | refine wkP ?_ | refine opB (fun b => ?_) | refine opA (fun a' c' hc1 hc2 => ?_) | (apply GJ.and; exact rfl; intro hg) | (apply GJ.or; exact rfl; intro hg))
      obtain ⟨bN, hbN⟩ : ∃ z : Nat, z = b := ⟨_, rfl⟩
      subst hbN
      refine CallOk.perm (mk_in _ _ _ _ _ _ _ _) ?_
      refine nstate_st ho (fun a0 c0 R0 h0 => ?_)
      have m0 := made_state ho
      have d0 := (bud_state _ ho).1
      have g0 := m0.grow
      have t0 := m0.lt
      have o0 := m0.ok
      generalize stateN (stM R false) = p0 at *
      have l0 : R0.length = p0.2.rows.length := by rw [← h0, stM_len]
      repeat (first | exact endA | refine wkP ?_ | refine opB (fun b => ?_) | refine opA (fun a' c' hc1 hc2 => ?_) | (apply GJ.and; exact rfl; intro hg) | (apply GJ.or; exact rfl; intro hg))
      refine LoopOk.at (ι := Nat × List RowM × Bool × Option Addr × Nat) Keep.auto (fun (i, R2, u2, a2, c2) => [(54, .int .i64 (i : Int))]) (fun (i, R2, u2, a2, c2) => mkC q a2 c2 e u2 R2 (.blk bN 26 (nodeV 4 z ad l.length cp mn mx) :: r)) (fun (i, R2, u2, a2, c2) => i ≤ l.length ∧ altN l f p0.1 p0.2 = altN (l.drop i) f p0.1 (stM R2 u2) ∧ StOk (stM R2 u2) ∧ p0.2.rows.length ≤ R2.length ∧ budN (stM R2 u2) + 4 * sizeK (l.drop i) ≤ 900000) (fun (i, R2, u2, a2, c2) => l.length - i) (0, R0, p0.2.full, a0, c0) ?_ Sub.auto Sup.auto ?_
      · exact ⟨Nat.zero_le _, by rw [h0]; simp, by rw [h0]; exact o0, by omega, by rw [List.drop_zero, h0]; omega⟩
      rintro ⟨i, R2, u2, a2, c2⟩ ⟨i1, i2, i3, i4, i5⟩
      dsimp only [List.cons_append, List.nil_append] at i1 i2 i3 i4 i5 ⊢
      have hR2 := stM_len R2 u2
      by_cases hi : i < l.length
      · obtain ⟨kd, hkd⟩ : ∃ kd, l[i]? = some kd := ⟨_, List.getElem?_eq_getElem hi⟩
        have hmk := List.mem_of_getElem? hkd
        have hvv := hks.get hkd
        obtain ⟨ak, ck, hvk⟩ := hvv.cells
        rw [hvk] at hvv
        rw [dropN_cons hkd, alt_cons] at i2
        rw [dropN_cons hkd, sizeK] at i5
        have hwk := wrongK_all hkw kd hmk
        have hsz := sizeD_pos kd
        have hone := made_alt [kd] (fun y hy => by rw [List.mem_singleton.1 hy]; exact made_node kd hwk) f p0.1 (stM R2 u2) i3 (by omega) (by omega)
        have hbone := (bud_made hone).1
        rw [sizeK, sizeK] at hbone
        have hoo := hone.ok
        have hog := hone.grow
        rw [alt_one] at i2 hbone hoo hog
        dsimp only at hbone hoo hog
        have m1 := made_state i3
        have t1 := m1.lt
        have b1 := (bud_state _ i3).1
        have b2 := (bud_state _ i3).2
        have g1 := m1.grow
        repeat (first | exact endA | refine wkP ?_ | refine opB (fun b => ?_) | refine opA (fun a' c' hc1 hc2 => ?_) | (apply GJ.and; exact rfl; intro hg) | (apply GJ.or; exact rfl; intro hg))
        rw [Int.toNat_natCast]
        refine OpOk.loadRow rfl rfl (LdN.at hrs hvk) rfl ?_
        repeat (first | exact endA | refine wkP ?_ | refine opB (fun b => ?_) | refine opA (fun a' c' hc1 hc2 => ?_) | (apply GJ.and; exact rfl; intro hg) | (apply GJ.or; exact rfl; intro hg))
        refine CallOk.perm (mk_in _ _ _ _ _ _ _ _) ?_
        refine nstate_st i3 (fun a3 c3 R3 h3 => ?_)
        have o1 := m1.ok
        generalize stateN (stM R2 u2) = p1 at *
        have l3 : R3.length = p1.2.rows.length := by rw [← h3, stM_len]
        repeat (first | exact endA | refine wkP ?_ | refine opB (fun b => ?_) | refine opA (fun a' c' hc1 hc2 => ?_) | (apply GJ.and; exact rfl; intro hg) | (apply GJ.or; exact rfl; intro hg))
        refine nedge_st (x := freeE p1.1) (by rw [h3]; exact o1) (by omega) (by rw [h3]; omega) (fun R4 h4 => ?_)
        rw [h3] at h4
        have o2 : StOk (edgeN f (freeE p1.1) p1.2) := o1.edge t1
        have e2 := edge_len f (freeE p1.1) p1.2
        have b3 := bud_edge f (freeE p1.1) p1.2
        have u3 := edge_full f (freeE p1.1) p1.2
        generalize edgeN f (freeE p1.1) p1.2 = s2 at *
        have l4 : R4.length = s2.rows.length := by rw [← h4, stM_len]
        have hmd := (made_node kd hwk p1.1 s2 o2 (by omega)).1
        have hmb := bud_made hmd
        repeat (first | exact endA | refine wkP ?_ | refine opB (fun b => ?_) | refine opA (fun a' c' hc1 hc2 => ?_) | (apply GJ.and; exact rfl; intro hg) | (apply GJ.or; exact rfl; intro hg))
        refine (ih kd hmk).run hvv hwk (by rw [h4]; exact o2) (by omega) (by
          rw [h4]
          cases hu : p1.2.full with
          | true => exact .inl rfl
          | false => have := b2 hu; exact .inr (by omega)) (fun a5 c5 R5 h5 => ?_)
        rw [h4] at h5
        have e5 := stM_eq h5
        rw [h4]
        generalize nodeN kd p1.1 s2 = p5 at *
        have l5 : R5.length = p5.2.rows.length := by rw [← e5, stM_len]
        have g5 := hmd.grow
        have t5 := hmd.lt
        repeat (first | exact endA | refine wkP ?_ | refine opB (fun b => ?_) | refine opA (fun a' c' hc1 hc2 => ?_) | (apply GJ.and; exact rfl; intro hg) | (apply GJ.or; exact rfl; intro hg))
        refine nedge_st (x := freeE p0.1) (by rw [e5]; exact hmd.ok) (by omega) (by rw [e5]; omega) (fun R6 h6 => ?_)
        rw [e5] at h6
        have e6 := edge_len p5.1 (freeE p0.1) p5.2
        repeat (first | exact endA | refine wkP ?_ | refine opB (fun b => ?_) | refine opA (fun a' c' hc1 hc2 => ?_) | (apply GJ.and; exact rfl; intro hg) | (apply GJ.or; exact rfl; intro hg))
        refine Wk.perm (mk_in _ _ _ _ _ _ _ _).symm ?_
        have l6 : R6.length = R5.length := by have := congrArg (fun st : StD => st.rows.length) h6; rw [stM_len, e6] at this; omega
        refine Wk.id ⟨(i + 1, R6, p5.2.full, a5, c5), ⟨rfl, ?_⟩, ?_, Sub.auto, Sup.auto⟩
        all_goals try dsimp only
        · exact ⟨by omega, by rw [h6]; exact i2, by rw [h6]; exact hoo, by omega, by rw [h6]; omega⟩
        · omega
      · obtain rfl : i = l.length := by omega
        rw [List.drop_length, altN] at i2
        rw [i2] at hk
        repeat (first | exact endA | refine wkP ?_ | refine opB (fun b => ?_) | refine opA (fun a' c' hc1 hc2 => ?_) | (apply GJ.and; exact rfl; intro hg) | (apply GJ.or; exact rfl; intro hg))
        exact Wk.perm (mk_in _ _ _ _ _ _ _ _).symm (Wk.own _ (Sup.drop _ (Sup.all _)) (Wk.id (hk a2 c2 R2 rfl)))
    | rep s x a1 b1 h =>
      rw [if_neg (by decide), if_neg (by decide), if_neg (by decide), if_pos rfl] at hk
      have hkid : kidN [x] = nodeN x := by rw [kidN]
      rw [hkid] at hk
      have hk1 := RgsOk.single hks
      have hsk : sizeK [x] = sizeD x := by simp [sizeK]
      have hb2 : budN (stM R false) + 4 * sizeD x + 4 ≤ 900000 := by
        rcases hb with h | h
        · cases h
        · rw [sizeD, hsk] at h; omega
      refine CallOk.intro (args := [_, _, _]) (rs := [_]) T_ok Tryz.func45 Tryz.call45 rfl rfl (by kernel_rfl) rfl rfl ?_
      repeat (first | exact endA | refine wkP ?_ | refine opB (fun b => ?_) | refine opA (fun a' c' hc1 hc2 => ?_) | (apply GJ.and; exact rfl; intro hg) | (apply GJ.or; exact rfl; intro hg))
      refine CallOk.perm (mk_in _ _ _ _ _ _ _ _) ?_
      refine nrepeat_ok (ih x (List.mem_singleton.2 rfl)) hrs hk1 (wrongK_all (l := [x]) hkw x (List.mem_singleton.2 rfl)) h ho hf hb2 (fun a2 c2 R2 h2 => ?_)
      repeat (first | exact endA | refine wkP ?_ | refine opB (fun b => ?_) | refine opA (fun a' c' hc1 hc2 => ?_) | (apply GJ.and; exact rfl; intro hg) | (apply GJ.or; exact rfl; intro hg))
      exact Wk.perm (mk_in _ _ _ _ _ _ _ _).symm (Wk.own _ (Sup.drop _ (Sup.all _)) (Wk.id (hk a2 c2 R2 h2)))⟩
end
end Go.Proofs.YtinbmhbfcoiefaaGreatDoor
end
section
/- Contracts of regex: alt, Parse. -/
namespace Go.Proofs.YtinbmhbfcoiefaaGreatDoor
open Go Go.E
set_option linter.unusedVariables false
set_option linter.unusedSimpArgs false
set_option maxRecDepth 10000
theorem alt_none {t : List UInt8} {alt : RS → RgD × RS} {k : Nat} {l : List RgD} {s : RS} (h : ¬ peekD t s = 124) : altL t alt k l s = (l, s) := by
  cases k with
  | zero => rfl
  | succ k => rw [altL, if_neg h]
theorem cat_more {t : List UInt8} {d : Nat} {s : RS} (h : (catD t (altD t d) s).2.e = 0) : s.p ≤ (catD t (altD t d) s).2.p := by
  obtain ⟨l, ⟨r1, _⟩, _⟩ := cat_sound (t := t) (alt := altD t d) ⟨fun h => alt_sound h, fun h => alt_keep h⟩ h
  rw [r1]; show s.p ≤ s.p + l.length; omega
set_option maxHeartbeats 8000000 in
theorem altC {t : List UInt8} (hl : t.length ≤ 10000) : ∀ d : Nat, d ≤ 33 → AltC t d := by
  intro d
  induction d with
  | zero =>
    intro _
    unfold AltC
    intro ro own g q s K hb hi h0 hn hk
    obtain ⟨r, p1, p2⟩ := hb.split
    refine CallOk.perm p1 ?_
    refine CallOk.intro (args := [_, _]) (rs := [_]) T_ok Tryz.func40 Tryz.call40 rfl rfl (by kernel_rfl) rfl rfl ?_
    repeat (first | exact endA | refine wkP ?_ | refine opB (fun b => ?_) | refine opA (fun a' c' hc1 hc2 => ?_) | (apply GJ.and; exact rfl; intro hg) | (apply GJ.or; exact rfl; intro hg))
    refine rwrong_ok (t := t) (s := s) 6 s.p rfl rfl ?_
    repeat (first | exact endA | refine wkP ?_ | refine opB (fun b => ?_) | refine opA (fun a' c' hc1 hc2 => ?_) | (apply GJ.and; exact rfl; intro hg) | (apply GJ.or; exact rfl; intro hg))
    exact Wk.outS Sup.auto (p2 _) (hk ro _ (.refl _) (RgOk.leaf zeroS_in))
  | succ d ih =>
    intro hd
    have ha : AltC t d := ih (by omega)
    unfold AltC
    intro ro own g q s K hb hi h0 hn hk
    obtain ⟨r, p1, p2⟩ := hb.split
    refine CallOk.perm p1 ?_
    have hp := hi.p0 h0
    rw [altD] at hk
    obtain ⟨R, hR⟩ : ∃ R, R = altL t (altD t d) (t.length + 1) [(catD t (altD t d) s).1] (catD t (altD t d) s).2 := ⟨_, rfl⟩
    rw [← hR] at hk
    have hic : Inv t (catD t (altD t d) s).2 := hi.cat (fun h _ => Inv.alt h)
    have hnc : NB (513 + 2 * d + 1) (catD t (altD t d) s).2 := NB.cat (t := t) (by omega) (fun h0 hn => NB.alt h0 hn) ⟨fun _ => hn, by omega⟩
    have hmc := cat_more (t := t) (d := d) (s := s)
    have hx : 33 - ((d + 1 : Nat) : Int) = 32 - (d : Int) := by omega
    rw [hx]
    generalize hX : 32 - (d : Int) = X
    have hX : X = 32 - (d : Int) := hX.symm
    refine CallOk.intro (args := [_, _]) (rs := [_]) T_ok Tryz.func40 Tryz.call40 rfl rfl (by kernel_rfl) rfl rfl ?_
    repeat (first | exact endA | refine wkP ?_ | refine opB (fun b => ?_) | refine opA (fun a' c' hc1 hc2 => ?_) | (apply GJ.and; exact rfl; intro hg) | (apply GJ.or; exact rfl; intro hg))
    obtain ⟨b4, hb4⟩ : ∃ z : Nat, z = b := ⟨_, rfl⟩
    subst hb4
    refine cat_ok (t := t) (s := s) ha hX (by omega) hi h0 hn hl (fun ro1 v hl1 hv => ?_)
    generalize (catD t (altD t d) s).1 = n0 at hR hv
    generalize (catD t (altD t d) s).2 = s0 at hR hic hnc hmc ⊢
    obtain ⟨a1, c1, hvc⟩ := hv.cells
    subst hvc
    repeat (first | exact endA | refine wkP ?_ | refine opB (fun b => ?_) | refine opA (fun a' c' hc1 hc2 => ?_) | (apply GJ.and; exact rfl; intro hg) | (apply GJ.or; exact rfl; intro hg))
    refine LoopOk.auto (ι := Nat × List RgD × List Value × RS × Option Addr × Nat) Keep.auto (fun (k, l, cs, s1, ad, cp) => [(5, .slice ad l.length cp)]) (fun (k, l, cs, s1, ad, cp) => .sl ad l.length cp 26 8 cs :: .blk b4 26 (nodeV 0 zeroS none 0 0 0 0) :: .blk q 105 (rsV t s1) :: r) (fun (k, l, cs, s1, ad, cp) ro2 => RgsOk ro2 l cs ∧ altL t (altD t d) k l s1 = R ∧ (s1.e = 0 → t.length + 1 ≤ k + s1.p ∧ l.length ≤ s1.p + 1) ∧ (1 ≤ l.length ∧ l.length ≤ t.length + 2) ∧ Inv t s1 ∧ NB (513 + 2 * d + 1) s1 ∧ l.length ≤ cp ∧ cp ≤ maxLen) (fun (k, l, cs, s1, ad, cp) => k) (t.length + 1, [n0], nodeV n0.kind n0.set a1 n0.kids.length c1 n0.min n0.max, s0, some ⟨b, 0, none⟩, 1) ?_ Sub.auto Sup.auto ?_
    · refine ⟨?_, hR.symm, fun h => ⟨by have := hmc h; omega, by simp⟩, by simp, hic, hnc, by simp, by decide⟩
      rw [RgsOk]; exact ⟨_, [], by simp, hv, by rw [RgsOk]⟩
    rintro ⟨k, l, cs, s1, ad, cp⟩ ro2 hl2 ⟨i1, i2, i3, i4, i5, i6, i7, i8⟩
    dsimp only [List.cons_append, List.nil_append] at i1 i2 i3 i4 i5 i6 i7 i8 ⊢
    have hp1 := i5.p
    have hn1 := i6.n
    have hL : cs.length = l.length * 8 := i1.len
    repeat (first | exact endA | refine wkP ?_ | refine opB (fun b => ?_) | refine opA (fun a' c' hc1 hc2 => ?_) | (apply GJ.and; exact rfl; intro hg) | (apply GJ.or; exact rfl; intro hg))
    refine eat_ok (t := t) (s := s1) 124 rfl (by decide) (by omega) ?_
    by_cases h124 : ¬ peekD t s1 = 124
    · rw [alt_none h124] at i2
      rw [← i2] at hk
      rw [decide_eq_false h124, eatS, if_neg h124]
      repeat (first | exact endA | refine wkP ?_ | refine opB (fun b => ?_) | refine opA (fun a' c' hc1 hc2 => ?_) | (apply GJ.and; exact rfl; intro hg) | (apply GJ.or; exact rfl; intro hg))
      rcases l with _ | ⟨x1, _ | ⟨y1, l1⟩⟩
      · exact absurd i4.1 (by decide)
      · rw [show ([x1] : List RgD).length = 1 from rfl] at i4 i7 hL ⊢
        have hv := i1.single
        obtain ⟨a1, c1, hvc⟩ := hv.cells
        subst hvc
        repeat (first | exact endA | refine wkP ?_ | refine opB (fun b => ?_) | refine opA (fun a' c' hc1 hc2 => ?_) | (apply GJ.and; exact rfl; intro hg) | (apply GJ.or; exact rfl; intro hg))
        refine OpOk.loadRow rfl rfl (LdN.slRow (k := 0) (z := 8) (cs := nodeV x1.kind x1.set a1 x1.kids.length c1 x1.min x1.max) (vs := nodeV x1.kind x1.set a1 x1.kids.length c1 x1.min x1.max) rfl) rfl ?_
        repeat (first | exact endA | refine wkP ?_ | refine opB (fun b => ?_) | refine opA (fun a' c' hc1 hc2 => ?_) | (apply GJ.and; exact rfl; intro hg) | (apply GJ.or; exact rfl; intro hg))
        exact Wk.outS Sup.auto (p2 _) (hk ro2 _ (hl1.trans hl2) hv)
      · have hlen : 2 ≤ (x1 :: y1 :: l1).length := by simp
        have hcat : altOf (x1 :: y1 :: l1, s1) = (altD' (x1 :: y1 :: l1), nodeS s1) := rfl
        rw [hcat] at hk
        generalize x1 :: y1 :: l1 = l at hk i1 i2 i3 i4 i7 hL hlen ⊢
        refine Br.f (by omega) ?_
        repeat (first | exact endA | refine wkP ?_ | refine opB (fun b => ?_) | refine opA (fun a' c' hc1 hc2 => ?_) | (apply GJ.and; exact rfl; intro hg) | (apply GJ.or; exact rfl; intro hg))
        refine CallOk.freeze (c := .sl ad _ _ _ _ _) Take.auto (fun ro3 hl3 hc3 => ?_)
        have hw := RgOk.many (k := 4) (i1.le hl3) (Rs.last hc3)
        refine node_ok (t := t) (s := s1) (k := 4) (z := zeroS) (a := ad) (m := l.length) (c := cp) (x := 0) (y := 0) (by omega) ?_
        repeat (first | exact endA | refine wkP ?_ | refine opB (fun b => ?_) | refine opA (fun a' c' hc1 hc2 => ?_) | (apply GJ.and; exact rfl; intro hg) | (apply GJ.or; exact rfl; intro hg))
        exact Wk.outS Sup.auto (p2 _) (hk ro3 _ ((hl1.trans hl2).trans hl3) hw)
    · have h124 := Decidable.of_not_not h124
      have hpp := peek_pos (t := t) (s := s1) (by omega)
      obtain ⟨h3, h4⟩ := i3 hpp.1
      obtain ⟨k, rfl⟩ : ∃ j, k = j + 1 := ⟨k - 1, by omega⟩
      rw [altL, if_pos h124] at i2
      rw [decide_eq_true h124, eatS, if_pos h124]
      have hia : Inv t s1.adv := i5.adv (by omega)
      have hin : Inv t (catD t (altD t d) s1.adv).2 := hia.cat (fun h _ => Inv.alt h)
      have hnn : NB (513 + 2 * d + 1) (catD t (altD t d) s1.adv).2 := NB.cat (t := t) (s := s1.adv) (by omega) (fun h0 hn => NB.alt h0 hn) ⟨fun _ => i6.n0 hpp.1, by have := i6.n0 hpp.1; show s1.n ≤ _; omega⟩
      have hmore := cat_more (t := t) (d := d) (s := s1.adv)
      have hap : s1.adv.p = s1.p + 1 := rfl
      repeat (first | exact endA | refine wkP ?_ | refine opB (fun b => ?_) | refine opA (fun a' c' hc1 hc2 => ?_) | (apply GJ.and; exact rfl; intro hg) | (apply GJ.or; exact rfl; intro hg))
      refine cat_ok (t := t) (s := s1.adv) ha hX (by omega) hia hpp.1 (i6.n0 hpp.1) hl (fun ro3 v hl3 hv => ?_)
      generalize (catD t (altD t d) s1.adv).1 = n at i2 hv
      generalize (catD t (altD t d) s1.adv).2 = s2 at i2 hin hnn hmore ⊢
      obtain ⟨a1, c1, hvc⟩ := hv.cells
      subst hvc
      repeat (first | exact endA | refine wkP ?_ | refine opB (fun b => ?_) | refine opA (fun a' c' hc1 hc2 => ?_) | (apply GJ.and; exact rfl; intro hg) | (apply GJ.or; exact rfl; intro hg))
      rw [show l.length + 1 = (l ++ [n]).length by simp] at hc1 ⊢
      repeat (first | exact endA | refine wkP ?_ | refine opB (fun b => ?_) | refine opA (fun a' c' hc1 hc2 => ?_) | (apply GJ.and; exact rfl; intro hg) | (apply GJ.or; exact rfl; intro hg))
      refine Wk.id ⟨(k, l ++ [n], cs ++ nodeV n.kind n.set a1 n.kids.length c1 n.min n.max, s2, a', c'), ?_, ?_, Sub.auto, Sup.auto⟩
      all_goals try dsimp only
      · refine ⟨RgsOk.snoc hv (i1.le hl3), i2, fun he => ?_, by simp; omega, hin, hnn, hc1, hc2⟩
        have := hmore he
        simp; omega
      · omega
end Go.Proofs.YtinbmhbfcoiefaaGreatDoor
end
section
/- Contracts of regex: Parse. -/
namespace Go.Proofs.YtinbmhbfcoiefaaGreatDoor
open Go Go.E
set_option linter.unusedVariables false
set_option linter.unusedSimpArgs false
set_option maxRecDepth 10000
def faultV (p : Nat × Nat) : List Value := [.int .i64 (p.1 : Int), .int .i64 (p.2 : Int)]
section
variable {ro : Ro} {own r : Chs} {K : Value → Ro → Chs → Prop} {g : Chunk → Chs} {q : Nat} {t : List UInt8}
set_option maxHeartbeats 8000000 in
theorem rparse_ok (hl : t.length ≤ 1000000) (hk : ∀ ro' v, Le ro ro' → RgOk ro' (parseD t).1 v → K (.tuple #[.agg v.toArray, .agg (faultV (parseD t).2).toArray]) ro' own) :
    CallOk Tryz.prog 24 #[str t] ro own K := by
  unfold parseD at hk
  by_cases h512 : 512 < t.length
  · rw [if_pos h512] at hk
    refine CallOk.intro (args := [_]) (rs := [_, _]) T_ok Tryz.func24 Tryz.call24 rfl rfl (by kernel_rfl) rfl rfl ?_
    repeat (first | exact endA | refine wkP ?_ | refine opB (fun b => ?_) | refine opA (fun a' c' hc1 hc2 => ?_) | (apply GJ.and; exact rfl; intro hg) | (apply GJ.or; exact rfl; intro hg))
    exact Wk.outS Sup.auto (.refl _) (hk ro _ (.refl _) (RgOk.leaf zeroS_in))
  · rw [if_neg h512] at hk
    have hi : Inv t ⟨0, 0, 0, 0⟩ := ⟨fun _ => Nat.zero_le _, Nat.zero_le _, Nat.zero_le _, .inl rfl⟩
    refine CallOk.intro (args := [_]) (rs := [_, _]) T_ok Tryz.func24 Tryz.call24 rfl rfl (by kernel_rfl) rfl rfl ?_
    repeat (first | exact endA | refine wkP ?_ | refine opB (fun b => ?_) | refine opA (fun a' c' hc1 hc2 => ?_) | (apply GJ.and; exact rfl; intro hg) | (apply GJ.or; exact rfl; intro hg))
    rename_i b2 b3
    obtain ⟨q, hq⟩ : ∃ z : Nat, z = b := ⟨_, rfl⟩
    subst hq
    have e1 : (.blk q 105 (Value.agg #[str t, .int .i64 0, .int .i64 0, .int .i64 0, .int .i64 0]).cells.toList : Chunk) = .blk q 105 (rsV t ⟨0, 0, 0, 0⟩) := rfl
    rw [e1]
    refine altC (t := t) (by omega) 33 (Nat.le_refl _) (s := ⟨0, 0, 0, 0⟩) inferInstance hi rfl (by decide) (fun ro1 v hl1 hv => ?_)
    have hia : Inv t (altD t 33 ⟨0, 0, 0, 0⟩).2 := Inv.alt hi
    generalize (altD t 33 ⟨0, 0, 0, 0⟩).1 = n at hk hv
    generalize (altD t 33 ⟨0, 0, 0, 0⟩).2 = s at hk hia ⊢
    obtain ⟨a1, c1, hvc⟩ := hv.cells
    subst hvc
    repeat (first | exact endA | refine wkP ?_ | refine opB (fun b => ?_) | refine opA (fun a' c' hc1 hc2 => ?_) | (apply GJ.and; exact rfl; intro hg) | (apply GJ.or; exact rfl; intro hg))
    refine rok_ok (t := t) (s := s) ?_
    have hbad : ∀ s2 : RS, s2.e ≠ 0 → endS t s = s2 → K (.tuple #[.agg (nodeV 0 zeroS none 0 0 0 0).toArray, .agg #[.int .i64 (s2.e : Int), .int .i64 (s2.f : Int)]]) ro1 own := fun s2 h2 h3 => by
      rw [h3, if_neg h2] at hk
      exact hk ro1 _ hl1 (RgOk.leaf zeroS_in)
    by_cases he : s.e = 0
    · rw [decide_eq_true (show (s.e : Int) = 0 by omega)]
      have hp := hia.p0 he
      by_cases hlt : s.p < t.length
      · have hE : endS t s = s.wrong 5 s.p := by unfold endS; rw [if_pos ⟨he, hlt⟩]
        have hb2 := hbad _ (wrong_ne (by decide)) hE
        have hne := wrong_ne (s := s) (e := 5) (f := s.p) (by decide)
        repeat (first | exact endA | refine wkP ?_ | refine opB (fun b => ?_) | refine opA (fun a' c' hc1 hc2 => ?_) | (apply GJ.and; exact rfl; intro hg) | (apply GJ.or; exact rfl; intro hg))
        refine rwrong_ok (t := t) (s := s) 5 s.p rfl rfl ?_
        generalize s.wrong 5 s.p = s2 at hb2 hne ⊢
        repeat (first | exact endA | refine wkP ?_ | refine opB (fun b => ?_) | refine opA (fun a' c' hc1 hc2 => ?_) | (apply GJ.and; exact rfl; intro hg) | (apply GJ.or; exact rfl; intro hg))
        refine rok_ok (t := t) (s := s2) ?_
        rw [decide_eq_false (show ¬ (s2.e : Int) = 0 by omega)]
        repeat (first | exact endA | refine wkP ?_ | refine opB (fun b => ?_) | refine opA (fun a' c' hc1 hc2 => ?_) | (apply GJ.and; exact rfl; intro hg) | (apply GJ.or; exact rfl; intro hg))
        exact Wk.outS Sup.auto (.refl _) hb2
      · have hE : endS t s = s := by unfold endS; rw [if_neg (fun x => hlt x.2)]
        rw [hE, if_pos he] at hk
        repeat (first | exact endA | refine wkP ?_ | refine opB (fun b => ?_) | refine opA (fun a' c' hc1 hc2 => ?_) | (apply GJ.and; exact rfl; intro hg) | (apply GJ.or; exact rfl; intro hg))
        refine rok_ok (t := t) (s := s) ?_
        rw [decide_eq_true (show (s.e : Int) = 0 by omega)]
        repeat (first | exact endA | refine wkP ?_ | refine opB (fun b => ?_) | refine opA (fun a' c' hc1 hc2 => ?_) | (apply GJ.and; exact rfl; intro hg) | (apply GJ.or; exact rfl; intro hg))
        exact Wk.outS Sup.auto (.refl _) (hk ro1 _ hl1 hv)
    · have hE : endS t s = s := end_keep he
      have hb2 := hbad _ he hE
      rw [decide_eq_false (show ¬ (s.e : Int) = 0 by omega)]
      repeat (first | exact endA | refine wkP ?_ | refine opB (fun b => ?_) | refine opA (fun a' c' hc1 hc2 => ?_) | (apply GJ.and; exact rfl; intro hg) | (apply GJ.or; exact rfl; intro hg))
      refine rok_ok (t := t) (s := s) ?_
      rw [decide_eq_false (show ¬ (s.e : Int) = 0 by omega)]
      repeat (first | exact endA | refine wkP ?_ | refine opB (fun b => ?_) | refine opA (fun a' c' hc1 hc2 => ?_) | (apply GJ.and; exact rfl; intro hg) | (apply GJ.or; exact rfl; intro hg))
      exact Wk.outS Sup.auto (.refl _) hb2
end
end Go.Proofs.YtinbmhbfcoiefaaGreatDoor
end
section
/- Contracts of regex: Check. -/
namespace Go.Proofs.YtinbmhbfcoiefaaGreatDoor
open Go Go.E
set_option linter.unusedVariables false
set_option linter.unusedSimpArgs false
set_option maxRecDepth 10000
mutual
theorem check_left : ∀ (n : RgD) (M : Int), (checkD n M).1 = 0 → 0 ≤ (checkD n M).2 ∧ (checkD n M).2 ≤ M - 1
  | .mk k s l a b, M, h => by
    rw [checkD] at h ⊢
    split at h
    · cases h
    · rename_i h1
      rw [if_neg h1]
      split at h
      · rename_i h2; exact absurd h h2
      · rename_i h2
        rw [if_neg h2]
        split at h
        · rename_i h3; rw [if_pos h3]; dsimp only; omega
        · rename_i h3
          rw [if_neg h3]
          have := checkK_left l (M - 1) (by omega) h
          omega
theorem checkK_left : ∀ (l : List RgD) (M : Int), 0 ≤ M → (checkK l M).1 = 0 → 0 ≤ (checkK l M).2 ∧ (checkK l M).2 ≤ M
  | [], M, h0, h => by rw [checkK]; exact ⟨h0, Int.le_refl _⟩
  | x :: r, M, h0, h => by
    rw [checkK] at h ⊢
    split at h
    · rename_i h1; exact absurd h h1
    · rename_i h1
      rw [if_neg h1]
      have h2 := check_left x M (Decidable.of_not_not h1)
      have := checkK_left r (checkD x M).2 h2.1 h
      omega
end

structure ChC (n : RgD) : Prop where
  run : ∀ {ro : Ro} {r : Chs} {K : Value → Ro → Chs → Prop} {p : Nat} {v : List Value} {M d : Int}, RgOk ro n v → 0 ≤ M → M ≤ 100000 → 0 ≤ d → d + M ≤ 512 → K (.int .i64 ((checkD n M).1 : Int)) ro (.blk p 3 [.int .i64 (checkD n M).2] :: r) →
    CallOk Tryz.prog 67 #[.agg v.toArray, .int .i64 d, ptr' p] ro (.blk p 3 [.int .i64 M] :: r) K
set_option maxHeartbeats 16000000 in
theorem chC : ∀ n, ChC n := RgD.ind fun k z l x y ih => ⟨fun {ro r K p v M d} hv hM hM2 hd hdm hk => by
  rw [RgOk] at hv
  obtain ⟨ad, cp, cs, rfl, hs, hrs, hks⟩ := hv
  have hle := hrs.le
  have hmx := hrs.max
  unfold maxLen at hmx
  rw [checkD] at hk
  by_cases h0 : M - 1 < 0
  · rw [if_pos h0] at hk
    refine CallOk.intro (args := [_, _, _]) (rs := [_]) T_ok Tryz.func67 Tryz.call67 rfl rfl (by kernel_rfl) rfl rfl ?_
    repeat (first | exact endA | refine wkP ?_ | refine opB (fun b => ?_) | refine opA (fun a' c' hc1 hc2 => ?_) | (apply GJ.and; exact rfl; intro hg) | (apply GJ.or; exact rfl; intro hg))
    exact Wk.outS Sup.auto (.refl _) hk
  rw [if_neg h0] at hk
  have hformD : formD (.mk k z l x y) = (if k = 1 ∨ k = 2 then (if l ≠ [] then 5 else if k = 2 ∧ z = zeroS then 160 else 0) else if k = 3 ∨ k = 4 then (if l.length < 2 then 5 else 0)
    else if k = 5 then (if l.length ≠ 1 then 5 else if x < 0 ∨ 256 < x ∨ 256 < y ∨ (0 ≤ y ∧ y < x) then 1 else 0) else 5) := rfl
  have hbad : ∀ e : Nat, formD (.mk k z l x y) = e → e ≠ 0 → K (.int .i64 (e : Int)) ro (.blk p 3 [.int .i64 (M - 1)] :: r) := fun e h1 h2 => by
    rw [h1, if_pos h2] at hk; exact hk
  have hgood : formD (.mk k z l x y) = 0 → K (.int .i64 ((checkK l (M - 1)).1 : Int)) ro (.blk p 3 [.int .i64 (checkK l (M - 1)).2] :: r) := fun h1 => by
    rw [h1, if_neg (by decide)] at hk
    by_cases h12 : k = 1 ∨ k = 2
    · rw [if_pos h12] at hk
      have : l = [] := by
        by_cases hl : l = []
        · exact hl
        · rw [hformD, if_pos h12, if_pos hl] at h1; cases h1
      subst this
      rw [checkK]; exact hk
    · rw [if_neg h12] at hk; exact hk
  clear hk
  have hle0 : l ≠ [] ↔ 0 < l.length := List.length_pos_iff.symm
  by_cases h1 : k = 1
  · subst h1
    rw [if_pos (.inl rfl)] at hformD
    by_cases hl0 : l ≠ []
    · rw [if_pos hl0] at hformD
      have hk := hbad _ hformD (by decide)
      have := hle0.1 hl0
      refine CallOk.intro (args := [_, _, _]) (rs := [_]) T_ok Tryz.func67 Tryz.call67 rfl rfl (by kernel_rfl) rfl rfl ?_
      repeat (first | exact endA | refine wkP ?_ | refine opB (fun b => ?_) | refine opA (fun a' c' hc1 hc2 => ?_) | (apply GJ.and; exact rfl; intro hg) | (apply GJ.or; exact rfl; intro hg))
      exact Wk.outS Sup.auto (.refl _) hk
    · rw [if_neg hl0, if_neg (fun x => absurd x.1 (by decide))] at hformD
      have hk := hgood hformD
      have hl0 : ¬ 0 < l.length := fun h => hl0 (hle0.2 h)
      refine CallOk.intro (args := [_, _, _]) (rs := [_]) T_ok Tryz.func67 Tryz.call67 rfl rfl (by kernel_rfl) rfl rfl ?_
      repeat (first | exact endA | refine wkP ?_ | refine opB (fun b => ?_) | refine opA (fun a' c' hc1 hc2 => ?_) | (apply GJ.and; exact rfl; intro hg) | (apply GJ.or; exact rfl; intro hg))
      refine LoopOk.at (ι := Nat × Int) Keep.auto (fun (i, Mi) => [(75, .int .i64 (i : Int))]) (fun (i, Mi) => .blk p 3 [.int .i64 Mi] :: r) (fun (i, Mi) => i ≤ l.length ∧ checkK l (M - 1) = checkK (l.drop i) Mi) (fun (i, Mi) => l.length - i) (0, M - 1) ?_ Sub.auto Sup.auto ?_
      · exact ⟨Nat.zero_le _, by simp⟩
      rintro ⟨i, Mi⟩ ⟨i1, i4⟩
      dsimp only [List.cons_append, List.nil_append] at i1 i4 ⊢
      obtain rfl : i = l.length := by omega
      rw [List.drop_length, checkK] at i4
      rw [i4] at hk
      repeat (first | exact endA | refine wkP ?_ | refine opB (fun b => ?_) | refine opA (fun a' c' hc1 hc2 => ?_) | (apply GJ.and; exact rfl; intro hg) | (apply GJ.or; exact rfl; intro hg))
      exact Wk.outS Sup.auto (.refl _) hk
  by_cases h2 : k = 2
  · subst h2
    rw [if_pos (.inr rfl)] at hformD
    by_cases hl0 : l ≠ []
    · rw [if_pos hl0] at hformD
      have hk := hbad _ hformD (by decide)
      have := hle0.1 hl0
      refine CallOk.intro (args := [_, _, _]) (rs := [_]) T_ok Tryz.func67 Tryz.call67 rfl rfl (by kernel_rfl) rfl rfl ?_
      repeat (first | exact endA | refine wkP ?_ | refine opB (fun b => ?_) | refine opA (fun a' c' hc1 hc2 => ?_) | (apply GJ.and; exact rfl; intro hg) | (apply GJ.or; exact rfl; intro hg))
      exact Wk.outS Sup.auto (.refl _) hk
    · rw [if_neg hl0] at hformD
      have hl0' : ¬ 0 < l.length := fun h => hl0 (hle0.2 h)
      by_cases hz : z = zeroS
      · rw [if_pos ⟨rfl, hz⟩] at hformD
        have hk := hbad _ hformD (by decide)
        refine CallOk.intro (args := [_, _, _]) (rs := [_]) T_ok Tryz.func67 Tryz.call67 rfl rfl (by kernel_rfl) rfl rfl ?_
        repeat (first | exact endA | refine wkP ?_ | refine opB (fun b => ?_) | refine opA (fun a' c' hc1 hc2 => ?_) | (apply GJ.and; exact rfl; intro hg) | (apply GJ.or; exact rfl; intro hg))
        refine check_ok ?_
        rw [if_pos (show z = ⟨0, 0, 0, 0⟩ from hz)]
        repeat (first | exact endA | refine wkP ?_ | refine opB (fun b => ?_) | refine opA (fun a' c' hc1 hc2 => ?_) | (apply GJ.and; exact rfl; intro hg) | (apply GJ.or; exact rfl; intro hg))
        exact Wk.outS Sup.auto (.refl _) hk
      · rw [if_neg (fun x => hz x.2)] at hformD
        have hk := hgood hformD
        have hl0 := Decidable.of_not_not hl0
        rw [hl0, checkK] at hk
        refine CallOk.intro (args := [_, _, _]) (rs := [_]) T_ok Tryz.func67 Tryz.call67 rfl rfl (by kernel_rfl) rfl rfl ?_
        repeat (first | exact endA | refine wkP ?_ | refine opB (fun b => ?_) | refine opA (fun a' c' hc1 hc2 => ?_) | (apply GJ.and; exact rfl; intro hg) | (apply GJ.or; exact rfl; intro hg))
        refine check_ok ?_
        rw [if_neg (show ¬ z = ⟨0, 0, 0, 0⟩ from hz)]
        repeat (first | exact endA | refine wkP ?_ | refine opB (fun b => ?_) | refine opA (fun a' c' hc1 hc2 => ?_) | (apply GJ.and; exact rfl; intro hg) | (apply GJ.or; exact rfl; intro hg))
        exact Wk.outS Sup.auto (.refl _) hk
  rw [if_neg (by omega)] at hformD
  by_cases h34 : k = 3 ∨ k = 4
  · rw [if_pos h34] at hformD
    by_cases hl2 : l.length < 2
    · rw [if_pos hl2] at hformD
      have hk := hbad _ hformD (by decide)
      rcases h34 with rfl | rfl
      all_goals
        refine CallOk.intro (args := [_, _, _]) (rs := [_]) T_ok Tryz.func67 Tryz.call67 rfl rfl (by kernel_rfl) rfl rfl ?_
        repeat (first | exact endA | refine wkP ?_ | refine opB (fun b => ?_) | refine opA (fun a' c' hc1 hc2 => ?_) | (apply GJ.and; exact rfl; intro hg) | (apply GJ.or; exact rfl; intro hg))
        exact Wk.outS Sup.auto (.refl _) hk
    · rw [if_neg hl2] at hformD
      have hk := hgood hformD
      rcases h34 with rfl | rfl
      all_goals
        refine CallOk.intro (args := [_, _, _]) (rs := [_]) T_ok Tryz.func67 Tryz.call67 rfl rfl (by kernel_rfl) rfl rfl ?_
        repeat (first | exact endA | refine wkP ?_ | refine opB (fun b => ?_) | refine opA (fun a' c' hc1 hc2 => ?_) | (apply GJ.and; exact rfl; intro hg) | (apply GJ.or; exact rfl; intro hg))
        refine LoopOk.at (ι := Nat × Int) Keep.auto (fun (i, Mi) => [(75, .int .i64 (i : Int))]) (fun (i, Mi) => .blk p 3 [.int .i64 Mi] :: r) (fun (i, Mi) => i ≤ l.length ∧ 0 ≤ Mi ∧ Mi ≤ M - 1 ∧ checkK l (M - 1) = checkK (l.drop i) Mi) (fun (i, Mi) => l.length - i) (0, M - 1) ?_ Sub.auto Sup.auto ?_
        · exact ⟨Nat.zero_le _, by omega, Int.le_refl _, by simp⟩
        rintro ⟨i, Mi⟩ ⟨i1, i2, i3, i4⟩
        dsimp only [List.cons_append, List.nil_append] at i1 i2 i3 i4 ⊢
        by_cases hi : i < l.length
        · obtain ⟨kd, hkd⟩ : ∃ kd, l[i]? = some kd := ⟨_, List.getElem?_eq_getElem hi⟩
          have hvv := hks.get hkd
          obtain ⟨ak, ck, hvk⟩ := hvv.cells
          rw [hvk] at hvv
          have hdr : l.drop i = kd :: l.drop (i + 1) := by
            rw [List.drop_eq_getElem_cons hi]
            congr 1
            rw [List.getElem?_eq_getElem hi] at hkd
            exact Option.some.inj hkd
          rw [hdr, checkK] at i4
          have hleft := check_left kd Mi
          repeat (first | exact endA | refine wkP ?_ | refine opB (fun b => ?_) | refine opA (fun a' c' hc1 hc2 => ?_) | (apply GJ.and; exact rfl; intro hg) | (apply GJ.or; exact rfl; intro hg))
          rw [Int.toNat_natCast]
          refine OpOk.loadRow rfl rfl (LdN.at hrs hvk) rfl ?_
          repeat (first | exact endA | refine wkP ?_ | refine opB (fun b => ?_) | refine opA (fun a' c' hc1 hc2 => ?_) | (apply GJ.and; exact rfl; intro hg) | (apply GJ.or; exact rfl; intro hg))
          refine CallOk.sup (own0 := .blk p 3 [.int .i64 Mi] :: r) Sup.auto ?_
          refine (ih kd (List.mem_of_getElem? hkd)).run hvv i2 (by omega) (by omega) (by omega) ?_
          generalize checkD kd Mi = R at i4 hleft ⊢
          obtain ⟨R1, R2⟩ := R
          dsimp only at i4 hleft ⊢
          by_cases hz : R1 = 0
          · rw [if_neg (by omega)] at i4
            obtain ⟨h5, h6⟩ := hleft hz
            subst hz
            repeat (first | exact endA | refine wkP ?_ | refine opB (fun b => ?_) | refine opA (fun a' c' hc1 hc2 => ?_) | (apply GJ.and; exact rfl; intro hg) | (apply GJ.or; exact rfl; intro hg))
            refine Wk.id ⟨(i + 1, R2), ⟨rfl, ?_⟩, ?_, Sub.auto, Sup.auto⟩
            all_goals try dsimp only
            · exact ⟨by omega, h5, by omega, i4⟩
            · omega
          · rw [if_pos hz] at i4
            rw [i4] at hk
            repeat (first | exact endA | refine wkP ?_ | refine opB (fun b => ?_) | refine opA (fun a' c' hc1 hc2 => ?_) | (apply GJ.and; exact rfl; intro hg) | (apply GJ.or; exact rfl; intro hg))
            exact Wk.outS Sup.auto (.refl _) hk
        · obtain rfl : i = l.length := by omega
          rw [List.drop_length, checkK] at i4
          rw [i4] at hk
          repeat (first | exact endA | refine wkP ?_ | refine opB (fun b => ?_) | refine opA (fun a' c' hc1 hc2 => ?_) | (apply GJ.and; exact rfl; intro hg) | (apply GJ.or; exact rfl; intro hg))
          exact Wk.outS Sup.auto (.refl _) hk
  rw [if_neg h34] at hformD
  by_cases h5 : k = 5
  · subst h5
    rw [if_pos rfl] at hformD
    by_cases hl1 : l.length ≠ 1
    · rw [if_pos hl1] at hformD
      have hk := hbad _ hformD (by decide)
      refine CallOk.intro (args := [_, _, _]) (rs := [_]) T_ok Tryz.func67 Tryz.call67 rfl rfl (by kernel_rfl) rfl rfl ?_
      repeat (first | exact endA | refine wkP ?_ | refine opB (fun b => ?_) | refine opA (fun a' c' hc1 hc2 => ?_) | (apply GJ.and; exact rfl; intro hg) | (apply GJ.or; exact rfl; intro hg))
      exact Wk.outS Sup.auto (.refl _) hk
    · rw [if_neg hl1] at hformD
      by_cases hb : x < 0 ∨ 256 < x ∨ 256 < y ∨ (0 ≤ y ∧ y < x)
      · rw [if_pos hb] at hformD
        have hk := hbad _ hformD (by decide)
        rcases hb with hb | hb | hb | hb
        all_goals
          refine CallOk.intro (args := [_, _, _]) (rs := [_]) T_ok Tryz.func67 Tryz.call67 rfl rfl (by kernel_rfl) rfl rfl ?_
          repeat (first | exact endA | refine wkP ?_ | refine opB (fun b => ?_) | refine opA (fun a' c' hc1 hc2 => ?_) | (apply GJ.and; exact rfl; intro hg) | (apply GJ.or; exact rfl; intro hg))
          exact Wk.outS Sup.auto (.refl _) hk
      · rw [if_neg hb] at hformD
        have hk := hgood hformD
        refine CallOk.intro (args := [_, _, _]) (rs := [_]) T_ok Tryz.func67 Tryz.call67 rfl rfl (by kernel_rfl) rfl rfl ?_
        repeat (first | exact endA | refine wkP ?_ | refine opB (fun b => ?_) | refine opA (fun a' c' hc1 hc2 => ?_) | (apply GJ.and; exact rfl; intro hg) | (apply GJ.or; exact rfl; intro hg))
        refine LoopOk.at (ι := Nat × Int) Keep.auto (fun (i, Mi) => [(75, .int .i64 (i : Int))]) (fun (i, Mi) => .blk p 3 [.int .i64 Mi] :: r) (fun (i, Mi) => i ≤ l.length ∧ 0 ≤ Mi ∧ Mi ≤ M - 1 ∧ checkK l (M - 1) = checkK (l.drop i) Mi) (fun (i, Mi) => l.length - i) (0, M - 1) ?_ Sub.auto Sup.auto ?_
        · exact ⟨Nat.zero_le _, by omega, Int.le_refl _, by simp⟩
        rintro ⟨i, Mi⟩ ⟨i1, i2, i3, i4⟩
        dsimp only [List.cons_append, List.nil_append] at i1 i2 i3 i4 ⊢
        by_cases hi : i < l.length
        · obtain ⟨kd, hkd⟩ : ∃ kd, l[i]? = some kd := ⟨_, List.getElem?_eq_getElem hi⟩
          have hvv := hks.get hkd
          obtain ⟨ak, ck, hvk⟩ := hvv.cells
          rw [hvk] at hvv
          have hdr : l.drop i = kd :: l.drop (i + 1) := by
            rw [List.drop_eq_getElem_cons hi]
            congr 1
            rw [List.getElem?_eq_getElem hi] at hkd
            exact Option.some.inj hkd
          rw [hdr, checkK] at i4
          have hleft := check_left kd Mi
          repeat (first | exact endA | refine wkP ?_ | refine opB (fun b => ?_) | refine opA (fun a' c' hc1 hc2 => ?_) | (apply GJ.and; exact rfl; intro hg) | (apply GJ.or; exact rfl; intro hg))
          rw [Int.toNat_natCast]
          refine OpOk.loadRow rfl rfl (LdN.at hrs hvk) rfl ?_
          repeat (first | exact endA | refine wkP ?_ | refine opB (fun b => ?_) | refine opA (fun a' c' hc1 hc2 => ?_) | (apply GJ.and; exact rfl; intro hg) | (apply GJ.or; exact rfl; intro hg))
          refine CallOk.sup (own0 := .blk p 3 [.int .i64 Mi] :: r) Sup.auto ?_
          refine (ih kd (List.mem_of_getElem? hkd)).run hvv i2 (by omega) (by omega) (by omega) ?_
          generalize checkD kd Mi = R at i4 hleft ⊢
          obtain ⟨R1, R2⟩ := R
          dsimp only at i4 hleft ⊢
          by_cases hz : R1 = 0
          · rw [if_neg (by omega)] at i4
            obtain ⟨h5, h6⟩ := hleft hz
            subst hz
            repeat (first | exact endA | refine wkP ?_ | refine opB (fun b => ?_) | refine opA (fun a' c' hc1 hc2 => ?_) | (apply GJ.and; exact rfl; intro hg) | (apply GJ.or; exact rfl; intro hg))
            refine Wk.id ⟨(i + 1, R2), ⟨rfl, ?_⟩, ?_, Sub.auto, Sup.auto⟩
            all_goals try dsimp only
            · exact ⟨by omega, h5, by omega, i4⟩
            · omega
          · rw [if_pos hz] at i4
            rw [i4] at hk
            repeat (first | exact endA | refine wkP ?_ | refine opB (fun b => ?_) | refine opA (fun a' c' hc1 hc2 => ?_) | (apply GJ.and; exact rfl; intro hg) | (apply GJ.or; exact rfl; intro hg))
            exact Wk.outS Sup.auto (.refl _) hk
        · obtain rfl : i = l.length := by omega
          rw [List.drop_length, checkK] at i4
          rw [i4] at hk
          repeat (first | exact endA | refine wkP ?_ | refine opB (fun b => ?_) | refine opA (fun a' c' hc1 hc2 => ?_) | (apply GJ.and; exact rfl; intro hg) | (apply GJ.or; exact rfl; intro hg))
          exact Wk.outS Sup.auto (.refl _) hk
  · rw [if_neg h5] at hformD
    have hk := hbad _ hformD (by decide)
    refine CallOk.intro (args := [_, _, _]) (rs := [_]) T_ok Tryz.func67 Tryz.call67 rfl rfl (by kernel_rfl) rfl rfl ?_
    repeat (first | exact endA | refine wkP ?_ | refine opB (fun b => ?_) | refine opA (fun a' c' hc1 hc2 => ?_) | (apply GJ.and; exact rfl; intro hg) | (apply GJ.or; exact rfl; intro hg))
    exact Wk.outS Sup.auto (.refl _) hk⟩
end Go.Proofs.YtinbmhbfcoiefaaGreatDoor
end
section
/- Contracts of regex: Check (without Text). -/
namespace Go.Proofs.YtinbmhbfcoiefaaGreatDoor
open Go Go.E
set_option linter.unusedVariables false
set_option linter.unusedSimpArgs false
set_option maxRecDepth 10000
section
variable {ro : Ro} {own r : Chs} {K : Value → Ro → Chs → Prop} {g : Chunk → Chs}
theorem rcheck_ok {n : RgD} {v : List Value} (hv : RgOk ro n v) (hk : K (.int .i64 ((checkD n 512).1 : Int)) ro own) : CallOk Tryz.prog 43 #[.agg v.toArray] ro own K := by
  obtain ⟨a1, c1, hvc⟩ := hv.cells
  rw [hvc] at hv ⊢
  refine CallOk.intro (args := [_]) (rs := [_]) T_ok Tryz.func43 Tryz.call43 rfl rfl (by kernel_rfl) rfl rfl ?_
  repeat (first | exact endA | refine wkP ?_ | refine opB (fun b => ?_) | refine opA (fun a' c' hc1 hc2 => ?_) | (apply GJ.and; exact rfl; intro hg) | (apply GJ.or; exact rfl; intro hg))
  refine CallOk.sup (own0 := .blk b 3 [.int .i64 512] :: own) Sup.auto ?_
  refine (chC n).run hv (by decide) (by decide) (by decide) (by decide) ?_
  repeat (first | exact endA | refine wkP ?_ | refine opB (fun b => ?_) | refine opA (fun a' c' hc1 hc2 => ?_) | (apply GJ.and; exact rfl; intro hg) | (apply GJ.or; exact rfl; intro hg))
  exact Wk.outS Sup.auto (.refl _) hk
end
end Go.Proofs.YtinbmhbfcoiefaaGreatDoor
end
section
/- Contracts of nfa: Make. -/
namespace Go.E
open Go
theorem Sup.app {l l' : Chs} : ∀ (G : Chs), Sup l l' → Sup (G ++ l) l'
  | [], h => h
  | c :: G, h => Sup.drop _ (Sup.app G h)
theorem Wk.freezeL {k : Kt} {env : Env} : ∀ {l : Chs} {own rest : Chs} {ro : Ro}, own.Perm (l ++ rest) → (∀ ro', Le ro ro' → (∀ c ∈ l, c.holds ro') → Wk k env ro' rest) → Wk k env ro own
  | [], ow, rest, ro, hp, h => .perm hp (h ro (Le.refl _) (by simp))
  | c :: l, ow, rest, ro, hp, h => by
    refine .perm hp (.freeze (c := c) (own' := l ++ rest) (.hit _ _) (fun r1 h1 h2 => ?_))
    refine Wk.freezeL (.refl _) (fun r2 h3 h4 => h r2 (h1.trans h3) (fun d hd => ?_))
    simp at hd
    rcases hd with rfl | hd
    · exact h2.le h3
    · exact h4 d hd
end Go.E
namespace Go.Proofs.YtinbmhbfcoiefaaGreatDoor
open Go Go.E
set_option linter.unusedVariables false
set_option linter.unusedSimpArgs false
set_option maxRecDepth 10000
/-- How an automaton lies in memory. -/
structure RowsOk (ro : Ro) (R : RowsN) (hs : List Value) : Prop where
  len : hs.length = R.length
  row : ∀ (i : Nat) (row : List EdgeD), R[i]? = some row → ∃ (ad : Option Addr) (cp : Nat), hs[i]? = some (Value.slice ad row.length cp) ∧ Rs ro ad row.length cp 6 (edgesV row)
def AutoOk (ro : Ro) (a : NfaD) (v : List Value) : Prop :=
  ∃ (ad : Option Addr) (cp : Nat) (hs : List Value), v = [Value.slice ad a.rows.length cp, .int .i64 a.last] ∧ Rs ro ad a.rows.length cp 1 hs ∧ RowsOk ro a.rows hs
theorem AutoOk.nil (ro : Ro) : AutoOk ro nilN [Value.slice none 0 0, .int .i64 0] := ⟨none, 0, [], rfl, Rs.nil _ _, rfl, fun i row h => by simp [nilN] at h⟩
theorem RowsOk.ofM {ro : Ro} {R : List RowM} (h : ∀ c ∈ R.map rowC, c.holds ro) : RowsOk ro (rowsOf R) (R.map hdrV) :=
  ⟨by simp [rowsOf], fun i row hr => by
    unfold rowsOf at hr
    rw [List.getElem?_map] at hr
    cases hx : R[i]? with
    | none => rw [hx] at hr; cases hr
    | some x =>
      rw [hx] at hr
      cases hr
      refine ⟨x.1.1, x.1.2, by rw [List.getElem?_map, hx]; rfl, Rs.last (h _ (List.mem_map.2 ⟨x, List.mem_of_getElem? hx, rfl⟩))⟩⟩
theorem mk_rows (q : Nat) (a : Option Addr) (c : Nat) (e : Int) (full : Bool) (R : List RowM) (r : Chs) : (mkC q a c e full R r).Perm ((.sl a R.length c 147 1 (R.map hdrV) :: R.map rowC) ++ (.blk q 111 [.slice a R.length c, .int .i64 e, .bool full] :: r)) := by
  unfold mkC
  refine (List.Perm.swap _ _ _).trans ?_
  rw [List.cons_append]
  refine List.Perm.cons _ ?_
  exact List.perm_middle.symm
mutual
theorem check_zero : ∀ (n : RgD) (M : Int), (checkD n M).1 = 0 → wrongD n = 0 ∧ (sizeD n : Int) ≤ M ∧ (checkD n M).2 = M - sizeD n
  | .mk k s l a b, M, h => by
    rw [checkD] at h ⊢
    split at h
    · cases h
    rename_i h0
    rw [if_neg h0]
    split at h
    · rename_i h1; exact absurd h h1
    rename_i h1
    rw [if_neg h1]
    have h1 : formD (.mk k s l a b) = 0 := by simpa using h1
    rw [wrongD, if_neg (by rw [h1]; decide), sizeD]
    split at h
    · rename_i h2
      rw [if_pos h2]
      have hl : l = [] := by
        cases form_cases h1 with
        | none => rfl
        | one => rfl
        | cat => exact absurd h2 (by decide)
        | alt => exact absurd h2 (by decide)
        | rep => exact absurd h2 (by decide)
      subst hl
      rw [wrongK, sizeK]
      exact ⟨rfl, by omega, by dsimp only; omega⟩
    · rename_i h2
      rw [if_neg h2]
      obtain ⟨h3, h4, h5⟩ := checkK_zero l (M - 1) (by omega) h
      exact ⟨h3, by omega, by omega⟩
theorem checkK_zero : ∀ (l : List RgD) (M : Int), 0 ≤ M → (checkK l M).1 = 0 → wrongK l = 0 ∧ (sizeK l : Int) ≤ M ∧ (checkK l M).2 = M - sizeK l
  | [], M, hM, _ => by rw [checkK, wrongK, sizeK]; exact ⟨rfl, by omega, by simp⟩
  | x :: r, M, hM, h => by
    rw [checkK] at h ⊢
    split at h
    · rename_i h1; exact absurd h h1
    rename_i h1
    rw [if_neg h1]
    obtain ⟨h3, h4, h5⟩ := check_zero x M (by simpa using h1)
    obtain ⟨h6, h7, h8⟩ := checkK_zero r _ (by omega) h
    rw [wrongK, if_neg (by rw [h3]; decide), sizeK]
    exact ⟨h6, by omega, by omega⟩
end

section
variable {ro : Ro} {own r : Chs} {K : Value → Ro → Chs → Prop} {g : Chunk → Chs}
theorem bud_st0 {n : RgD} (h : (checkD n 512).1 = 0) : budN st0 + 4 * sizeD n ≤ 900000 := by
  have := (check_zero n 512 h).2.1
  have h0 : budN st0 = 4 * 4095 := by decide
  omega
set_option maxHeartbeats 4000000 in
theorem nmake_ok {n : RgD} {v : List Value} (hv : RgOk ro n v) 
    (hk : ∀ ro' v', Le ro ro' → AutoOk ro' (makeN n).2 v' → K (.tuple #[.agg v'.toArray, .int .i64 ((makeN n).1 : Int)]) ro' own) :
    CallOk Tryz.prog 25 #[.agg v.toArray] ro own K := by
  obtain ⟨a1, c1, hvc⟩ := hv.cells
  rw [hvc] at hv ⊢
  unfold makeN at hk
  refine CallOk.intro (args := [_]) (rs := [_, _]) T_ok Tryz.func25 Tryz.call25 rfl rfl (by kernel_rfl) rfl rfl ?_
  repeat (first | exact endA | refine wkP ?_ | refine opB (fun b => ?_) | refine opA (fun a' c' hc1 hc2 => ?_) | (apply GJ.and; exact rfl; intro hg) | (apply GJ.or; exact rfl; intro hg))
  obtain ⟨bX, hbX⟩ : ∃ z : Nat, z = b := ⟨_, rfl⟩
  subst hbX
  refine rcheck_ok hv ?_
  by_cases hc : (checkD n 512).1 = 0
  · rw [if_neg (by rw [hc]; decide)] at hk
    rw [hc]
    have hw := (check_zero n 512 hc).1
    have hbs := bud_st0 hc
    have m := made_node n hw 0 st0 st0_ok (by decide)
    have e0 : stateN (stM [] false) = (0, st0) := rfl
    repeat (first | exact endA | refine wkP ?_ | refine opB (fun b => ?_) | refine opA (fun a' c' hc1 hc2 => ?_) | (apply GJ.and; exact rfl; intro hg) | (apply GJ.or; exact rfl; intro hg))
    obtain ⟨bM, hbM⟩ : ∃ z : Nat, z = b := ⟨_, rfl⟩
    subst hbM
    obtain ⟨bN, hbN⟩ : ∃ z : Nat, z = b := ⟨_, rfl⟩
    refine CallOk.sup (own0 := .sl none 0 0 147 1 [] :: .blk bM 111 [.slice none 0 0, .int .i64 0, .bool false] :: .blk bX 68 [.slice none 0 0, .int .i64 0] :: .blk b 26 (nodeV n.kind n.set a1 n.kids.length c1 n.min n.max) :: own) (Sup.nilc (Sup.all _)) ?_
    refine CallOk.perm (List.Perm.swap _ _ _) ?_
    refine nstate_ok (R := []) (full := false) (a := none) (c := 0) (e := 0) (r := .blk bX 68 [.slice none 0 0, .int .i64 0] :: .blk b 26 (nodeV n.kind n.set a1 n.kids.length c1 n.min n.max) :: own) (by decide) (fun a2 c2 R2 h2 => ?_)
    have e1 : stateN ⟨rowsOf [], false⟩ = (0, st0) := rfl
    rw [e1] at h2 ⊢
    have h2 : stM R2 st0.full = st0 := stM_eq h2
    have f2 : st0.full = false := rfl
    rw [f2] at h2
    have l2 : R2.length = st0.rows.length := by rw [← h2, stM_len]
    rw [f2]
    dsimp only
    repeat (first | exact endA | refine wkP ?_ | refine opB (fun b => ?_) | refine opA (fun a' c' hc1 hc2 => ?_) | (apply GJ.and; exact rfl; intro hg) | (apply GJ.or; exact rfl; intro hg))
    refine (nodeC n).run hv hw (by rw [h2]; exact st0_ok) (by rw [l2]; decide) (.inr (by rw [h2]; exact hbs)) (fun a3 c3 R3 h3 => ?_)
    rw [h2] at h3 ⊢
    generalize nodeN n 0 st0 = p at *
    obtain ⟨p1, p2, pf⟩ := p
    dsimp only at *
    cases pf with
    | true =>
      rw [if_pos rfl] at hk
      repeat (first | exact endA | refine wkP ?_ | refine opB (fun b => ?_) | refine opA (fun a' c' hc1 hc2 => ?_) | (apply GJ.and; exact rfl; intro hg) | (apply GJ.or; exact rfl; intro hg))
      exact Wk.outS (Sup.drop _ (Sup.drop _ (Sup.app _ (Sup.drop _ (Sup.drop _ (Sup.all _)))))) (.refl _) (hk ro _ (Le.refl _) (AutoOk.nil _))
    | false =>
      rw [if_neg (by decide)] at hk
      unfold mkC
      repeat (first | exact endA | refine wkP ?_ | refine opB (fun b => ?_) | refine opA (fun a' c' hc1 hc2 => ?_) | (apply GJ.and; exact rfl; intro hg) | (apply GJ.or; exact rfl; intro hg))
      refine Wk.freezeL (mk_rows _ _ _ _ _ _ _) (fun ro2 hl2 hc2 => ?_)
      have hr2 := RowsOk.ofM (R := R3) (fun c hc => hc2 c (List.mem_cons_of_mem _ hc))
      have hs2 := Rs.last (hc2 _ (List.mem_cons_self ..))
      have e3 : R3.length = p2.length := by rw [← h3]; simp [rowsOf]
      rw [h3] at hr2
      rw [e3] at hs2 ⊢
      exact Wk.outS Sup.auto (.refl _) (hk ro2 _ hl2 ⟨_, _, _, rfl, hs2, hr2⟩)
  · rw [if_pos hc] at hk
    repeat (first | exact endA | refine wkP ?_ | refine opB (fun b => ?_) | refine opA (fun a' c' hc1 hc2 => ?_) | (apply GJ.and; exact rfl; intro hg) | (apply GJ.or; exact rfl; intro hg))
    exact Wk.outS Sup.auto (.refl _) (hk ro _ (Le.refl _) (AutoOk.nil _))
end
end Go.Proofs.YtinbmhbfcoiefaaGreatDoor
end
section
/- slices.Sort of ints, off the shelf. -/
namespace Go.Proofs
open Go.Shelf
def Tryz.laysSort_ren : Go.Shelf.Ren := ⟨fun | 189 => 88 | 125 => 97 | 257 => 96 | 128 => 119 | 129 => 120 | 294 => 110 | 295 => 111 | 296 => 112 | 297 => 113 | 298 => 114 | 299 => 115 | 216 => 116 | 300 => 117 | 301 => 118 | 328 => 134 | 329 => 135 | 330 => 136 | 331 => 137 | 332 => 138 | 215 => 139 | 343 => 143 | n => n, fun | 28 => 50 | 3 => 3 | 46 => 149 | 0 => 0 | 51 => 82 | 53 => 22 | 4 => 4 | 183 => 178 | 182 => 177 | 131 => 78 | 5 => 5 | 9 => 9 | 218 => 194 | 222 => 52 | 228 => 201 | 229 => 58 | n => n, fun n => n⟩
theorem Tryz.laysSort : Go.Proofs.Lays.n189 Tryz.prog Tryz.laysSort_ren := {
  mixed := by kernel_rfl
  f125 := Tryz.func97.trans (congrArg some (by kernel_rfl))
  f128 := Tryz.func119.trans (congrArg some (by kernel_rfl))
  f129 := Tryz.func120.trans (congrArg some (by kernel_rfl))
  f189 := Tryz.func88.trans (congrArg some (by kernel_rfl))
  f215 := Tryz.func139.trans (congrArg some (by kernel_rfl))
  f216 := Tryz.func116.trans (congrArg some (by kernel_rfl))
  f257 := Tryz.func96.trans (congrArg some (by kernel_rfl))
  f294 := Tryz.func110.trans (congrArg some (by kernel_rfl))
  f295 := Tryz.func111.trans (congrArg some (by kernel_rfl))
  f296 := Tryz.func112.trans (congrArg some (by kernel_rfl))
  f297 := Tryz.func113.trans (congrArg some (by kernel_rfl))
  f298 := Tryz.func114.trans (congrArg some (by kernel_rfl))
  f299 := Tryz.func115.trans (congrArg some (by kernel_rfl))
  f300 := Tryz.func117.trans (congrArg some (by kernel_rfl))
  f301 := Tryz.func118.trans (congrArg some (by kernel_rfl))
  f328 := Tryz.func134.trans (congrArg some (by kernel_rfl))
  f329 := Tryz.func135.trans (congrArg some (by kernel_rfl))
  f330 := Tryz.func136.trans (congrArg some (by kernel_rfl))
  f331 := Tryz.func137.trans (congrArg some (by kernel_rfl))
  f332 := Tryz.func138.trans (congrArg some (by kernel_rfl))
  f343 := Tryz.func143.trans (congrArg some (by kernel_rfl))
  t0 := Tryz.underlying0
  a0 := Tryz.isAgg0
  z0 := Tryz.sizeOf0
  v0 := Tryz.zeroValue0
  t3 := Tryz.underlying3
  a3 := Tryz.isAgg3
  z3 := Tryz.sizeOf3
  v3 := Tryz.zeroValue3
  t4 := Tryz.underlying4
  a4 := Tryz.isAgg4
  z4 := Tryz.sizeOf4
  v4 := Tryz.zeroValue4
  t5 := Tryz.underlying5
  a5 := Tryz.isAgg5
  z5 := Tryz.sizeOf5
  v5 := Tryz.zeroValue5
  t9 := Tryz.underlying9
  a9 := Tryz.isAgg9
  z9 := Tryz.sizeOf9
  v9 := Tryz.zeroValue9
  t28 := Tryz.underlying50
  a28 := Tryz.isAgg50
  z28 := Tryz.sizeOf50
  v28 := Tryz.zeroValue50
  t46 := Tryz.underlying149
  a46 := Tryz.isAgg149
  z46 := Tryz.sizeOf149
  v46 := Tryz.zeroValue149
  t51 := Tryz.underlying82
  a51 := Tryz.isAgg82
  z51 := Tryz.sizeOf82
  v51 := Tryz.zeroValue82
  t53 := Tryz.underlying22
  a53 := Tryz.isAgg22
  z53 := Tryz.sizeOf22
  v53 := Tryz.zeroValue22
  t131 := Tryz.underlying78
  a131 := Tryz.isAgg78
  z131 := Tryz.sizeOf78
  v131 := Tryz.zeroValue78
  t182 := Tryz.underlying177
  a182 := Tryz.isAgg177
  z182 := Tryz.sizeOf177
  v182 := Tryz.zeroValue177
  t183 := Tryz.underlying178
  a183 := Tryz.isAgg178
  z183 := Tryz.sizeOf178
  v183 := Tryz.zeroValue178
  t218 := Tryz.underlying194
  a218 := Tryz.isAgg194
  z218 := Tryz.sizeOf194
  v218 := Tryz.zeroValue194
  t222 := Tryz.underlying52
  a222 := Tryz.isAgg52
  z222 := Tryz.sizeOf52
  v222 := Tryz.zeroValue52
  t228 := Tryz.underlying201
  a228 := Tryz.isAgg201
  z228 := Tryz.sizeOf201
  v228 := Tryz.zeroValue201
  t229 := Tryz.underlying58
  a229 := Tryz.isAgg58
  z229 := Tryz.sizeOf58
  v229 := Tryz.zeroValue58 }
end Go.Proofs
namespace Go.Proofs.YtinbmhbfcoiefaaGreatDoor
open Go.Shelf Go.RowKit
open Go Go.E
set_option linter.unusedVariables false
theorem map_putCells {f : Int → Value} (l m : List Int) (sp : List Value) (h : m.length = l.length) : Go.Sort.putCells f 0 m.toArray (l.map f ++ sp).toArray = (m.map f ++ sp).toArray := by
  refine Array.ext_getElem? fun k => ?_
  unfold Go.Sort.putCells
  rw [Array.getElem?_mapIdx, List.getElem?_toArray, List.getElem?_toArray]
  by_cases hk : k < m.length
  · rw [List.getElem?_append_left (by simp; omega), List.getElem?_append_left (by simpa using hk)]
    have hk2 : k < l.length := by omega
    simp [hk, hk2]
  · rw [List.getElem?_append_right (by simp; omega), List.getElem?_append_right (by simp; omega)]
    simp only [List.length_map, h]
    cases sp[k - l.length]? with
    | none => rfl
    | some v =>
      simp only [Option.map_some, List.size_toArray]
      rw [if_neg (by omega)]
theorem sortI_ok {ro : Ro} {own : Chs} {K : Value → Ro → Chs → Prop} {a : Option Addr} {c : Nat} {t : TypeId} {l : List Int} (hn : l.length ≤ 1000000000)
    (hk : K (.tuple #[]) ro (.sl a l.length c t 1 ((l.mergeSort fun x y => decide (x ≤ y)).map (Value.int .i64)) :: own)) : CallOk Tryz.prog 88 #[.slice a l.length c] ro (.sl a l.length c t 1 (l.map (Value.int .i64)) :: own) K := by
  have hsl : (l.mergeSort fun x y => decide (x ≤ y)).length = l.length := (List.mergeSort_perm _ _).length_eq
  refine ⟨fun w hs => .inl ⟨Tryz.call88 _ _, ?_⟩⟩
  obtain ⟨hc, _, _⟩ := hs.cons
  obtain ⟨h1, h2, h3, h4⟩ := hc
  rcases h4 with ⟨rfl, h5, _⟩ | ⟨b, sp, rfl, h5, h6⟩
  · obtain rfl := List.eq_nil_of_length_eq_zero h5
    have h := Go.Proofs.Any.slices_Sort_int_none Tryz.laysSort none c w
    rw [show Tryz.laysSort_ren.f 189 = 88 by kernel_rfl] at h
    refine h.mono fun e w' ⟨he, hw⟩ => ?_
    subst hw
    exact ⟨_, he, ⟨rfl, rfl, rfl, rfl⟩, ro, _, Le.refl _, by simpa using hs, hk⟩
  · have hrow : w.heap[b]? = some (.cells (l.map (Value.int .i64) ++ sp).toArray t (0, 0)) := h5
    have hlt : b < w.heap.size := (Array.getElem?_eq_some_iff.1 hrow).1
    have hH : Go.Sort.Holds (Value.int .i64) w b 0 l.toArray := fun j hj => by
      have hj2 : j < l.length := by simpa using hj
      refine ⟨?_, ?_⟩
      · rw [cell_eq]
        refine Row.cell (h := w.heap) (t := t) hrow ?_
        rw [Nat.zero_add, List.getElem?_append_left (by simpa using hj2)]
        simp [hj2]
      · simp [World.frozen?, hrow]
    have h := Go.Proofs.Any.slices_Sort_int Tryz.laysSort b 0 c l w hH hlt (by omega)
    rw [show Tryz.laysSort_ren.f 189 = 88 by kernel_rfl] at h
    refine h.mono fun e w' ⟨he, n, os, hw⟩ => ?_
    have hnew : w'.heap = w.heap.modify b (Go.Sort.onCells (Go.Sort.putCells (Value.int .i64) 0 (l.mergeSort fun x y => decide (x ≤ y)).toArray)) ++ os := by rw [hw]; rfl
    have hsz : (w.heap.modify b (Go.Sort.onCells (Go.Sort.putCells (Value.int .i64) 0 (l.mergeSort fun x y => decide (x ≤ y)).toArray))).size = w.heap.size := by simp
    refine ⟨_, he, by rw [hw]; exact ⟨rfl, rfl, rfl, rfl⟩, ro, _, Le.refl _, ?_, hk⟩
    refine hs.put (fun k hk1 hk2 => ?_) ⟨?_, h2, h3, .inr ⟨b, sp, rfl, ?_, ?_⟩⟩ (fun k hk => .inl hk) (by simp [Chunk.fp])
    · simp only [Chunk.fp, List.mem_singleton] at hk2
      rw [hnew, Array.getElem?_append_left (by rw [hsz]; exact hk1), Array.getElem?_modify, if_neg (Ne.symm hk2)]
    · simp [hsl]
    · show w'.heap[b]? = _
      rw [hnew, Array.getElem?_append_left (by rw [hsz]; exact hlt), Array.getElem?_modify, if_pos rfl, hrow]
      simp only [Option.map_some, Go.Sort.onCells]
      rw [map_putCells l _ sp hsl]
    · simp only [List.length_map] at h6 ⊢; rw [hsl]; exact h6
end Go.Proofs.YtinbmhbfcoiefaaGreatDoor
end
section
/- Contracts of nfa: Clone of numbers, what Reach finds. -/
namespace Go.E
open Go
theorem Ld.slAt' {ro : Ro} {own : Chs} {a : Option Addr} {n c s : Nat} {t : TypeId} {cs : List Value} {f : Chunk → Chs} {o k : Nat} {v : Value} [hb : HasSl own a n c t s cs f] (ho : o = ao a + k) (hv : cs[k]? = some v) : Ld ro own (ab a) o v := by subst ho; exact Ld.hasSl hv
theorem OpOk.storeSlAt' {P : Program} {T : TT} [hT : TTab P T] {ty : TypeId} {env : Env} {ro : Ro} {own : Chs} {K : Value → Ro → Chs → Prop} {t : TypeId} {x y : Operand} {a : Option Addr} {o k : Nat} {v : Value} {n c s : Nat} {t0 : TypeId} {cs : List Value} {f : Chunk → Chs} (hx : ev env x = some (.pointer (some ⟨ab a, o, none⟩))) (hy : ev env y = some v) (ht : cell1 T t = true) (h1 : v.oneCell' = true)
    [hb : HasSl own a n c t0 s cs f] (ho : o = ao a + k) (hlt : k < cs.length) (hk : K undef ro (f (.sl a n c t0 s (cs.set k v)))) : OpOk P (.store t x y) ty env ro own K := by
  subst ho; exact OpOk.storeSl hx hy ht h1 hlt hk
theorem Sub2.weak {e e' : Env} {t : Nat} {u : Value} (h : Sub2 e e') (hn : look e t = none) : Sub2 e ((t, u) :: e') := fun x v hx => by
  show (bif Nat.beq t x then some u else look e' x) = some v
  cases hb : Nat.beq t x with
  | false => exact h x v hx
  | true => rw [Nat.eq_of_beq_eq_true hb] at hn; rw [hn] at hx; cases hx
theorem Sub2.both {e e' : Env} {t : Nat} {u : Value} (h : Sub2 e e') : Sub2 ((t, u) :: e) ((t, u) :: e') := fun x v hx => by
  change (bif Nat.beq t x then some u else look e x) = some v at hx
  show (bif Nat.beq t x then some u else look e' x) = some v
  cases hb : Nat.beq t x with
  | false => rw [hb] at hx; exact h x v hx
  | true => rw [hb] at hx; exact hx
/-- Each of two slices is appended to, in whatever order. -/
def app2 (x y n m : Nat) (t : TypeId) (vs ws : List Value) (env : Env) (ro : Ro) (r : Chs) : Kt := fun env' ro' own' => ro' = ro ∧ ∃ (a : Option Addr) (c : Nat) (b : Option Addr) (d : Nat), (n ≤ c ∧ c ≤ maxLen) ∧ (m ≤ d ∧ d ≤ maxLen) ∧ Sub2 ((y, .slice b m d) :: (x, .slice a n c) :: env) env' ∧ Sup own' (.sl b m d t 1 ws :: .sl a n c t 1 vs :: r)
theorem app2.ok {P : Program} {T : TT} {all : List Oper} {B : Chs} {fo : Fo} {k : Kt} {env : Env} {ro : Ro} {own : Chs} (x y n m : Nat) (t : TypeId) (vs ws : List Value) (r : Chs)
    (h : vFo P T all B (app2 x y n m t vs ws env ro r) fo env ro own) (hk : ∀ (a : Option Addr) (c : Nat) (b : Option Addr) (d : Nat), (n ≤ c ∧ c ≤ maxLen) → (m ≤ d ∧ d ≤ maxLen) → k ((y, .slice b m d) :: (x, .slice a n c) :: env) ro (.sl b m d t 1 ws :: .sl a n c t 1 vs :: r)) : AllOk (fun Φ => vFo P T all B Φ fo env ro own) k ro :=
  ⟨_, h, fun env' ro' own' _ ⟨e, a, c, b, d, h1, h2, h3, h4⟩ => ⟨_, _, h3, h4, by rw [e]; exact hk a c b d h1 h2⟩⟩
theorem vOne.at {P : Program} {T : TT} {all : List Oper} {i : Nat} {k : Kt} {env : Env} {ro : Ro} {own : Chs} {d : Option Nat} {op : Op} {ty : TypeId} {pos : String} {af : Array Edge} (hi : all[i]? = some ⟨d, op, ty, pos, af, none⟩) (h : vOp P T op ty d k env ro own) : vOne P T all i k env ro own := by
  unfold vOne; rw [hi]; exact h
theorem vFo.cons {P : Program} {T : TT} {all : List Oper} {B : Chs} {Φ : Kt} {i : Nat} {s b : Fo} {env : Env} {ro : Ro} {own : Chs} (h1 : vOne P T all i (fun env' ro' own' => Stop (Sup own' B ∧ vFo P T all B Φ s env' ro' own')) env ro own) (h2 : vFo P T all B Φ b env ro own) : vFo P T all B Φ (.cons i s b) env ro own := ⟨h1, h2⟩
theorem vFo.nil {P : Program} {T : TT} {all : List Oper} {B : Chs} {Φ : Kt} {env : Env} {ro : Ro} {own : Chs} : vFo P T all B Φ .nil env ro own := trivial
theorem vFo.stop {own B : Chs} {p : Prop} (h1 : Sup own B) (h2 : p) : Stop (Sup own B ∧ p) := ⟨⟨h1, h2⟩⟩
theorem vFo.leaf {P : Program} {T : TT} {all : List Oper} {B : Chs} {Φ : Kt} {env : Env} {ro : Ro} {own : Chs} (h : Φ env ro own) : vFo P T all B Φ .leaf env ro own := h
end Go.E
namespace Go.Proofs.YtinbmhbfcoiefaaGreatDoor
open Go Go.E
set_option linter.unusedVariables false
set_option linter.unusedSimpArgs false
set_option maxRecDepth 10000
def boolsV (l : List Bool) : List Value := l.map fun z => .bool z
def natsV (l : List Nat) : List Value := l.map fun (z : Nat) => .int .i64 (z : Int)
theorem natsV_one (l : List Nat) : ∀ u ∈ natsV l, u.oneCell' = true := fun u hu => by obtain ⟨c, _, rfl⟩ := List.mem_map.1 hu; rfl
theorem natsV_len (l : List Nat) : (natsV l).length = l.length := by simp [natsV]
theorem boolsV_len (l : List Bool) : (boolsV l).length = l.length := by simp [boolsV]
theorem boolsV_set (o : List Bool) (k : Nat) (b : Bool) : (boolsV o).set k (.bool b) = boolsV (o.set k b) := by simp [boolsV, List.map_set]
theorem count_set : ∀ (o : List Bool) (k : Nat), o[k]? = some false → (o.set k true).count false + 1 = o.count false
  | [], k, h => by simp at h
  | x :: o, 0, h => by simp at h; subst h; simp
  | x :: o, k + 1, h => by
    have := count_set o k (by simpa using h)
    rw [List.set_cons_succ, List.count_cons, List.count_cons]; omega
theorem mark_get {o : List Bool} {k : Nat} (hk : k < o.length) (i : Nat) : (o.set k true)[i]? = some true ↔ i = k ∨ o[i]? = some true := by
  by_cases e : k = i
  · subst e; simp [hk]
  · rw [List.getElem?_set_ne e]
    exact ⟨.inr, fun h => h.resolve_left (fun e2 => e e2.symm)⟩
/-- What has been found so far. -/
structure Seen (rows : RowsN) (list : List Int) (o : List Bool) (out w : List Nat) : Prop where
  len : o.length = rows.length
  mem : ∀ i : Nat, o[i]? = some true ↔ i ∈ out
  rch : ∀ i ∈ out, Rch rows list i
  nd : out.Nodup
  work : ∀ i ∈ w, i ∈ out
  cnt : out.length + o.count false = rows.length
def ShutN (rows : RowsN) (out : List Nat) (ex : Nat → Prop) : Prop := ∀ i ∈ out, ¬ ex i → ∀ j ∈ freeTo rows i, j ∈ out
theorem Seen.init (rows : RowsN) (list : List Int) : Seen rows list (List.replicate rows.length false) [] [] where
  len := by simp
  mem i := by simp [List.getElem?_replicate]
  rch i hi := by simp at hi
  nd := List.nodup_nil
  work i hi := by simp at hi
  cnt := by simp
theorem Seen.push {rows : RowsN} {list : List Int} {o : List Bool} {out w : List Nat} {k : Nat} (h : Seen rows list o out w) (hk : o[k]? = some false) (hr : Rch rows list k) : Seen rows list (o.set k true) (out ++ [k]) (w ++ [k]) where
  len := by simp [h.len]
  mem i := by
    have hl : k < o.length := (List.getElem?_eq_some_iff.1 hk).1
    rw [mark_get hl, h.mem, List.mem_append, List.mem_singleton]
    exact ⟨fun h => h.symm, fun h => h.symm⟩
  rch i hi := by
    rcases List.mem_append.1 hi with hi | hi
    · exact h.rch i hi
    · simp only [List.mem_singleton] at hi; subst hi; exact hr
  nd := by
    rw [List.nodup_append]
    refine ⟨h.nd, (by simp), fun x hx y hy e => ?_⟩
    simp only [List.mem_singleton] at hy
    subst hy; subst e
    have := (h.mem x).2 hx
    rw [hk] at this; cases this
  work i hi := by
    rw [List.mem_append] at hi ⊢
    exact hi.imp (h.work i) id
  cnt := by
    have h1 := count_set o k hk
    have h2 := h.cnt
    simp only [List.length_append, List.length_singleton]; omega
theorem ShutN.push {rows : RowsN} {out w : List Nat} {k i : Nat} (h : ShutN rows out (fun z => z ∈ w ∨ z = i)) : ShutN rows (out ++ [k]) (fun z => z ∈ w ++ [k] ∨ z = i) := by
  intro z hz hne y hy
  have hne : ¬ ((z ∈ w ∨ z = k) ∨ z = i) := by
    have := hne
    dsimp only at this
    rwa [List.mem_append, List.mem_singleton] at this
  rcases List.mem_append.1 hz with hz | hz
  · exact List.mem_append.2 (.inl (h z hz (fun e => hne (e.imp .inl id)) y hy))
  · simp only [List.mem_singleton] at hz
    exact absurd (.inl (.inr hz)) hne
/-- All that is found, in order, is what is reached. -/
theorem Seen.all {rows : RowsN} {list : List Int} {o : List Bool} {out l : List Nat} (ht : ToIn rows) (h : Seen rows list o out []) (hs : ShutN rows out (fun z => z ∈ ([] : List Nat))) (hb : ∀ z : Nat, (z : Int) ∈ list → z < rows.length → z ∈ out) (hp : l.Perm out) (hl : l.Pairwise (· ≤ ·)) : l = reachN rows list := by
  have hnd : l.Nodup := hp.symm.nodup h.nd
  refine sorted_ext ?_ (reach_sorted _ _) (fun x => ?_)
  · refine (hl.and hnd).imp ?_
    intro a b hab
    omega
  · rw [hp.mem_iff, reach_iff ht]
    refine ⟨h.rch x, fun hr => ?_⟩
    induction hr with
    | base h1 h2 => exact hb _ h1 h2
    | step h1 h2 ih => exact hs _ ih (by simp) _ h2
section
variable {ro : Ro} {own r : Chs} {K : Value → Ro → Chs → Prop} {g : Chunk → Chs}
theorem cloneI_ok {a : Option Addr} {l : List Nat} {n c : Nat} (hc1 : n ≤ c) (hc2 : c ≤ maxLen) (hl : l.length = n) (hb : n ≤ 65536)
    (hk : ∀ a' c', n ≤ c' → c' ≤ maxLen → K (.slice a' n c') ro (.sl a' n c' 3 1 (natsV l) :: .sl a n c 3 1 (natsV l) :: own)) :
    CallOk Tryz.prog 87 #[.slice a n c] ro (.sl a n c 3 1 (natsV l) :: own) K := by
  have hm := hc2
  unfold maxLen at hm
  refine CallOk.intro (args := [_]) (rs := [_]) T_ok Tryz.func87 Tryz.call87 rfl rfl (by kernel_rfl) rfl rfl ?_
  cases a with
  | none =>
    repeat (first | exact endA | refine wkP ?_ | refine opB (fun b => ?_) | refine opA (fun a' c' hc1 hc2 => ?_) | (apply GJ.and; exact rfl; intro hg) | (apply GJ.or; exact rfl; intro hg))
    refine Wk.know (n = 0) (fun h hs => Decidable.byContradiction fun hn => by
      obtain ⟨b, hb⟩ := Sat.slSome (Take.hit _ _) hs hn
      cases hb) (fun hn => ?_)
    subst hn
    obtain rfl := List.eq_nil_of_length_eq_zero hl
    exact Wk.own _ (Sup.nilc (Sup.all _)) (Wk.id (hk none 0 (Nat.le_refl _) (Nat.zero_le _)))
  | some z =>
    repeat (first | exact endA | refine wkP ?_ | refine opB (fun b => ?_) | refine opA (fun a' c' hc1 hc2 => ?_) | (apply GJ.and; exact rfl; intro hg) | (apply GJ.or; exact rfl; intro hg))
    rw [show (some z).isNone = false from rfl]
    repeat (first | exact endA | refine wkP ?_ | refine opB (fun b => ?_) | refine opA (fun a' c' hc1 hc2 => ?_) | (apply GJ.and; exact rfl; intro hg) | (apply GJ.or; exact rfl; intro hg))
    refine OpOk.appendE (m := n) (ys := natsV l) rfl rfl rfl rfl (Rds.hasSl hc1 hc2 (by simp [natsV, hl])) (natsV_one l) (by omega) (fun a' c' h3 h4 => ?_)
    repeat (first | exact endA | refine wkP ?_ | refine opB (fun b => ?_) | refine opA (fun a' c' hc1 hc2 => ?_) | (apply GJ.and; exact rfl; intro hg) | (apply GJ.or; exact rfl; intro hg))
    exact Wk.id (hk a' c' h3 h4)
theorem sortN_ok {a : Option Addr} {c n : Nat} {l : List Nat} (hl : l.length = n) (hn : n ≤ 65536)
    (hk : ∀ l2 : List Nat, l2.Perm l → l2.Pairwise (· ≤ ·) → K (.tuple #[]) ro (.sl a n c 3 1 (natsV l2) :: own)) : CallOk Tryz.prog 88 #[.slice a n c] ro (.sl a n c 3 1 (natsV l) :: own) K := by
  subst hl
  have h := @sortI_ok ro own K a c 3 (intsN l) (by simp [intsN]; omega)
  have e1 : (intsN l).length = l.length := by simp [intsN]
  have e2 : (intsN l).map (Value.int .i64) = natsV l := by unfold intsN natsV; rw [List.map_map]; rfl
  rw [e1, e2] at h
  refine h ?_
  have hp := List.mergeSort_perm (intsN l) (fun x y => decide (x ≤ y))
  have hs := List.pairwise_mergeSort (le := fun (x y : Int) => decide (x ≤ y)) (fun a b c h1 h2 => by simp at *; omega) (fun a b => by simp; omega) (intsN l)
  generalize (intsN l).mergeSort (fun x y => decide (x ≤ y)) = m at *
  obtain ⟨l2, hm⟩ : ∃ l2 : List Nat, m = intsN l2 := by
    refine ⟨m.map Int.toNat, ?_⟩
    unfold intsN
    rw [List.map_map]
    refine ((List.map_congr_left (g := id) (fun x hx => ?_)).trans (List.map_id m)).symm
    obtain ⟨y, hy, rfl⟩ := List.mem_map.1 (hp.mem_iff.1 hx)
    rfl
  subst hm
  have e3 : (intsN l2).map (Value.int .i64) = natsV l2 := by unfold intsN natsV; rw [List.map_map]; rfl
  rw [e3]
  refine hk l2 ?_ ?_
  · have := hp.map Int.toNat
    unfold intsN at this
    rw [List.map_map, List.map_map] at this
    simpa [Function.comp_def] using this
  · unfold intsN at hs
    rw [List.pairwise_map] at hs
    exact hs.imp (fun {a b} h => by simpa using h)
end
/-- All that comes in front of a place has been seen to. -/
def BaseN (rows : RowsN) (l : List Int) (out : List Nat) : Prop := ∀ z : Nat, (z : Int) ∈ l → z < rows.length → z ∈ out
theorem BaseN.snoc {rows : RowsN} {list : List Int} {i : Nat} {z : Int} {out : List Nat} (hz : list[i]? = some z) (h : BaseN rows (list.take i) out) (h2 : ∀ k : Nat, z = (k : Int) → k < rows.length → k ∈ out) : BaseN rows (list.take (i + 1)) out := by
  intro k hk hl
  rw [List.take_add_one, hz] at hk
  rcases List.mem_append.1 hk with hk | hk
  · exact h k hk hl
  · simp at hk
    exact h2 k hk.symm hl
theorem BaseN.up {rows : RowsN} {l : List Int} {out out' : List Nat} (h : BaseN rows l out) (hs : ∀ x ∈ out, x ∈ out') : BaseN rows l out' := fun z h1 h2 => hs z (h z h1 h2)
section
variable {ro : Ro} {own r : Chs} {K : Value → Ro → Chs → Prop} {g : Chunk → Chs}
set_option maxHeartbeats 4000000 in
theorem nreach_ok {a : NfaD} {v : List Value} {list : List Int} {al : Option Addr} {nl cl : Nat} (hv : AutoOk ro a v) (ha : NfaOk a) (hr : Rds ro own al nl cl 1 (list.map (Value.int .i64))) (hnl : list.length = nl)
    (hk : ∀ a' c', (reachN a.rows list).length ≤ c' → c' ≤ maxLen → K (.slice a' (reachN a.rows list).length c') ro (.sl a' (reachN a.rows list).length c' 3 1 (natsV (reachN a.rows list)) :: own)) :
    CallOk Tryz.prog 76 #[.agg v.toArray, .slice al nl cl] ro own K := by
  obtain ⟨ad, cp, hs, rfl, hrs, hrw⟩ := hv
  have hle := ha.le
  have hto := ha.to
  have hmx := hr.max
  have hncl := hr.le
  have hmr := hrs.max
  have hncr := hrs.le
  unfold maxLen at hmx hmr
  subst hnl
  refine CallOk.intro (args := [_, _]) (rs := [_]) T_ok Tryz.func76 Tryz.call76 rfl rfl (by kernel_rfl) rfl rfl ?_
  repeat (first | exact endA | refine wkP ?_ | refine opB (fun b => ?_) | refine opA (fun a' c' hc1 hc2 => ?_) | (apply GJ.and; exact rfl; intro hg) | (apply GJ.or; exact rfl; intro hg))
  rename_i b1
  obtain ⟨bO, hbO⟩ : ∃ z : Nat, z = b := ⟨_, rfl⟩
  subst hbO
  rw [Int.toNat_natCast, show List.replicate a.rows.length (Value.bool false) = boolsV (List.replicate a.rows.length false) by simp [boolsV]]
  refine LoopOk.at (ι := Nat × List Bool × List Nat × Option Addr × Nat) Keep.auto (fun (i, o, w, aw, cw) => [(19, .int .i64 (i : Int)), (6, .slice aw w.length cw)]) (fun (i, o, w, aw, cw) => .sl aw w.length cw 3 1 (natsV w) :: .sl (some ⟨bO, 0, none⟩) a.rows.length a.rows.length 4 1 (boolsV o) :: .blk b1 68 [.slice ad a.rows.length cp, .int .i64 a.last] :: own) (fun (i, o, w, aw, cw) => i ≤ list.length ∧ Seen a.rows list o w w ∧ BaseN a.rows (list.take i) w ∧ w.length ≤ cw ∧ cw ≤ maxLen) (fun (i, o, w, aw, cw) => list.length - i) (0, List.replicate a.rows.length false, [], none, 0) ?_ Sub.auto Sup.auto ?_
  · exact ⟨Nat.zero_le _, Seen.init _ _, (fun z hz => by simp at hz), Nat.le_refl _, Nat.zero_le _⟩
  rintro ⟨i, o, w, aw, cw⟩ ⟨i1, i2, i3, i4, i5⟩
  dsimp only [List.cons_append, List.nil_append] at i1 i2 i3 i4 i5 ⊢
  have hcnt := i2.cnt
  have hO := (boolsV_len o).trans i2.len
  have hW := natsV_len w
  by_cases hi : i < list.length
  · obtain ⟨z, hz⟩ : ∃ z, list[i]? = some z := ⟨_, List.getElem?_eq_getElem hi⟩
    have hgz : (list.map (Value.int .i64))[i]? = some (.int .i64 z) := by simp [hz]
    have hzb : list[((i : Nat) : Int).toNat]! = z := by rw [Int.toNat_natCast, List.getElem!_eq_getElem?_getD, hz]; rfl
    by_cases hz0 : z < 0
    · repeat (first | exact endA | refine wkP ?_ | refine opB (fun b => ?_) | refine opA (fun a' c' hc1 hc2 => ?_) | (apply GJ.and; exact rfl; intro hg) | (apply GJ.or; exact rfl; intro hg))
      repeat (first | exact endA | refine wkP ?_ | refine opB (fun b => ?_) | refine opA (fun a' c' hc1 hc2 => ?_) | (apply GJ.and; exact rfl; intro hg) | (apply GJ.or; exact rfl; intro hg))
      refine Wk.id ⟨(i + 1, o, w, aw, cw), ⟨rfl, ?_⟩, ?_, Sub.auto, Sup.auto⟩
      all_goals try dsimp only
      · exact ⟨by omega, i2, i3.snoc hz (fun k e => by omega), i4, i5⟩
      · omega
    · obtain ⟨k, rfl⟩ : ∃ k : Nat, z = (k : Int) := ⟨z.toNat, by omega⟩
      by_cases hkn : ¬ k < a.rows.length
      · repeat (first | exact endA | refine wkP ?_ | refine opB (fun b => ?_) | refine opA (fun a' c' hc1 hc2 => ?_) | (apply GJ.and; exact rfl; intro hg) | (apply GJ.or; exact rfl; intro hg))
        repeat (first | exact endA | refine wkP ?_ | refine opB (fun b => ?_) | refine opA (fun a' c' hc1 hc2 => ?_) | (apply GJ.and; exact rfl; intro hg) | (apply GJ.or; exact rfl; intro hg))
        refine Wk.id ⟨(i + 1, o, w, aw, cw), ⟨rfl, ?_⟩, ?_, Sub.auto, Sup.auto⟩
        all_goals try dsimp only
        · exact ⟨by omega, i2, i3.snoc hz (fun k2 e h => by omega), i4, i5⟩
        · omega
      have hkn := Decidable.of_not_not hkn
      obtain ⟨q, hq⟩ : ∃ q, o[k]? = some q := ⟨_, List.getElem?_eq_getElem (by rw [i2.len]; exact hkn)⟩
      have hgq : (boolsV o)[k]? = some (.bool q) := by simp [boolsV, hq]
      cases q with
      | true =>
        repeat (first | exact endA | refine wkP ?_ | refine opB (fun b => ?_) | refine opA (fun a' c' hc1 hc2 => ?_) | (apply GJ.and; exact rfl; intro hg) | (apply GJ.or; exact rfl; intro hg))
        refine OpOk.load rfl rfl (Ld.slAt' (k := k) (by rw [hzb]; rfl) hgq) ?_
        repeat (first | exact endA | refine wkP ?_ | refine opB (fun b => ?_) | refine opA (fun a' c' hc1 hc2 => ?_) | (apply GJ.and; exact rfl; intro hg) | (apply GJ.or; exact rfl; intro hg))
        repeat (first | exact endA | refine wkP ?_ | refine opB (fun b => ?_) | refine opA (fun a' c' hc1 hc2 => ?_) | (apply GJ.and; exact rfl; intro hg) | (apply GJ.or; exact rfl; intro hg))
        refine Wk.id ⟨(i + 1, o, w, aw, cw), ⟨rfl, ?_⟩, ?_, Sub.auto, Sup.auto⟩
        all_goals try dsimp only
        · exact ⟨by omega, i2, i3.snoc hz (fun k2 e h => by rw [← Int.ofNat.inj e]; exact (i2.mem k).1 hq), i4, i5⟩
        · omega
      | false =>
        have hpu := i2.push hq (.base (List.mem_of_getElem? hz) hkn)
        repeat (first | exact endA | refine wkP ?_ | refine opB (fun b => ?_) | refine opA (fun a' c' hc1 hc2 => ?_) | (apply GJ.and; exact rfl; intro hg) | (apply GJ.or; exact rfl; intro hg))
        refine OpOk.load rfl rfl (Ld.slAt' (k := k) (by rw [hzb]; rfl) hgq) ?_
        repeat (first | exact endA | refine wkP ?_ | refine opB (fun b => ?_) | refine opA (fun a' c' hc1 hc2 => ?_) | (apply GJ.and; exact rfl; intro hg) | (apply GJ.or; exact rfl; intro hg))
        refine OpOk.storeSlAt' (k := k) rfl rfl rfl rfl (by rw [hzb]; rfl) (by rw [hO]; exact hkn) ?_
        rw [boolsV_set]
        repeat (first | exact endA | refine wkP ?_ | refine opB (fun b => ?_) | refine opA (fun a' c' hc1 hc2 => ?_) | (apply GJ.and; exact rfl; intro hg) | (apply GJ.or; exact rfl; intro hg))
        rw [hzb, show natsV w ++ [Value.int .i64 (k : Int)] = natsV (w ++ [k]) by simp [natsV], show w.length + 1 = (w ++ [k]).length by simp]
        rw [show w.length + 1 = (w ++ [k]).length by simp] at hc1
        repeat (first | exact endA | refine wkP ?_ | refine opB (fun b => ?_) | refine opA (fun a' c' hc1 hc2 => ?_) | (apply GJ.and; exact rfl; intro hg) | (apply GJ.or; exact rfl; intro hg))
        refine Wk.id ⟨(i + 1, o.set k true, w ++ [k], a', c'), ⟨rfl, ?_⟩, ?_, Sub.auto, Sup.auto⟩
        all_goals try dsimp only
        · exact ⟨by omega, hpu, (i3.up (fun x h => List.mem_append.2 (.inl h))).snoc hz (fun k2 e h => by rw [← Int.ofNat.inj e]; simp), hc1, hc2⟩
        · omega
  · obtain rfl : i = list.length := by omega
    rw [List.take_length] at i3
    repeat (first | exact endA | refine wkP ?_ | refine opB (fun b => ?_) | refine opA (fun a' c' hc1 hc2 => ?_) | (apply GJ.and; exact rfl; intro hg) | (apply GJ.or; exact rfl; intro hg))
    refine cloneI_ok i4 i5 rfl (by omega) (fun a0 c0 hc1 hc2 => ?_)
    repeat (first | exact endA | refine wkP ?_ | refine opB (fun b => ?_) | refine opA (fun a' c' hc1 hc2 => ?_) | (apply GJ.and; exact rfl; intro hg) | (apply GJ.or; exact rfl; intro hg))
    refine LoopOk.at (ι := List Bool × (List Nat × Option Addr × Nat) × (List Nat × Option Addr × Nat)) Keep.auto (fun (o, (w, aw, cw), (out, ao, co)) => [(6, .slice aw w.length cw), (9, .slice ao out.length co)]) (fun (o, (w, aw, cw), (out, ao, co)) => .sl ao out.length co 3 1 (natsV out) :: .sl aw w.length cw 3 1 (natsV w) :: .sl (some ⟨bO, 0, none⟩) a.rows.length a.rows.length 4 1 (boolsV o) :: .blk b1 68 [.slice ad a.rows.length cp, .int .i64 a.last] :: own) (fun (o, (w, aw, cw), (out, ao, co)) => Seen a.rows list o out w ∧ ShutN a.rows out (fun z => z ∈ w) ∧ BaseN a.rows list out ∧ (w.length ≤ cw ∧ cw ≤ maxLen) ∧ (out.length ≤ co ∧ co ≤ maxLen) ∧ w.length + o.count false ≤ a.rows.length) (fun (o, (w, aw, cw), (out, ao, co)) => w.length + o.count false) (o, (w, aw, cw), (w, a0, c0)) ?_ Sub.auto Sup.auto ?_
    · exact ⟨i2, (fun x hx h => absurd hx h), i3, ⟨i4, i5⟩, ⟨hc1, hc2⟩, by omega⟩
    clear i2 i3 i4 i5 hc1 hc2 hcnt hO hW
    rintro ⟨o, ⟨w, aw, cw⟩, ⟨out, ao, co⟩⟩ ⟨i1, i2, i3, i4, i5, i6⟩
    dsimp only [List.cons_append, List.nil_append] at i1 i2 i3 i4 i5 i6 ⊢
    repeat (first | exact endA | refine wkP ?_ | refine opB (fun b => ?_) | refine opA (fun a' c' hc1 hc2 => ?_) | (apply GJ.and; exact rfl; intro hg) | (apply GJ.or; exact rfl; intro hg))
    refine Br.cases (fun hg => ?_) (fun hg => ?_)
    · obtain ⟨w, i, rfl⟩ : ∃ w' i, w = w' ++ [i] := ⟨w.dropLast, w.getLast (by intro e; subst e; simp at hg), (List.dropLast_concat_getLast _).symm⟩
      rw [List.length_append, List.length_singleton] at i4 i6 hg ⊢
      have hL : (natsV (w ++ [i])).length = (w.length + 1) * 1 := by simp [natsV]
      have hgi : (natsV (w ++ [i]))[w.length]? = some (.int .i64 (i : Int)) := by simp [natsV]
      have hsh : (natsV (w ++ [i])).take (w.length * 1) = natsV w := by
        rw [Nat.mul_one]
        simp only [natsV, List.map_append]
        rw [List.take_left' (List.length_map _)]
      have hio := i1.work i (by simp)
      have hiR := rch_lt hto (i1.rch i hio)
      obtain ⟨row, hrow⟩ : ∃ row, a.rows[i]? = some row := ⟨_, List.getElem?_eq_getElem hiR⟩
      obtain ⟨ar, cr, hhs, hrr⟩ := hrw.row i row hrow
      repeat (first | exact endA | refine wkP ?_ | refine opB (fun b => ?_) | refine opA (fun a' c' hc1 hc2 => ?_) | (apply GJ.and; exact rfl; intro hg) | (apply GJ.or; exact rfl; intro hg))
      refine OpOk.load rfl rfl (Ld.slAt' (k := w.length) (by congr 1; omega) hgi) ?_
      repeat (first | exact endA | refine wkP ?_ | refine opB (fun b => ?_) | refine opA (fun a' c' hc1 hc2 => ?_) | (apply GJ.and; exact rfl; intro hg) | (apply GJ.or; exact rfl; intro hg))
      rw [Int.toNat_natCast]
      refine OpOk.shrink (a := aw) (m := w.length) (Nat.le_succ _) ?_
      rw [hsh]
      refine OpOk.load rfl rfl (Ld.rs hrs hhs) ?_
      repeat (first | exact endA | refine wkP ?_ | refine opB (fun b => ?_) | refine opA (fun a' c' hc1 hc2 => ?_) | (apply GJ.and; exact rfl; intro hg) | (apply GJ.or; exact rfl; intro hg))
      have hc0 : ∀ s, cutA aw (Int.toNat 0) cw s = aw := fun s => cutA_zero aw cw s
      rw [hc0, show (((w.length + 1 : Nat) : Int) - 1).toNat - Int.toNat 0 = w.length by omega, show cw - Int.toNat 0 = cw from rfl]
      obtain ⟨M, hM⟩ : ∃ M, M = w.length + o.count false := ⟨_, rfl⟩
      have hfr : ∀ x ∈ row, x.free = true → Rch a.rows list x.to := fun x h1 h2 => .step (i1.rch i hio) (by unfold freeTo; rw [hrow]; exact List.mem_map.2 ⟨x, List.mem_filter.2 ⟨h1, h2⟩, rfl⟩)
      have hrl := hrr.le
      have hrm := hrr.max
      unfold maxLen at hrm
      refine LoopOk.at (ι := Nat × List Bool × (List Nat × Option Addr × Nat) × (List Nat × Option Addr × Nat)) Keep.auto (fun (j, o, (w, aw, cw), (out, ao, co)) => [(68, .int .i64 (j : Int)), (6, .slice aw w.length cw), (9, .slice ao out.length co)]) (fun (j, o, (w, aw, cw), (out, ao, co)) => .sl ao out.length co 3 1 (natsV out) :: .sl aw w.length cw 3 1 (natsV w) :: .sl (some ⟨bO, 0, none⟩) a.rows.length a.rows.length 4 1 (boolsV o) :: .blk b1 68 [.slice ad a.rows.length cp, .int .i64 a.last] :: own) (fun (j, o, (w, aw, cw), (out, ao, co)) => j ≤ row.length ∧ Seen a.rows list o out w ∧ ShutN a.rows out (fun z => z ∈ w ∨ z = i) ∧ BaseN a.rows list out ∧ (∀ x ∈ row.take j, x.free = true → x.to ∈ out) ∧ (w.length ≤ cw ∧ cw ≤ maxLen) ∧ (out.length ≤ co ∧ co ≤ maxLen) ∧ w.length + o.count false ≤ M ∧ i ∈ out) (fun (j, o, (w, aw, cw), (out, ao, co)) => row.length - j) (0, o, (w, aw, cw), (out, ao, co)) ?_ Sub.auto Sup.auto ?_
      · exact ⟨Nat.zero_le _, ⟨i1.len, i1.mem, i1.rch, i1.nd, fun z h => i1.work z (by simp [h]), i1.cnt⟩, (fun z h1 h2 => i2 z h1 (fun h3 => h2 (by simpa using h3))), i3, by simp, ⟨by omega, i4.2⟩, i5, by omega, hio⟩
      clear hL hgi hsh
      rintro ⟨j, o', ⟨w', aw', cw'⟩, ⟨out', ao', co'⟩⟩ ⟨j1, j2, j3, j4, j5, j6, j7, j8, j9⟩
      dsimp only [List.cons_append, List.nil_append] at j1 j2 j3 j4 j5 j6 j7 j8 j9 ⊢
      by_cases hj : j < row.length
      · obtain ⟨x, hx⟩ : ∃ x, row[j]? = some x := ⟨_, List.getElem?_eq_getElem hj⟩
        have htk : row.take (j + 1) = row.take j ++ [x] := by rw [List.take_add_one, hx]; rfl
        have hnx : ∀ out2 : List Nat, (∀ y ∈ out', y ∈ out2) → (x.free = true → x.to ∈ out2) → ∀ y ∈ row.take (j + 1), y.free = true → y.to ∈ out2 := fun out2 h1 h2 y hy hyf => by
          rw [htk, List.mem_append, List.mem_singleton] at hy
          rcases hy with hy | rfl
          · exact h1 _ (j5 y hy hyf)
          · exact h2 hyf
        have hxR := hfr x (List.mem_of_getElem? hx)
        have hcnt := j2.cnt
        have hO := (boolsV_len o').trans j2.len
        have hW := natsV_len w'
        have hW2 := natsV_len out'
        have hlx := edgesV_drop row j x hx
        obtain ⟨k, xs, xf⟩ := x
        dsimp only [edgeV] at hxR hnx hlx
        repeat (first | exact endA | refine wkP ?_ | refine opB (fun b => ?_) | refine opA (fun a' c' hc1 hc2 => ?_) | (apply GJ.and; exact rfl; intro hg) | (apply GJ.or; exact rfl; intro hg))
        rw [Int.toNat_natCast]
        refine OpOk.loadRow rfl rfl (LdN.at hrr hlx) rfl ?_
        cases xf with
        | false =>
          repeat (first | exact endA | refine wkP ?_ | refine opB (fun b => ?_) | refine opA (fun a' c' hc1 hc2 => ?_) | (apply GJ.and; exact rfl; intro hg) | (apply GJ.or; exact rfl; intro hg))
          refine Wk.id ⟨(j + 1, o', (w', aw', cw'), (out', ao', co')), ⟨rfl, ?_⟩, ?_, Sub.auto, Sup.auto⟩
          all_goals try dsimp only
          · exact ⟨by omega, j2, j3, j4, hnx out' (fun _ h => h) (fun h => by cases h), j6, j7, j8, j9⟩
          · omega
        | true =>
          have hxR := hxR rfl
          have hkn := rch_lt hto hxR
          obtain ⟨q, hq⟩ : ∃ q, o'[k]? = some q := ⟨_, List.getElem?_eq_getElem (by rw [j2.len]; exact hkn)⟩
          have hgq : (boolsV o')[k]? = some (.bool q) := by simp [boolsV, hq]
          cases q with
          | true =>
            repeat (first | exact endA | refine wkP ?_ | refine opB (fun b => ?_) | refine opA (fun a' c' hc1 hc2 => ?_) | (apply GJ.and; exact rfl; intro hg) | (apply GJ.or; exact rfl; intro hg))
            refine OpOk.load rfl rfl (Ld.slAt' (k := k) (by congr 1) hgq) ?_
            repeat (first | exact endA | refine wkP ?_ | refine opB (fun b => ?_) | refine opA (fun a' c' hc1 hc2 => ?_) | (apply GJ.and; exact rfl; intro hg) | (apply GJ.or; exact rfl; intro hg))
            repeat (first | exact endA | refine wkP ?_ | refine opB (fun b => ?_) | refine opA (fun a' c' hc1 hc2 => ?_) | (apply GJ.and; exact rfl; intro hg) | (apply GJ.or; exact rfl; intro hg))
            refine Wk.id ⟨(j + 1, o', (w', aw', cw'), (out', ao', co')), ⟨rfl, ?_⟩, ?_, Sub.auto, Sup.auto⟩
            all_goals try dsimp only
            · exact ⟨by omega, j2, j3, j4, hnx out' (fun _ h => h) (fun _ => (j2.mem k).1 hq), j6, j7, j8, j9⟩
            · omega
          | false =>
            have hpu := j2.push hq hxR
            have hcs := count_set o' k hq
            repeat (first | exact endA | refine wkP ?_ | refine opB (fun b => ?_) | refine opA (fun a' c' hc1 hc2 => ?_) | (apply GJ.and; exact rfl; intro hg) | (apply GJ.or; exact rfl; intro hg))
            refine OpOk.load rfl rfl (Ld.slAt' (k := k) (by congr 1) hgq) ?_
            repeat (first | exact endA | refine wkP ?_ | refine opB (fun b => ?_) | refine opA (fun a' c' hc1 hc2 => ?_) | (apply GJ.and; exact rfl; intro hg) | (apply GJ.or; exact rfl; intro hg))
            refine OpOk.storeSlAt' (k := k) rfl rfl rfl rfl (by congr 1) (by rw [hO]; exact hkn) ?_
            rw [boolsV_set]
            repeat (first | exact endA | refine wkT ?_ | refine opB (fun b => ?_) | refine opA (fun a' c' hc1 hc2 => ?_) | (apply GJ.and; exact rfl; intro hg) | (apply GJ.or; exact rfl; intro hg))
            obtain ⟨bE, hbE⟩ : ∃ z : Nat, z = b := ⟨_, rfl⟩
            subst hbE
            refine Bs.mk ⟨[.blk bE 141 [.int .i64 (k : Int), wV xs.a, wV xs.b, wV xs.c, wV xs.d, .bool true]], Sup.auto, ?_⟩
            repeat (first | exact endA | refine wkT ?_ | refine opB (fun b => ?_) | refine opA (fun a' c' hc1 hc2 => ?_) | (apply GJ.and; exact rfl; intro hg) | (apply GJ.or; exact rfl; intro hg))
            refine app2.ok 6 9 (w'.length + 1) (out'.length + 1) 3 (natsV w' ++ [.int .i64 (k : Int)]) (natsV out' ++ [.int .i64 (k : Int)]) (.blk bE 141 [.int .i64 (k : Int), wV xs.a, wV xs.b, wV xs.c, wV xs.d, .bool true] :: .sl (some ⟨bO, 0, none⟩) a.rows.length a.rows.length 4 1 (boolsV (o'.set k true)) :: .blk b1 68 [.slice ad a.rows.length cp, .int .i64 a.last] :: own) ?_ (fun a4 c4 a5 c5 hc4 hc5 => ?_)
            · have hone : ∀ u ∈ [Value.int .i64 (k : Int)], u.oneCell' = true := fun u hu => by simp only [List.mem_singleton] at hu; subst hu; rfl
              repeat' (first | with_reducible exact vFo.nil | ((with_reducible refine vFo.cons ?_ ?_); refine vOne.at (by rfl) ?_) | ((with_reducible refine vFo.leaf ?_); refine ⟨rfl, _, _, _, _, ⟨by assumption, by assumption⟩, ⟨by assumption, by assumption⟩, Sub2.both (Sub2.both ?_), Sup.auto⟩; repeat (first | exact Sub2.refl _ | refine Sub2.weak ?_ rfl)) | (show Stop (OpOk _ _ _ _ _ _ _); refine Stop.mk ?_) | (show Stop (Sup _ _ ∧ _); refine vFo.stop Sup.auto ?_) | refine opB (fun b => ?_) | refine opA (fun a' c' hc1 hc2 => ?_))
            rw [show natsV w' ++ [Value.int .i64 (k : Int)] = natsV (w' ++ [k]) by simp [natsV], show natsV out' ++ [Value.int .i64 (k : Int)] = natsV (out' ++ [k]) by simp [natsV], show w'.length + 1 = (w' ++ [k]).length by simp, show out'.length + 1 = (out' ++ [k]).length by simp]
            rw [show w'.length + 1 = (w' ++ [k]).length by simp] at hc4
            rw [show out'.length + 1 = (out' ++ [k]).length by simp] at hc5
            repeat (first | exact endA | refine wkP ?_ | refine opB (fun b => ?_) | refine opA (fun a' c' hc1 hc2 => ?_) | (apply GJ.and; exact rfl; intro hg) | (apply GJ.or; exact rfl; intro hg))
            repeat (first | exact endA | refine wkP ?_ | refine opB (fun b => ?_) | refine opA (fun a' c' hc1 hc2 => ?_) | (apply GJ.and; exact rfl; intro hg) | (apply GJ.or; exact rfl; intro hg))
            refine Wk.id ⟨(j + 1, o'.set k true, (w' ++ [k], a4, c4), (out' ++ [k], a5, c5)), ⟨rfl, ?_⟩, ?_, Sub.auto, Sup.auto⟩
            all_goals try dsimp only
            · exact ⟨by omega, hpu, j3.push, j4.up (fun x h => List.mem_append.2 (.inl h)), hnx _ (fun x h => List.mem_append.2 (.inl h)) (fun _ => by simp), hc4, hc5, by simp only [List.length_append, List.length_singleton]; omega, List.mem_append.2 (.inl j9)⟩
            · omega
      · obtain rfl : j = row.length := by omega
        rw [List.take_length] at j5
        repeat (first | exact endA | refine wkP ?_ | refine opB (fun b => ?_) | refine opA (fun a' c' hc1 hc2 => ?_) | (apply GJ.and; exact rfl; intro hg) | (apply GJ.or; exact rfl; intro hg))
        repeat (first | exact endA | refine wkP ?_ | refine opB (fun b => ?_) | refine opA (fun a' c' hc1 hc2 => ?_) | (apply GJ.and; exact rfl; intro hg) | (apply GJ.or; exact rfl; intro hg))
        refine Wk.id ⟨(o', (w', aw', cw'), (out', ao', co')), ⟨rfl, ?_⟩, ?_, Sub.auto, Sup.auto⟩
        all_goals try dsimp only
        · refine ⟨j2, fun z h1 h2 y h3 => ?_, j4, j6, j7, by omega⟩
          by_cases hz : z = i
          · subst hz
            unfold freeTo at h3
            rw [hrow] at h3
            obtain ⟨x, hx, rfl⟩ := List.mem_map.1 h3
            obtain ⟨hx1, hx2⟩ := List.mem_filter.1 hx
            exact j5 x hx1 hx2
          · exact j3 z h1 (fun e => e.elim h2 hz) y h3
        · omega
    · obtain rfl : w = [] := List.eq_nil_of_length_eq_zero (by omega)
      repeat (first | exact endA | refine wkP ?_ | refine opB (fun b => ?_) | refine opA (fun a' c' hc1 hc2 => ?_) | (apply GJ.and; exact rfl; intro hg) | (apply GJ.or; exact rfl; intro hg))
      refine sortN_ok rfl (by have := i1.cnt; omega) (fun l2 hp hs2 => ?_)
      obtain rfl := i1.all hto i2 i3 hp hs2
      rw [← hp.length_eq] at i5 ⊢
      repeat (first | exact endA | refine wkP ?_ | refine opB (fun b => ?_) | refine opA (fun a' c' hc1 hc2 => ?_) | (apply GJ.and; exact rfl; intro hg) | (apply GJ.or; exact rfl; intro hg))
      exact Wk.outS Sup.auto (.refl _) (hk _ _ i5.1 i5.2)
end
end Go.Proofs.YtinbmhbfcoiefaaGreatDoor
end
