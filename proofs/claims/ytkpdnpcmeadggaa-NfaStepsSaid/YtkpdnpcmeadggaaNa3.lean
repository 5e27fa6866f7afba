/- Contracts of nfa: node, repeat. -/
import Derived.Test.YtkpdnpcmeadggaaNa2
import Derived.Test.YtkpdnpcmeadggaaRg8
namespace Go.Proofs.Ytkpdnpcmeadggaa
open Go Go.E
set_option linter.unusedVariables false
set_option linter.unusedSimpArgs false
set_option maxRecDepth 10000
/-- How many edges there are, and how many more may come by states. -/
def budN (st : StD) : Nat := edgesN st + 4 * (4096 - st.rows.length)
def stM (R : List RowM) (full : Bool) : StD := ⟨rowsOf R, full⟩
theorem stM_len (R : List RowM) (full : Bool) : (stM R full).rows.length = R.length := by simp [stM, rowsOf]
theorem stM_eq {R : List RowM} {st : StD} (h : rowsOf R = st.rows) : stM R st.full = st := by unfold stM; rw [h]
theorem row_ofM {R : List RowM} {full : Bool} {f : Nat} {row : RowM} (h : R[f]? = some row) : row.2.length ≤ edgesN (stM R full) := by
  refine row_edges (f := f) ?_
  unfold stM rowsOf
  rw [List.getElem?_map, h]; rfl
theorem bud_state (st : StD) (h : StOk st) : budN (stateN st).2 ≤ budN st ∧ ((stateN st).2.full = false → budN (stateN st).2 + 4 ≤ budN st) := by
  have h1 := edges_state st
  have h2 := state_len st
  have h3 := h.le
  unfold budN
  refine ⟨by rw [h1, h2]; split <;> omega, fun hf => ?_⟩
  rw [state_full] at hf
  split at hf
  · cases hf
  · rename_i h4
    rw [h1, h2, if_neg h4]; omega
theorem bud_edge (f : Nat) (x : EdgeD) (st : StD) : budN (edgeN f x st) ≤ budN st + 1 := by
  have h1 := edges_edge f x st
  have h2 := edge_len f x st
  unfold budN; rw [h2]; omega
theorem bud_made {c s : Nat} {st : StD} {p : Nat × StD} (h : Made c s st p) : budN p.2 ≤ budN st + 4 * s ∧ (p.2.full = false → budN p.2 ≤ budN st) := by
  have h1 := h.grow
  have h2 := h.ok.le
  unfold budN
  exact ⟨by have := h.edges1; omega, fun hf => by have := h.edges0 hf; omega⟩
/-- What is asked of the making of an expression's automaton: just what nodeN says comes of it. -/
structure NodeC (n : RgD) : Prop where
  run : ∀ {ro : Ro} {r : Chs} {K : Value → Ro → Chs → Prop} {q c f : Nat} {a : Option Addr} {e : Int} {full : Bool} {R : List RowM} {v : List Value}, RgOk ro n v → wrongD n = 0 → StOk (stM R full) → f < R.length → (full = true ∨ budN (stM R full) + 4 * sizeD n ≤ 900000) →
    (∀ a' c' R', rowsOf R' = (nodeN n f (stM R full)).2.rows → K (.int .i64 ((nodeN n f (stM R full)).1 : Int)) ro (mkC q a' c' e (nodeN n f (stM R full)).2.full R' r)) →
    CallOk Try.prog 21 #[ptr' q, .agg v.toArray, .int .i64 (f : Int)] ro (mkC q a c e full R r) K
section
variable {ro : Ro} {own r : Chs} {K : Value → Ro → Chs → Prop} {g : Chunk → Chs}
/-- state, as told of the maker's state. -/
theorem nstate_st {q c : Nat} {a : Option Addr} {e : Int} {full : Bool} {R : List RowM} (ho : StOk (stM R full))
    (hk : ∀ a' c' R', stM R' (stateN (stM R full)).2.full = (stateN (stM R full)).2 → K (.int .i64 ((stateN (stM R full)).1 : Int)) ro (mkC q a' c' e (stateN (stM R full)).2.full R' r)) :
    CallOk Try.prog 20 #[ptr' q] ro (mkC q a c e full R r) K :=
  nstate_ok (by have := ho.le; rw [stM_len] at this; exact this) fun a' c' R' h => hk a' c' R' (stM_eq h)
theorem nedge_st {q c : Nat} {a : Option Addr} {e : Int} {full : Bool} {R : List RowM} {f : Nat} {x : EdgeD} (ho : StOk (stM R full)) (hf : f < R.length) (hb : budN (stM R full) ≤ 1000000)
    (hk : ∀ R', stM R' full = edgeN f x (stM R full) → K (.tuple #[]) ro (mkC q a c e full R' r)) :
    CallOk Try.prog 31 #[ptr' q, .int .i64 (f : Int), .agg (edgeV x).toArray] ro (mkC q a c e full R r) K := by
  obtain ⟨row, hr⟩ : ∃ row, R[f]? = some row := ⟨_, List.getElem?_eq_getElem hf⟩
  refine nedge_ok hr ?_ (by have := ho.le; rw [stM_len] at this; exact this) fun R' h1 h2 => hk R' ?_
  · have := row_ofM (full := full) hr
    unfold budN at hb; omega
  · have := stM_eq h1
    exact this
theorem mk_in2 (x y : Chunk) (q : Nat) (a : Option Addr) (c : Nat) (e : Int) (full : Bool) (R : List RowM) (r : Chs) : (x :: y :: mkC q a c e full R r).Perm (mkC q a c e full R (x :: y :: r)) :=
  ((mk_in y q a c e full R r).cons x).trans (mk_in x q a c e full R (y :: r))
theorem dropN_cons {α : Type} {l : List α} {i : Nat} {x : α} (h : l[i]? = some x) : l.drop i = x :: l.drop (i + 1) := by
  obtain ⟨h1, h2⟩ := List.getElem?_eq_some_iff.1 h
  rw [List.drop_eq_getElem_cons h1, h2]
theorem cat_cons (x : RgD) (l : List RgD) (f : Nat) (st : StD) : catN (x :: l) f st = catN l (nodeN x f st).1 (nodeN x f st).2 := by rw [catN]
theorem alt_cons (x : RgD) (l : List RgD) (f to : Nat) (st : StD) : altN (x :: l) f to st = altN l f to (altN [x] f to st) := by rw [altN, altN, altN]
theorem alt_one (x : RgD) (f to : Nat) (st : StD) : altN [x] f to st = edgeN (nodeN x (stateN st).1 (edgeN f (freeE (stateN st).1) (stateN st).2)).1 (freeE to) (nodeN x (stateN st).1 (edgeN f (freeE (stateN st).1) (stateN st).2)).2 := by rw [altN, altN]
theorem rep_min (F : NodeF) (k f : Nat) (st : StD) (h : st.full = false) : minN F (k + 1) f st = minN F k (F f st).1 (F f st).2 := by rw [minN, if_neg (by rw [h]; decide)]
theorem rep_full (F : NodeF) (k f : Nat) (st : StD) (h : st.full = true) : minN F (k + 1) f st = (true, 0, st) := by rw [minN, if_pos h]
theorem rep_max (F : NodeF) (to k f : Nat) (st : StD) (h : st.full = false) : maxN F to (k + 1) f st = maxN F to k (oneN F to f st).1 (oneN F to f st).2 := by rw [maxN, if_neg (by rw [h]; decide)]
theorem rep_maxF (F : NodeF) (to k f : Nat) (st : StD) (h : st.full = true) : maxN F to (k + 1) f st = (true, 0, st) := by rw [maxN, if_pos h]
set_option maxHeartbeats 16000000 in
theorem nrepeat_ok {x : RgD} (ih : NodeC x) {q c f : Nat} {a : Option Addr} {e : Int} {R : List RowM} {z : SetD} {mn mx : Int} {ad : Option Addr} {cp : Nat} {v : List Value} (hrs : Rs ro ad 1 cp 8 v) (hvv : RgOk ro x v) (hw : wrongD x = 0) (h : ¬ (mn < 0 ∨ 256 < mn ∨ 256 < mx ∨ (0 ≤ mx ∧ mx < mn)))
    (ho : StOk (stM R false)) (hf : f < R.length) (hb : budN (stM R false) + 4 * sizeD x + 4 ≤ 900000)
    (hk : ∀ a' c' R', rowsOf R' = (repeatN (nodeN x) mn mx f (stM R false)).2.rows → K (.int .i64 ((repeatN (nodeN x) mn mx f (stM R false)).1 : Int)) ro (mkC q a' c' e (repeatN (nodeN x) mn mx f (stM R false)).2.full R' r)) :
    CallOk Try.prog 32 #[ptr' q, .agg (nodeV 5 z ad 1 cp mn mx).toArray, .int .i64 (f : Int)] ro (mkC q a c e false R r) K := by
  have hM := made_node x hw
  obtain ⟨ak, ck, hvk⟩ := hvv.cells
  have hvk0 : (v.drop 0).take 8 = nodeV x.kind x.set ak x.kids.length ck x.min x.max := by rw [hvk]; rfl
  rw [hvk] at hvv
  have hRl := stM_len R false
  unfold repeatN at hk
  obtain ⟨n, hn⟩ : ∃ n : Nat, mn = (n : Int) := ⟨mn.toNat, by omega⟩
  have hmn : mn.toNat = n := by omega
  rw [hmn] at hk
  refine CallOk.intro (args := [_, _, _]) (rs := [_]) T_ok Try.func32 Try.call32 rfl rfl (by kernel_rfl) rfl rfl ?_
  repeat (first
    | (show _ ∧ _; exact ⟨rfl, rfl, rfl⟩)
    | refine wkP ?_
    | (show OpOk _ _ _ _ _ _ _; first | refine opB (fun b => ?_) | refine opA (fun a' c' hc1 hc2 => ?_))
    | (show GJ _ _ _ _ _ _ _; first | (apply GJ.and; exact rfl; intro hg) | (apply GJ.or; exact rfl; intro hg)))
  obtain ⟨bN, hbN⟩ : ∃ z : Nat, z = b := ⟨_, rfl⟩
  subst hbN
  refine LoopOk.at (ι := Nat × Nat × List RowM × Bool × Option Addr × Nat) Keep.auto (fun (i, fi, R2, u2, a2, c2) => [(12, .int .i64 (i : Int)), (2, .int .i64 (fi : Int))]) (fun (i, fi, R2, u2, a2, c2) => .blk bN 26 (nodeV 5 z ad 1 cp mn mx) :: mkC q a2 c2 e u2 R2 r) (fun (i, fi, R2, u2, a2, c2) => i ≤ n ∧ minN (nodeN x) n f (stM R false) = minN (nodeN x) (n - i) fi (stM R2 u2) ∧ StOk (stM R2 u2) ∧ fi < R2.length ∧ budN (stM R2 u2) ≤ budN (stM R false) + 4 * sizeD x ∧ (u2 = false → budN (stM R2 u2) ≤ budN (stM R false))) (fun (i, fi, R2, u2, a2, c2) => n - i) (0, f, R, false, a, c) ?_ Sub.auto Sup.auto ?_
  · exact ⟨Nat.zero_le _, rfl, ho, hf, by omega, fun _ => Nat.le_refl _⟩
  rintro ⟨i, fi, R2, u2, a2, c2⟩ ⟨i1, i2, i3, i4, i5, i6⟩
  dsimp only [List.cons_append, List.nil_append] at i1 i2 i3 i4 i5 i6 ⊢
  have hR2 := stM_len R2 u2
  by_cases hi : i < n
  · rw [show n - i = (n - (i + 1)) + 1 by omega] at i2
    cases u2 with
    | true =>
      rw [rep_full _ _ _ _ rfl] at i2
      rw [i2] at hk
      repeat (first
        | (show _ ∧ _; exact ⟨rfl, rfl, rfl⟩)
        | refine wkP ?_
        | (show OpOk _ _ _ _ _ _ _; first | refine opB (fun b => ?_) | refine opA (fun a' c' hc1 hc2 => ?_))
        | (show GJ _ _ _ _ _ _ _; first | (apply GJ.and; exact rfl; intro hg) | (apply GJ.or; exact rfl; intro hg)))
      exact Wk.own _ (Sup.drop _ (Sup.all _)) (Wk.id (hk a2 c2 R2 rfl))
    | false =>
      rw [rep_min _ _ _ _ rfl] at i2
      have hmd := (hM fi (stM R2 false) i3 (by omega)).1
      have hbd := bud_made hmd
      have i6 := i6 rfl
      repeat (first
        | (show _ ∧ _; exact ⟨rfl, rfl, rfl⟩)
        | refine wkP ?_
        | (show OpOk _ _ _ _ _ _ _; first | refine opB (fun b => ?_) | refine opA (fun a' c' hc1 hc2 => ?_))
        | (show GJ _ _ _ _ _ _ _; first | (apply GJ.and; exact rfl; intro hg) | (apply GJ.or; exact rfl; intro hg)))
      refine OpOk.loadRow rfl rfl (LdN.at (k := 0) hrs hvk0) rfl ?_
      repeat (first
        | (show _ ∧ _; exact ⟨rfl, rfl, rfl⟩)
        | refine wkP ?_
        | (show OpOk _ _ _ _ _ _ _; first | refine opB (fun b => ?_) | refine opA (fun a' c' hc1 hc2 => ?_))
        | (show GJ _ _ _ _ _ _ _; first | (apply GJ.and; exact rfl; intro hg) | (apply GJ.or; exact rfl; intro hg)))
      refine CallOk.perm (mk_in _ _ _ _ _ _ _ _) ?_
      refine ih.run hvv hw i3 i4 (.inr (by omega)) (fun a3 c3 R3 h3 => ?_)
      have e3 := stM_eq h3
      generalize nodeN x fi (stM R2 false) = p at *
      have hlt := hmd.lt
      have l3 : R3.length = p.2.rows.length := by rw [← e3, stM_len]
      repeat (first
        | (show _ ∧ _; exact ⟨rfl, rfl, rfl⟩)
        | refine wkP ?_
        | (show OpOk _ _ _ _ _ _ _; first | refine opB (fun b => ?_) | refine opA (fun a' c' hc1 hc2 => ?_))
        | (show GJ _ _ _ _ _ _ _; first | (apply GJ.and; exact rfl; intro hg) | (apply GJ.or; exact rfl; intro hg)))
      refine Wk.perm (mk_in _ _ _ _ _ _ _ _).symm ?_
      refine Wk.id ⟨(i + 1, p.1, R3, p.2.full, a3, c3), ⟨rfl, ?_⟩, ?_, Sub.auto, Sup.auto⟩
      all_goals try dsimp only
      · exact ⟨by omega, by rw [e3]; exact i2, by rw [e3]; exact hmd.ok, by omega, by rw [e3]; omega, fun hu => by rw [e3]; have := hbd.2 hu; omega⟩
      · omega
  · obtain rfl : i = n := by omega
    rw [Nat.sub_self, minN] at i2
    rw [i2] at hk
    dsimp only at hk
    repeat (first
      | (show _ ∧ _; exact ⟨rfl, rfl, rfl⟩)
      | refine wkP ?_
      | (show OpOk _ _ _ _ _ _ _; first | refine opB (fun b => ?_) | refine opA (fun a' c' hc1 hc2 => ?_))
      | (show GJ _ _ _ _ _ _ _; first | (apply GJ.and; exact rfl; intro hg) | (apply GJ.or; exact rfl; intro hg)))
    refine CallOk.perm (mk_in _ _ _ _ _ _ _ _) ?_
    refine nstate_st i3 (fun a0 c0 R0 h0 => ?_)
    have m0 := made_state i3
    have d0 := (bud_state _ i3).1
    have d1 := (bud_state _ i3).2
    have k0 := m0.keep
    have g0 := m0.grow
    have t0 := m0.lt
    have o0 := m0.ok
    generalize stateN (stM R2 u2) = p0 at *
    have l0 : R0.length = p0.2.rows.length := by rw [← h0, stM_len]
    by_cases hmx : mx < 0
    · rw [if_pos hmx] at hk
      unfold loopN at hk
      dsimp only at hk
      repeat (first
        | (show _ ∧ _; exact ⟨rfl, rfl, rfl⟩)
        | refine wkP ?_
        | (show OpOk _ _ _ _ _ _ _; first | refine opB (fun b => ?_) | refine opA (fun a' c' hc1 hc2 => ?_))
        | (show GJ _ _ _ _ _ _ _; first | (apply GJ.and; exact rfl; intro hg) | (apply GJ.or; exact rfl; intro hg)))
      refine nstate_st (by rw [h0]; exact o0) (fun a3 c3 R3 h3 => ?_)
      rw [h0] at h3
      rw [h0]
      have m1 := made_state o0
      have t1 := m1.lt
      have b1 := (bud_state _ o0).1
      have b2 := (bud_state _ o0).2
      have k1 := m1.keep
      have g1 := m1.grow
      have o1 := m1.ok
      generalize stateN p0.2 = p1 at *
      have l3 : R3.length = p1.2.rows.length := by rw [← h3, stM_len]
      repeat (first
        | (show _ ∧ _; exact ⟨rfl, rfl, rfl⟩)
        | refine wkP ?_
        | (show OpOk _ _ _ _ _ _ _; first | refine opB (fun b => ?_) | refine opA (fun a' c' hc1 hc2 => ?_))
        | (show GJ _ _ _ _ _ _ _; first | (apply GJ.and; exact rfl; intro hg) | (apply GJ.or; exact rfl; intro hg)))
      refine nedge_st (x := freeE p1.1) (by rw [h3]; exact o1) (by omega) (by rw [h3]; omega) (fun R4 h4 => ?_)
      rw [h3] at h4
      have o2 : StOk (edgeN fi (freeE p1.1) p1.2) := o1.edge t1
      have e2 := edge_len fi (freeE p1.1) p1.2
      have b3 := bud_edge fi (freeE p1.1) p1.2
      have u3 := edge_full fi (freeE p1.1) p1.2
      generalize edgeN fi (freeE p1.1) p1.2 = s2 at *
      have l4 : R4.length = s2.rows.length := by rw [← h4, stM_len]
      repeat (first
        | (show _ ∧ _; exact ⟨rfl, rfl, rfl⟩)
        | refine wkP ?_
        | (show OpOk _ _ _ _ _ _ _; first | refine opB (fun b => ?_) | refine opA (fun a' c' hc1 hc2 => ?_))
        | (show GJ _ _ _ _ _ _ _; first | (apply GJ.and; exact rfl; intro hg) | (apply GJ.or; exact rfl; intro hg)))
      refine nedge_st (x := freeE p0.1) (by rw [h4]; exact o2) (by omega) (by rw [h4]; omega) (fun R5 h5 => ?_)
      rw [h4] at h5
      have o3 : StOk (edgeN p1.1 (freeE p0.1) s2) := o2.edge (show p0.1 < s2.rows.length by omega)
      have e3 := edge_len p1.1 (freeE p0.1) s2
      have b4 := bud_edge p1.1 (freeE p0.1) s2
      have u4 := edge_full p1.1 (freeE p0.1) s2
      generalize edgeN p1.1 (freeE p0.1) s2 = s3 at *
      have l5 : R5.length = s3.rows.length := by rw [← h5, stM_len]
      have hmd := (hM p1.1 s3 o3 (by omega)).1
      have hmd2 := (hM p1.1 s3 o3 (by omega)).2
      have hmb := bud_made hmd
      repeat (first
        | (show _ ∧ _; exact ⟨rfl, rfl, rfl⟩)
        | refine wkP ?_
        | (show OpOk _ _ _ _ _ _ _; first | refine opB (fun b => ?_) | refine opA (fun a' c' hc1 hc2 => ?_))
        | (show GJ _ _ _ _ _ _ _; first | (apply GJ.and; exact rfl; intro hg) | (apply GJ.or; exact rfl; intro hg)))
      refine OpOk.loadRow rfl rfl (LdN.at (k := 0) hrs hvk0) rfl ?_
      repeat (first
        | (show _ ∧ _; exact ⟨rfl, rfl, rfl⟩)
        | refine wkP ?_
        | (show OpOk _ _ _ _ _ _ _; first | refine opB (fun b => ?_) | refine opA (fun a' c' hc1 hc2 => ?_))
        | (show GJ _ _ _ _ _ _ _; first | (apply GJ.and; exact rfl; intro hg) | (apply GJ.or; exact rfl; intro hg)))
      refine ih.run hvv hw (by rw [h5]; exact o3) (by omega) (by
        rw [h5]
        cases hu : p1.2.full with
        | true => exact .inl rfl
        | false =>
          have hu0 : p0.2.full = false := by cases hh : p0.2.full with
            | false => rfl
            | true => rw [k1 hh] at hu; cases hu
          have hu2 : u2 = false := by cases hh : u2 with
            | false => rfl
            | true => have := k0 hh; rw [this] at hu0; cases hu0
          have := b2 hu; have := d1 hu0; have := i6 hu2
          exact .inr (by omega)) (fun a6 c6 R6 h6 => ?_)
      rw [h5] at h6
      have e6 := stM_eq h6
      rw [h5]
      have hbb : budN (nodeN x p1.1 s3).2 ≤ 900000 + 100 := by
        cases hu : s3.full with
        | true =>
          have h1 := hmd2 hu
          have h2 := hmd.grow
          have h3 := full_len o3 hmd.ok h2 hu
          unfold budN at *; omega
        | false =>
          have hu1 : p1.2.full = false := by rw [← u3, ← u4]; exact hu
          have hu0 : p0.2.full = false := by cases hh : p0.2.full with
            | false => rfl
            | true => rw [k1 hh] at hu1; cases hu1
          have hu2 : u2 = false := by cases hh : u2 with
            | false => rfl
            | true => have := k0 hh; rw [this] at hu0; cases hu0
          have := b2 hu1; have := d1 hu0; have := i6 hu2
          omega
      generalize nodeN x p1.1 s3 = p6 at *
      have l6 : R6.length = p6.2.rows.length := by rw [← e6, stM_len]
      have t6 := hmd.lt
      repeat (first
        | (show _ ∧ _; exact ⟨rfl, rfl, rfl⟩)
        | refine wkP ?_
        | (show OpOk _ _ _ _ _ _ _; first | refine opB (fun b => ?_) | refine opA (fun a' c' hc1 hc2 => ?_))
        | (show GJ _ _ _ _ _ _ _; first | (apply GJ.and; exact rfl; intro hg) | (apply GJ.or; exact rfl; intro hg)))
      refine nedge_st (x := freeE p1.1) (by rw [e6]; exact hmd.ok) (by omega) (by rw [e6]; omega) (fun R7 h7 => ?_)
      rw [e6] at h7
      repeat (first
        | (show _ ∧ _; exact ⟨rfl, rfl, rfl⟩)
        | refine wkP ?_
        | (show OpOk _ _ _ _ _ _ _; first | refine opB (fun b => ?_) | refine opA (fun a' c' hc1 hc2 => ?_))
        | (show GJ _ _ _ _ _ _ _; first | (apply GJ.and; exact rfl; intro hg) | (apply GJ.or; exact rfl; intro hg)))
      exact Wk.perm (mk_in _ _ _ _ _ _ _ _).symm (Wk.own _ (Sup.drop _ (Sup.all _)) (Wk.id (hk a6 c6 R7 (congrArg StD.rows h7))))
    · rw [if_neg hmx] at hk
      obtain ⟨m, hm⟩ : ∃ m : Nat, mx - mn = (m : Int) := ⟨(mx - mn).toNat, by omega⟩
      rw [hm, Int.toNat_natCast] at hk
      repeat (first
        | (show _ ∧ _; exact ⟨rfl, rfl, rfl⟩)
        | refine wkP ?_
        | (show OpOk _ _ _ _ _ _ _; first | refine opB (fun b => ?_) | refine opA (fun a' c' hc1 hc2 => ?_))
        | (show GJ _ _ _ _ _ _ _; first | (apply GJ.and; exact rfl; intro hg) | (apply GJ.or; exact rfl; intro hg)))
      rw [hm]
      refine LoopOk.at (ι := Nat × Nat × List RowM × Bool × Option Addr × Nat) Keep.auto (fun (j, fj, R3, u3, a3, c3) => [(60, .int .i64 (j : Int)), (2, .int .i64 (fj : Int))]) (fun (j, fj, R3, u3, a3, c3) => mkC q a3 c3 e u3 R3 (.blk bN 26 (nodeV 5 z ad 1 cp mn mx) :: r)) (fun (j, fj, R3, u3, a3, c3) => j ≤ m ∧ maxN (nodeN x) p0.1 m fi p0.2 = maxN (nodeN x) p0.1 (m - j) fj (stM R3 u3) ∧ StOk (stM R3 u3) ∧ fj < R3.length ∧ p0.2.rows.length ≤ R3.length ∧ budN (stM R3 u3) ≤ budN (stM R false) + 4 * sizeD x + 4 ∧ (u3 = false → budN (stM R3 u3) ≤ budN (stM R false))) (fun (j, fj, R3, u3, a3, c3) => m - j) (0, fi, R0, p0.2.full, a0, c0) ?_ Sub.auto Sup.auto ?_
      · exact ⟨Nat.zero_le _, by rw [h0]; rfl, by rw [h0]; exact o0, by omega, by omega, by rw [h0]; omega, fun hu => by
          rw [h0]
          have hu2 : u2 = false := by cases hh : u2 with
            | false => rfl
            | true => have := k0 hh; rw [this] at hu; cases hu
          have := i6 hu2; omega⟩
      rintro ⟨j, fj, R3, u3, a3, c3⟩ ⟨j1, j2, j3, j4, j5, j6, j7⟩
      dsimp only [List.cons_append, List.nil_append] at j1 j2 j3 j4 j5 j6 j7 ⊢
      have hR3 := stM_len R3 u3
      by_cases hj : j < m
      · rw [show m - j = (m - (j + 1)) + 1 by omega] at j2
        cases u3 with
        | true =>
          rw [rep_maxF _ _ _ _ _ rfl] at j2
          rw [j2] at hk
          repeat (first
            | (show _ ∧ _; exact ⟨rfl, rfl, rfl⟩)
            | refine wkP ?_
            | (show OpOk _ _ _ _ _ _ _; first | refine opB (fun b => ?_) | refine opA (fun a' c' hc1 hc2 => ?_))
            | (show GJ _ _ _ _ _ _ _; first | (apply GJ.and; exact rfl; intro hg) | (apply GJ.or; exact rfl; intro hg)))
          exact Wk.perm (mk_in _ _ _ _ _ _ _ _).symm (Wk.own _ (Sup.drop _ (Sup.all _)) (Wk.id (hk a3 c3 R3 rfl)))
        | false =>
          rw [rep_max _ _ _ _ _ rfl] at j2
          have j7 := j7 rfl
          have hone := MadeF.one hM (to := p0.1) (f0 := fj) j3 (by omega) (by omega)
          have hbone := bud_made hone
          have hoo := hone.ok
          have hog := hone.grow
          have hot := hone.lt
          unfold oneN at j2 hbone hoo hog hot
          have q1 : StOk (edgeN fj (freeE p0.1) (stM R3 false)) := j3.edge (show p0.1 < (stM R3 false).rows.length by omega)
          have q2 := edge_len fj (freeE p0.1) (stM R3 false)
          have q3 := bud_edge fj (freeE p0.1) (stM R3 false)
          repeat (first
            | (show _ ∧ _; exact ⟨rfl, rfl, rfl⟩)
            | refine wkP ?_
            | (show OpOk _ _ _ _ _ _ _; first | refine opB (fun b => ?_) | refine opA (fun a' c' hc1 hc2 => ?_))
            | (show GJ _ _ _ _ _ _ _; first | (apply GJ.and; exact rfl; intro hg) | (apply GJ.or; exact rfl; intro hg)))
          refine nedge_st (x := freeE p0.1) j3 (by omega) (by omega) (fun R4 h4 => ?_)
          generalize edgeN fj (freeE p0.1) (stM R3 false) = s1 at *
          have l4 : R4.length = s1.rows.length := by rw [← h4, stM_len]
          repeat (first
            | (show _ ∧ _; exact ⟨rfl, rfl, rfl⟩)
            | refine wkP ?_
            | (show OpOk _ _ _ _ _ _ _; first | refine opB (fun b => ?_) | refine opA (fun a' c' hc1 hc2 => ?_))
            | (show GJ _ _ _ _ _ _ _; first | (apply GJ.and; exact rfl; intro hg) | (apply GJ.or; exact rfl; intro hg)))
          refine nstate_st (by rw [h4]; exact q1) (fun a5 c5 R5 h5 => ?_)
          rw [h4] at h5
          rw [h4]
          have m1 := made_state q1
          have t1 := m1.lt
          have b1 := (bud_state _ q1).1
          have b2 := (bud_state _ q1).2
          have g1 := m1.grow
          have o1 := m1.ok
          generalize stateN s1 = p1 at *
          have l5 : R5.length = p1.2.rows.length := by rw [← h5, stM_len]
          repeat (first
            | (show _ ∧ _; exact ⟨rfl, rfl, rfl⟩)
            | refine wkP ?_
            | (show OpOk _ _ _ _ _ _ _; first | refine opB (fun b => ?_) | refine opA (fun a' c' hc1 hc2 => ?_))
            | (show GJ _ _ _ _ _ _ _; first | (apply GJ.and; exact rfl; intro hg) | (apply GJ.or; exact rfl; intro hg)))
          refine nedge_st (x := freeE p1.1) (by rw [h5]; exact o1) (by omega) (by rw [h5]; omega) (fun R6 h6 => ?_)
          rw [h5] at h6
          have o2 : StOk (edgeN fj (freeE p1.1) p1.2) := o1.edge t1
          have e2 := edge_len fj (freeE p1.1) p1.2
          have b3 := bud_edge fj (freeE p1.1) p1.2
          have u4 := edge_full fj (freeE p1.1) p1.2
          generalize edgeN fj (freeE p1.1) p1.2 = s2 at *
          have l6 : R6.length = s2.rows.length := by rw [← h6, stM_len]
          repeat (first
            | (show _ ∧ _; exact ⟨rfl, rfl, rfl⟩)
            | refine wkP ?_
            | (show OpOk _ _ _ _ _ _ _; first | refine opB (fun b => ?_) | refine opA (fun a' c' hc1 hc2 => ?_))
            | (show GJ _ _ _ _ _ _ _; first | (apply GJ.and; exact rfl; intro hg) | (apply GJ.or; exact rfl; intro hg)))
          refine OpOk.loadRow rfl rfl (LdN.at (k := 0) hrs hvk0) rfl ?_
          repeat (first
            | (show _ ∧ _; exact ⟨rfl, rfl, rfl⟩)
            | refine wkP ?_
            | (show OpOk _ _ _ _ _ _ _; first | refine opB (fun b => ?_) | refine opA (fun a' c' hc1 hc2 => ?_))
            | (show GJ _ _ _ _ _ _ _; first | (apply GJ.and; exact rfl; intro hg) | (apply GJ.or; exact rfl; intro hg)))
          refine ih.run hvv hw (by rw [h6]; exact o2) (by omega) (by
            rw [h6]
            cases hu : p1.2.full with
            | true => exact .inl rfl
            | false => have := b2 hu; exact .inr (by omega)) (fun a7 c7 R7 h7 => ?_)
          rw [h6] at h7
          have e7 := stM_eq h7
          rw [h6]
          generalize nodeN x p1.1 s2 = p7 at *
          have l7 : R7.length = p7.2.rows.length := by rw [← e7, stM_len]
          repeat (first
            | (show _ ∧ _; exact ⟨rfl, rfl, rfl⟩)
            | refine wkP ?_
            | (show OpOk _ _ _ _ _ _ _; first | refine opB (fun b => ?_) | refine opA (fun a' c' hc1 hc2 => ?_))
            | (show GJ _ _ _ _ _ _ _; first | (apply GJ.and; exact rfl; intro hg) | (apply GJ.or; exact rfl; intro hg)))
          refine Wk.id ⟨(j + 1, p7.1, R7, p7.2.full, a7, c7), ⟨rfl, ?_⟩, ?_, Sub.auto, Sup.auto⟩
          all_goals try dsimp only
          · exact ⟨by omega, by rw [e7]; exact j2, by rw [e7]; exact hoo, by omega, by omega, by rw [e7]; omega, fun hu => by rw [e7]; have := hbone.2 hu; omega⟩
          · omega
      · obtain rfl : j = m := by omega
        rw [Nat.sub_self, maxN] at j2
        rw [j2] at hk
        dsimp only at hk
        repeat (first
          | (show _ ∧ _; exact ⟨rfl, rfl, rfl⟩)
          | refine wkP ?_
          | (show OpOk _ _ _ _ _ _ _; first | refine opB (fun b => ?_) | refine opA (fun a' c' hc1 hc2 => ?_))
          | (show GJ _ _ _ _ _ _ _; first | (apply GJ.and; exact rfl; intro hg) | (apply GJ.or; exact rfl; intro hg)))
        refine nedge_st (x := freeE p0.1) j3 (by omega) (by omega) (fun R4 h4 => ?_)
        repeat (first
          | (show _ ∧ _; exact ⟨rfl, rfl, rfl⟩)
          | refine wkP ?_
          | (show OpOk _ _ _ _ _ _ _; first | refine opB (fun b => ?_) | refine opA (fun a' c' hc1 hc2 => ?_))
          | (show GJ _ _ _ _ _ _ _; first | (apply GJ.and; exact rfl; intro hg) | (apply GJ.or; exact rfl; intro hg)))
        exact Wk.perm (mk_in _ _ _ _ _ _ _ _).symm (Wk.own _ (Sup.drop _ (Sup.all _)) (Wk.id (hk a3 c3 R4 (congrArg StD.rows h4))))
set_option maxHeartbeats 8000000 in
theorem nodeC : ∀ n, NodeC n := RgD.ind fun k z l mn mx ih => ⟨fun {ro r K q c f a e full R v} hv hw ho hf hb hk => by
  obtain ⟨hform, hkw⟩ := wrongD_parts hw
  have hF := form_cases hform
  rw [RgOk] at hv
  obtain ⟨ad, cp, cs, rfl, hs, hrs, hks⟩ := hv
  have hle := hrs.le
  have hmx := hrs.max
  unfold maxLen at hmx
  have hRl := stM_len R full
  rw [nodeN] at hk
  dsimp only at hk
  cases full with
  | true =>
    rw [if_pos (show (stM R true).full = true from rfl)] at hk
    refine CallOk.intro (args := [_, _, _]) (rs := [_]) T_ok Try.func21 Try.call21 rfl rfl (by kernel_rfl) rfl rfl ?_
    repeat (first
      | (show _ ∧ _; exact ⟨rfl, rfl, rfl⟩)
      | refine wkP ?_
      | (show OpOk _ _ _ _ _ _ _; first | refine opB (fun b => ?_) | refine opA (fun a' c' hc1 hc2 => ?_))
      | (show GJ _ _ _ _ _ _ _; first | (apply GJ.and; exact rfl; intro hg) | (apply GJ.or; exact rfl; intro hg)))
    exact Wk.outS Sup.auto (.refl _) (hk a c R rfl)
  | false =>
    rw [if_neg (show ¬ (stM R false).full = true from (by intro h; cases h))] at hk
    have hb : budN (stM R false) + 4 * (sizeK l + 1) ≤ 900000 := by
      rcases hb with hb | hb
      · cases hb
      · rw [sizeD] at hb; exact hb
    cases hF with
    | none s a1 b1 =>
      rw [if_neg (by decide), if_neg (by decide), if_neg (by decide), if_neg (by decide)] at hk
      refine CallOk.intro (args := [_, _, _]) (rs := [_]) T_ok Try.func21 Try.call21 rfl rfl (by kernel_rfl) rfl rfl ?_
      repeat (first
        | (show _ ∧ _; exact ⟨rfl, rfl, rfl⟩)
        | refine wkP ?_
        | (show OpOk _ _ _ _ _ _ _; first | refine opB (fun b => ?_) | refine opA (fun a' c' hc1 hc2 => ?_))
        | (show GJ _ _ _ _ _ _ _; first | (apply GJ.and; exact rfl; intro hg) | (apply GJ.or; exact rfl; intro hg)))
      exact Wk.outS Sup.auto (.refl _) (hk a c R rfl)
    | one s a1 b1 h =>
      rw [if_pos rfl] at hk
      refine CallOk.intro (args := [_, _, _]) (rs := [_]) T_ok Try.func21 Try.call21 rfl rfl (by kernel_rfl) rfl rfl ?_
      repeat (first
        | (show _ ∧ _; exact ⟨rfl, rfl, rfl⟩)
        | refine wkP ?_
        | (show OpOk _ _ _ _ _ _ _; first | refine opB (fun b => ?_) | refine opA (fun a' c' hc1 hc2 => ?_))
        | (show GJ _ _ _ _ _ _ _; first | (apply GJ.and; exact rfl; intro hg) | (apply GJ.or; exact rfl; intro hg)))
      refine CallOk.perm (mk_in _ _ _ _ _ _ _ _) ?_
      refine nstate_st ho (fun a2 c2 R2 h2 => ?_)
      have m1 := made_state ho
      have b1 := (bud_state _ ho).1
      generalize stateN (stM R false) = p at *
      have o2 : StOk (stM R2 p.2.full) := by rw [h2]; exact m1.ok
      have l2 : R2.length = p.2.rows.length := by rw [← h2, stM_len]
      have g2 := m1.grow
      repeat (first
        | (show _ ∧ _; exact ⟨rfl, rfl, rfl⟩)
        | refine wkP ?_
        | (show OpOk _ _ _ _ _ _ _; first | refine opB (fun b => ?_) | refine opA (fun a' c' hc1 hc2 => ?_))
        | (show GJ _ _ _ _ _ _ _; first | (apply GJ.and; exact rfl; intro hg) | (apply GJ.or; exact rfl; intro hg)))
      refine nedge_st (x := setE p.1 z) o2 (by omega) (by rw [h2]; omega) (fun R3 h3 => ?_)
      repeat (first
        | (show _ ∧ _; exact ⟨rfl, rfl, rfl⟩)
        | refine wkP ?_
        | (show OpOk _ _ _ _ _ _ _; first | refine opB (fun b => ?_) | refine opA (fun a' c' hc1 hc2 => ?_))
        | (show GJ _ _ _ _ _ _ _; first | (apply GJ.and; exact rfl; intro hg) | (apply GJ.or; exact rfl; intro hg)))
      rw [h2] at h3
      exact Wk.perm (mk_in _ _ _ _ _ _ _ _).symm (Wk.own _ (Sup.drop _ (Sup.all _)) (Wk.id (hk a2 c2 R3 (congrArg StD.rows h3))))
    | cat s x y l a1 b1 =>
      rw [if_neg (by decide), if_pos rfl] at hk
      generalize x :: y :: l = l at *
      refine CallOk.intro (args := [_, _, _]) (rs := [_]) T_ok Try.func21 Try.call21 rfl rfl (by kernel_rfl) rfl rfl ?_
      repeat (first
        | (show _ ∧ _; exact ⟨rfl, rfl, rfl⟩)
        | refine wkP ?_
        | (show OpOk _ _ _ _ _ _ _; first | refine opB (fun b => ?_) | refine opA (fun a' c' hc1 hc2 => ?_))
        | (show GJ _ _ _ _ _ _ _; first | (apply GJ.and; exact rfl; intro hg) | (apply GJ.or; exact rfl; intro hg)))
      obtain ⟨bN, hbN⟩ : ∃ z : Nat, z = b := ⟨_, rfl⟩
      subst hbN
      refine LoopOk.at (ι := Nat × Nat × List RowM × Bool × Option Addr × Nat) Keep.auto (fun (i, fi, R2, u2, a2, c2) => [(37, .int .i64 (i : Int)), (2, .int .i64 (fi : Int))]) (fun (i, fi, R2, u2, a2, c2) => .blk bN 26 (nodeV 3 z ad l.length cp mn mx) :: mkC q a2 c2 e u2 R2 r) (fun (i, fi, R2, u2, a2, c2) => i ≤ l.length ∧ catN l f (stM R false) = catN (l.drop i) fi (stM R2 u2) ∧ StOk (stM R2 u2) ∧ fi < R2.length ∧ budN (stM R2 u2) + 4 * sizeK (l.drop i) ≤ 900000) (fun (i, fi, R2, u2, a2, c2) => l.length - i) (0, f, R, false, a, c) ?_ Sub.auto Sup.auto ?_
      · exact ⟨Nat.zero_le _, by simp, ho, hf, by rw [List.drop_zero]; omega⟩
      rintro ⟨i, fi, R2, u2, a2, c2⟩ ⟨i1, i2, i3, i4, i5⟩
      dsimp only [List.cons_append, List.nil_append] at i1 i2 i3 i4 i5 ⊢
      by_cases hi : i < l.length
      · obtain ⟨kd, hkd⟩ : ∃ kd, l[i]? = some kd := ⟨_, List.getElem?_eq_getElem hi⟩
        have hmk := List.mem_of_getElem? hkd
        have hvv := hks.get hkd
        obtain ⟨ak, ck, hvk⟩ := hvv.cells
        rw [hvk] at hvv
        rw [dropN_cons hkd, cat_cons] at i2
        rw [dropN_cons hkd, sizeK] at i5
        have hwk := wrongK_all hkw kd hmk
        have hmd := (made_node kd hwk fi (stM R2 u2) i3 (by rw [stM_len]; exact i4)).1
        have hbd := (bud_made hmd).1
        repeat (first
          | (show _ ∧ _; exact ⟨rfl, rfl, rfl⟩)
          | refine wkP ?_
          | (show OpOk _ _ _ _ _ _ _; first | refine opB (fun b => ?_) | refine opA (fun a' c' hc1 hc2 => ?_))
          | (show GJ _ _ _ _ _ _ _; first | (apply GJ.and; exact rfl; intro hg) | (apply GJ.or; exact rfl; intro hg)))
        rw [Int.toNat_natCast]
        refine OpOk.loadRow rfl rfl (LdN.at hrs hvk) rfl ?_
        repeat (first
          | (show _ ∧ _; exact ⟨rfl, rfl, rfl⟩)
          | refine wkP ?_
          | (show OpOk _ _ _ _ _ _ _; first | refine opB (fun b => ?_) | refine opA (fun a' c' hc1 hc2 => ?_))
          | (show GJ _ _ _ _ _ _ _; first | (apply GJ.and; exact rfl; intro hg) | (apply GJ.or; exact rfl; intro hg)))
        refine CallOk.perm (mk_in2 _ _ _ _ _ _ _ _ _) ?_
        refine (ih kd hmk).run hvv hwk i3 i4 (.inr (by omega)) (fun a3 c3 R3 h3 => ?_)
        have e3 := stM_eq h3
        generalize nodeN kd fi (stM R2 u2) = p at *
        have hlt := hmd.lt
        have l3 : R3.length = p.2.rows.length := by rw [← e3, stM_len]
        repeat (first
          | (show _ ∧ _; exact ⟨rfl, rfl, rfl⟩)
          | refine wkP ?_
          | (show OpOk _ _ _ _ _ _ _; first | refine opB (fun b => ?_) | refine opA (fun a' c' hc1 hc2 => ?_))
          | (show GJ _ _ _ _ _ _ _; first | (apply GJ.and; exact rfl; intro hg) | (apply GJ.or; exact rfl; intro hg)))
        refine Wk.perm (mk_in2 _ _ _ _ _ _ _ _ _).symm ?_
        refine Wk.id ⟨(i + 1, p.1, R3, p.2.full, a3, c3), ⟨rfl, ?_⟩, ?_, Sub.auto, Sup.auto⟩
        all_goals try dsimp only
        · exact ⟨by omega, by rw [e3]; exact i2, by rw [e3]; exact hmd.ok, by omega, by rw [e3]; omega⟩
        · omega
      · obtain rfl : i = l.length := by omega
        rw [List.drop_length, catN] at i2
        rw [i2] at hk
        repeat (first
          | (show _ ∧ _; exact ⟨rfl, rfl, rfl⟩)
          | refine wkP ?_
          | (show OpOk _ _ _ _ _ _ _; first | refine opB (fun b => ?_) | refine opA (fun a' c' hc1 hc2 => ?_))
          | (show GJ _ _ _ _ _ _ _; first | (apply GJ.and; exact rfl; intro hg) | (apply GJ.or; exact rfl; intro hg)))
        exact Wk.own _ (Sup.drop _ (Sup.all _)) (Wk.id (hk a2 c2 R2 rfl))
    | alt s x y l a1 b1 =>
      rw [if_neg (by decide), if_neg (by decide), if_pos rfl] at hk
      generalize x :: y :: l = l at *
      refine CallOk.intro (args := [_, _, _]) (rs := [_]) T_ok Try.func21 Try.call21 rfl rfl (by kernel_rfl) rfl rfl ?_
      repeat (first
        | (show _ ∧ _; exact ⟨rfl, rfl, rfl⟩)
        | refine wkP ?_
        | (show OpOk _ _ _ _ _ _ _; first | refine opB (fun b => ?_) | refine opA (fun a' c' hc1 hc2 => ?_))
        | (show GJ _ _ _ _ _ _ _; first | (apply GJ.and; exact rfl; intro hg) | (apply GJ.or; exact rfl; intro hg)))
      obtain ⟨bN, hbN⟩ : ∃ z : Nat, z = b := ⟨_, rfl⟩
      subst hbN
      refine CallOk.perm (mk_in _ _ _ _ _ _ _ _) ?_
      refine nstate_st ho (fun a0 c0 R0 h0 => ?_)
      have m0 := made_state ho
      have d0 := (bud_state _ ho).1
      have g0 := m0.grow
      have t0 := m0.lt
      have o0 := m0.ok
      generalize stateN (stM R false) = p0 at *
      have l0 : R0.length = p0.2.rows.length := by rw [← h0, stM_len]
      repeat (first
        | (show _ ∧ _; exact ⟨rfl, rfl, rfl⟩)
        | refine wkP ?_
        | (show OpOk _ _ _ _ _ _ _; first | refine opB (fun b => ?_) | refine opA (fun a' c' hc1 hc2 => ?_))
        | (show GJ _ _ _ _ _ _ _; first | (apply GJ.and; exact rfl; intro hg) | (apply GJ.or; exact rfl; intro hg)))
      refine LoopOk.at (ι := Nat × List RowM × Bool × Option Addr × Nat) Keep.auto (fun (i, R2, u2, a2, c2) => [(54, .int .i64 (i : Int))]) (fun (i, R2, u2, a2, c2) => mkC q a2 c2 e u2 R2 (.blk bN 26 (nodeV 4 z ad l.length cp mn mx) :: r)) (fun (i, R2, u2, a2, c2) => i ≤ l.length ∧ altN l f p0.1 p0.2 = altN (l.drop i) f p0.1 (stM R2 u2) ∧ StOk (stM R2 u2) ∧ p0.2.rows.length ≤ R2.length ∧ budN (stM R2 u2) + 4 * sizeK (l.drop i) ≤ 900000) (fun (i, R2, u2, a2, c2) => l.length - i) (0, R0, p0.2.full, a0, c0) ?_ Sub.auto Sup.auto ?_
      · exact ⟨Nat.zero_le _, by rw [h0]; simp, by rw [h0]; exact o0, by omega, by rw [List.drop_zero, h0]; omega⟩
      rintro ⟨i, R2, u2, a2, c2⟩ ⟨i1, i2, i3, i4, i5⟩
      dsimp only [List.cons_append, List.nil_append] at i1 i2 i3 i4 i5 ⊢
      have hR2 := stM_len R2 u2
      by_cases hi : i < l.length
      · obtain ⟨kd, hkd⟩ : ∃ kd, l[i]? = some kd := ⟨_, List.getElem?_eq_getElem hi⟩
        have hmk := List.mem_of_getElem? hkd
        have hvv := hks.get hkd
        obtain ⟨ak, ck, hvk⟩ := hvv.cells
        rw [hvk] at hvv
        rw [dropN_cons hkd, alt_cons] at i2
        rw [dropN_cons hkd, sizeK] at i5
        have hwk := wrongK_all hkw kd hmk
        have hsz := sizeD_pos kd
        have hone := made_alt [kd] (fun y hy => by rw [List.mem_singleton.1 hy]; exact made_node kd hwk) f p0.1 (stM R2 u2) i3 (by omega) (by omega)
        have hbone := (bud_made hone).1
        rw [sizeK, sizeK] at hbone
        have hoo := hone.ok
        have hog := hone.grow
        rw [alt_one] at i2 hbone hoo hog
        dsimp only at hbone hoo hog
        have m1 := made_state i3
        have t1 := m1.lt
        have b1 := (bud_state _ i3).1
        have b2 := (bud_state _ i3).2
        have g1 := m1.grow
        repeat (first
          | (show _ ∧ _; exact ⟨rfl, rfl, rfl⟩)
          | refine wkP ?_
          | (show OpOk _ _ _ _ _ _ _; first | refine opB (fun b => ?_) | refine opA (fun a' c' hc1 hc2 => ?_))
          | (show GJ _ _ _ _ _ _ _; first | (apply GJ.and; exact rfl; intro hg) | (apply GJ.or; exact rfl; intro hg)))
        rw [Int.toNat_natCast]
        refine OpOk.loadRow rfl rfl (LdN.at hrs hvk) rfl ?_
        repeat (first
          | (show _ ∧ _; exact ⟨rfl, rfl, rfl⟩)
          | refine wkP ?_
          | (show OpOk _ _ _ _ _ _ _; first | refine opB (fun b => ?_) | refine opA (fun a' c' hc1 hc2 => ?_))
          | (show GJ _ _ _ _ _ _ _; first | (apply GJ.and; exact rfl; intro hg) | (apply GJ.or; exact rfl; intro hg)))
        refine CallOk.perm (mk_in _ _ _ _ _ _ _ _) ?_
        refine nstate_st i3 (fun a3 c3 R3 h3 => ?_)
        have o1 := m1.ok
        generalize stateN (stM R2 u2) = p1 at *
        have l3 : R3.length = p1.2.rows.length := by rw [← h3, stM_len]
        repeat (first
          | (show _ ∧ _; exact ⟨rfl, rfl, rfl⟩)
          | refine wkP ?_
          | (show OpOk _ _ _ _ _ _ _; first | refine opB (fun b => ?_) | refine opA (fun a' c' hc1 hc2 => ?_))
          | (show GJ _ _ _ _ _ _ _; first | (apply GJ.and; exact rfl; intro hg) | (apply GJ.or; exact rfl; intro hg)))
        refine nedge_st (x := freeE p1.1) (by rw [h3]; exact o1) (by omega) (by rw [h3]; omega) (fun R4 h4 => ?_)
        rw [h3] at h4
        have o2 : StOk (edgeN f (freeE p1.1) p1.2) := o1.edge t1
        have e2 := edge_len f (freeE p1.1) p1.2
        have b3 := bud_edge f (freeE p1.1) p1.2
        have u3 := edge_full f (freeE p1.1) p1.2
        generalize edgeN f (freeE p1.1) p1.2 = s2 at *
        have l4 : R4.length = s2.rows.length := by rw [← h4, stM_len]
        have hmd := (made_node kd hwk p1.1 s2 o2 (by omega)).1
        have hmb := bud_made hmd
        repeat (first
          | (show _ ∧ _; exact ⟨rfl, rfl, rfl⟩)
          | refine wkP ?_
          | (show OpOk _ _ _ _ _ _ _; first | refine opB (fun b => ?_) | refine opA (fun a' c' hc1 hc2 => ?_))
          | (show GJ _ _ _ _ _ _ _; first | (apply GJ.and; exact rfl; intro hg) | (apply GJ.or; exact rfl; intro hg)))
        refine (ih kd hmk).run hvv hwk (by rw [h4]; exact o2) (by omega) (by
          rw [h4]
          cases hu : p1.2.full with
          | true => exact .inl rfl
          | false => have := b2 hu; exact .inr (by omega)) (fun a5 c5 R5 h5 => ?_)
        rw [h4] at h5
        have e5 := stM_eq h5
        rw [h4]
        generalize nodeN kd p1.1 s2 = p5 at *
        have l5 : R5.length = p5.2.rows.length := by rw [← e5, stM_len]
        have g5 := hmd.grow
        have t5 := hmd.lt
        repeat (first
          | (show _ ∧ _; exact ⟨rfl, rfl, rfl⟩)
          | refine wkP ?_
          | (show OpOk _ _ _ _ _ _ _; first | refine opB (fun b => ?_) | refine opA (fun a' c' hc1 hc2 => ?_))
          | (show GJ _ _ _ _ _ _ _; first | (apply GJ.and; exact rfl; intro hg) | (apply GJ.or; exact rfl; intro hg)))
        refine nedge_st (x := freeE p0.1) (by rw [e5]; exact hmd.ok) (by omega) (by rw [e5]; omega) (fun R6 h6 => ?_)
        rw [e5] at h6
        have e6 := edge_len p5.1 (freeE p0.1) p5.2
        repeat (first
          | (show _ ∧ _; exact ⟨rfl, rfl, rfl⟩)
          | refine wkP ?_
          | (show OpOk _ _ _ _ _ _ _; first | refine opB (fun b => ?_) | refine opA (fun a' c' hc1 hc2 => ?_))
          | (show GJ _ _ _ _ _ _ _; first | (apply GJ.and; exact rfl; intro hg) | (apply GJ.or; exact rfl; intro hg)))
        refine Wk.perm (mk_in _ _ _ _ _ _ _ _).symm ?_
        have l6 : R6.length = R5.length := by have := congrArg (fun st : StD => st.rows.length) h6; rw [stM_len, e6] at this; omega
        refine Wk.id ⟨(i + 1, R6, p5.2.full, a5, c5), ⟨rfl, ?_⟩, ?_, Sub.auto, Sup.auto⟩
        all_goals try dsimp only
        · exact ⟨by omega, by rw [h6]; exact i2, by rw [h6]; exact hoo, by omega, by rw [h6]; omega⟩
        · omega
      · obtain rfl : i = l.length := by omega
        rw [List.drop_length, altN] at i2
        rw [i2] at hk
        repeat (first
          | (show _ ∧ _; exact ⟨rfl, rfl, rfl⟩)
          | refine wkP ?_
          | (show OpOk _ _ _ _ _ _ _; first | refine opB (fun b => ?_) | refine opA (fun a' c' hc1 hc2 => ?_))
          | (show GJ _ _ _ _ _ _ _; first | (apply GJ.and; exact rfl; intro hg) | (apply GJ.or; exact rfl; intro hg)))
        exact Wk.perm (mk_in _ _ _ _ _ _ _ _).symm (Wk.own _ (Sup.drop _ (Sup.all _)) (Wk.id (hk a2 c2 R2 rfl)))
    | rep s x a1 b1 h =>
      rw [if_neg (by decide), if_neg (by decide), if_neg (by decide), if_pos rfl] at hk
      have hkid : kidN [x] = nodeN x := by rw [kidN]
      rw [hkid] at hk
      have hk1 := RgsOk.single hks
      have hsk : sizeK [x] = sizeD x := by simp [sizeK]
      have hb2 : budN (stM R false) + 4 * sizeD x + 4 ≤ 900000 := by
        rcases hb with h | h
        · cases h
        · rw [sizeD, hsk] at h; omega
      refine CallOk.intro (args := [_, _, _]) (rs := [_]) T_ok Try.func21 Try.call21 rfl rfl (by kernel_rfl) rfl rfl ?_
      repeat (first
        | (show _ ∧ _; exact ⟨rfl, rfl, rfl⟩)
        | refine wkP ?_
        | (show OpOk _ _ _ _ _ _ _; first | refine opB (fun b => ?_) | refine opA (fun a' c' hc1 hc2 => ?_))
        | (show GJ _ _ _ _ _ _ _; first | (apply GJ.and; exact rfl; intro hg) | (apply GJ.or; exact rfl; intro hg)))
      refine CallOk.perm (mk_in _ _ _ _ _ _ _ _) ?_
      refine nrepeat_ok (ih x (List.mem_singleton.2 rfl)) hrs hk1 (wrongK_all (l := [x]) hkw x (List.mem_singleton.2 rfl)) h ho hf hb2 (fun a2 c2 R2 h2 => ?_)
      repeat (first
        | (show _ ∧ _; exact ⟨rfl, rfl, rfl⟩)
        | refine wkP ?_
        | (show OpOk _ _ _ _ _ _ _; first | refine opB (fun b => ?_) | refine opA (fun a' c' hc1 hc2 => ?_))
        | (show GJ _ _ _ _ _ _ _; first | (apply GJ.and; exact rfl; intro hg) | (apply GJ.or; exact rfl; intro hg)))
      exact Wk.perm (mk_in _ _ _ _ _ _ _ _).symm (Wk.own _ (Sup.drop _ (Sup.all _)) (Wk.id (hk a2 c2 R2 h2)))⟩
end
end Go.Proofs.Ytkpdnpcmeadggaa
