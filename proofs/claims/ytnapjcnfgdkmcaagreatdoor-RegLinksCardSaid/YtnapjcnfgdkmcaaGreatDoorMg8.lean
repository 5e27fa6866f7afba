/- Texts of a walk, one behind the other. -/
import Derived.Test.YtnapjcnfgdkmcaaGreatDoorMg3
import Derived.Test.YtnapjcnfgdkmcaaGreatDoorMg7
section
/- Contracts of scope: proper, the looker. -/
namespace Go.E
open Go
instance HasObj.app (G l : Chs) (b : Nat) (o : Obj) (f : Chunk → Chs) [h : HasObj l b o f] : HasObj (G ++ l) b o (fun x => G ++ f x) := ⟨fun x => (h.repl x).app G⟩
end Go.E
namespace Go.Proofs.YtnapjcnfgdkmcaaGreatDoor
open Go Go.E
set_option linter.unusedVariables false
set_option linter.unusedSectionVars false
set_option linter.unusedSimpArgs false
set_option maxRecDepth 10000
theorem okChrs_split : ∀ (l : List UInt8) (i k : Nat), k ≤ l.length → okChrs i l = (okChrs i (l.take k) && okChrs (i + k) (l.drop k))
  | l, i, 0, _ => by simp [okChrs]
  | [], i, k + 1, h => by simp at h
  | c :: l, i, k + 1, h => by
    rw [List.take_succ_cons, List.drop_succ_cons, okChrs, okChrs, okChrs_split l (i + 1) k (by simpa using h), Bool.and_assoc, show i + 1 + k = i + (k + 1) by omega]
section
variable {ro : Ro} {own : Chs} {K : Value → Ro → Chs → Prop}
theorem proper_ok {t : List UInt8} (hM : MaxOk ro) (ht : t.length ≤ 4611686018427387904) (hk : ∀ ro', Le ro ro' → K (.bool (properD t)) ro' own) : CallOk Tryz.prog 68 #[str t] ro own K := by
  refine CallOk.intro (args := [_]) (rs := [_]) T_ok Tryz.func68 Tryz.call68 rfl rfl (by kernel_rfl) rfl rfl ?_
  repeat (first | exact endA | refine wkP ?_ | refine opB (fun b => ?_) | refine opA (fun a' c' hc1 hc2 => ?_) | (apply GJ.and; exact rfl; intro hg) | (apply GJ.or; exact rfl; intro hg))
  refine OpOk.bytesOf rfl Tryz.underlying9 Tryz.underlying88 Tryz.underlying5 (by unfold maxLen; omega) (fun ro1 b c hl1 hr => ?_)
  have hk1 := hk ro1 hl1
  have hM1 := hM.le hl1
  unfold properD at hk1
  repeat (first | exact endA | refine wkP ?_ | refine opB (fun b => ?_) | refine opA (fun a' c' hc1 hc2 => ?_) | (apply GJ.and; exact rfl; intro hg) | (apply GJ.or; exact rfl; intro hg))
  refine LoopOk.at (ι := Nat) Keep.auto (fun i => [(9, .int .i64 (i : Int))]) (fun i => own) (fun i => i ≤ t.length ∧ okChrs 0 (t.take i) = true) (fun i => t.length - i) 0 ?_ Sub.auto Sup.auto ?_
  · exact ⟨Nat.zero_le _, by simp [okChrs]⟩
  rintro i ⟨i1, i2⟩
  dsimp only [List.cons_append, List.nil_append] at i1 i2 ⊢
  by_cases hi : i < t.length
  · obtain ⟨y, hy⟩ : ∃ y, t[i]? = some y := ⟨_, List.getElem?_eq_getElem hi⟩
    have hyb : t[((i : Nat) : Int).toNat]! = y := by rw [Int.toNat_natCast, List.getElem!_eq_getElem?_getD, hy]; rfl
    have htk : t.take (i + 1) = t.take i ++ [y] := by rw [List.take_add_one, hy]; rfl
    have hdr : t.drop i = y :: t.drop (i + 1) := by rw [List.drop_eq_getElem_cons hi]; congr 1; exact Option.some.inj ((List.getElem?_eq_getElem hi).symm.trans hy)
    have hlen : (t.take i).length = i := by rw [List.length_take]; omega
    have hs1 : okChrs 0 (t.take (i + 1)) = decide (okChr i y.toNat) := by
      rw [htk, okChrs_split (t.take i ++ [y]) 0 i (by rw [List.length_append, hlen]; omega), List.take_left' hlen, List.drop_left' hlen, i2, Bool.true_and, Nat.zero_add, okChrs, okChrs, Bool.and_true]
    have hs2 : okChrs 0 t = (decide (okChr i y.toNat) && okChrs (i + 1) (t.drop (i + 1))) := by
      rw [okChrs_split t 0 i i1, i2, Bool.true_and, Nat.zero_add, hdr, okChrs]
    repeat (first | exact endA | refine wkP ?_ | refine opB (fun b => ?_) | refine opA (fun a' c' hc1 hc2 => ?_) | (apply GJ.and; exact rfl; intro hg) | (apply GJ.or; exact rfl; intro hg))
    rw [hyb]
    by_cases hok : okChr i y.toNat
    · rw [decide_eq_true hok] at hs1
      unfold okChr at hok
      refine Br.f (by omega) ?_
      repeat (first | exact endA | refine wkP ?_ | refine opB (fun b => ?_) | refine opA (fun a' c' hc1 hc2 => ?_) | (apply GJ.and; exact rfl; intro hg) | (apply GJ.or; exact rfl; intro hg))
      refine Wk.id ⟨i + 1, ⟨rfl, ?_⟩, ?_, Sub.auto, Sup.auto⟩
      all_goals try dsimp only
      · exact ⟨by omega, hs1⟩
      · omega
    · rw [decide_eq_false hok, Bool.false_and] at hs2
      rw [hs2, Bool.false_and] at hk1
      unfold okChr at hok
      refine Br.t (by omega) ?_
      repeat (first | exact endA | refine wkP ?_ | refine opB (fun b => ?_) | refine opA (fun a' c' hc1 hc2 => ?_) | (apply GJ.and; exact rfl; intro hg) | (apply GJ.or; exact rfl; intro hg))
      exact Wk.outS Sup.auto (.refl _) hk1
  · obtain rfl : i = t.length := by omega
    rw [List.take_length] at i2
    rw [i2, Bool.true_and] at hk1
    by_cases h0 : t = []
    · subst h0
      repeat (first | exact endA | refine wkP ?_ | refine opB (fun b => ?_) | refine opA (fun a' c' hc1 hc2 => ?_) | (apply GJ.and; exact rfl; intro hg) | (apply GJ.or; exact rfl; intro hg))
      exact Wk.outS Sup.auto (.refl _) hk1
    by_cases h24 : t.length ≤ 24
    · rw [decide_eq_true h0, decide_eq_true h24, Bool.true_and, Bool.true_and] at hk1
      repeat (first | exact endA | refine wkP ?_ | refine opB (fun b => ?_) | refine opA (fun a' c' hc1 hc2 => ?_) | (apply GJ.and; exact rfl; intro hg) | (apply GJ.or; exact rfl; intro hg))
      refine word_okP hM1 (by omega) ?_
      repeat (first | exact endA | refine wkP ?_ | refine opB (fun b => ?_) | refine opA (fun a' c' hc1 hc2 => ?_) | (apply GJ.and; exact rfl; intro hg) | (apply GJ.or; exact rfl; intro hg))
      exact Wk.outS Sup.auto (.refl _) hk1
    · rw [decide_eq_true h0, decide_eq_false h24, Bool.and_false, Bool.false_and] at hk1
      repeat (first | exact endA | refine wkP ?_ | refine opB (fun b => ?_) | refine opA (fun a' c' hc1 hc2 => ?_) | (apply GJ.and; exact rfl; intro hg) | (apply GJ.or; exact rfl; intro hg))
      exact Wk.outS Sup.auto (.refl _) hk1
theorem Rds.clip {ro : Ro} {own : Chs} {a : Option Addr} {n c s : Nat} {cs : List Value} (hr : Rds ro own a n c s cs) : Rds ro own a n n s cs :=
  ⟨fun h hs => by
    rcases hr.run h hs with ⟨h1, h2, a', c', h3, _⟩ | ⟨h1, b, o, cap, h3, h4, h5, h6⟩
    · exact .inl ⟨h1, h2, a, n, by rw [h1], by rw [h1]; exact Nat.zero_le _⟩
    · cases h3
      exact .inr ⟨h1, b, o, n, rfl, Nat.le_refl _, Nat.le_trans h4 h5, h6⟩, hr.len, Nat.le_refl _, Nat.le_trans hr.le hr.max⟩
theorem node_get {ds : List NodeD} {xs : List NodeA} {i o : Nat} {d : NodeD} {x : NodeA} (hd : ds[i]? = some d) (hx : xs[i]? = some x) (ho : o < 18) : (nodesV ds xs)[i * 18 + o]? = (nodeV d x)[o]? := by
  have h := nodesV_drop ds xs i d x hd hx
  rw [← h, List.getElem?_take_of_lt ho, List.getElem?_drop]
theorem node_fields {ds : List NodeD} {xs : List NodeA} {i : Nat} {d : NodeD} {x : NodeA} (hd : ds[i]? = some d) (hx : xs[i]? = some x) : (nodesV ds xs)[i * 18 + 13]? = some (.slice x.fa d.fields.length x.fc) := by
  have := congrArg (·[13]?) (nodesV_drop ds xs i d x hd hx)
  simpa [nodeV, List.getElem?_take, List.getElem?_drop] using this
/-- Names that are one's own, or another's yet. -/
def nmC (cs : List (List UInt8)) : Option (Option Addr × Nat) → Chs
  | none => []
  | some (oa, oc) => [.sl oa cs.length oc 9 1 (cs.map str)]
def nmV (na : Option Addr) (ns cs : List (List UInt8)) : Option (Option Addr × Nat) → Value
  | none => .slice na ns.length ns.length
  | some (oa, oc) => .slice oa cs.length oc
/-- A fault as a value. -/
def flV (f : Int × Int) : Value := .agg #[.int .i64 f.1, .int .i64 f.2]
/-- Texts that are no longer than can be. -/
structure TextIn (s : SpecD) : Prop where
  names : ∀ d ∈ s.nodes, ∀ f ∈ d.fields, f.name.length ≤ 4611686018427387904
  texts : ∀ d ∈ s.nodes, d.text.length ≤ 4611686018427387904
  defs : ∀ d ∈ s.defs, d.name.length ≤ 4611686018427387904
/-- A map whose keys are these names. -/
structure KeysOk (kn : List (List UInt8)) (M : List (List UInt8 × Int × Nat)) : Prop where
  map : MapOk (fun l : List UInt8 => l.length ≤ maxLen) M
  is : ∀ x, (getG M x).isSome = decide (x ∈ kn)
def KindC (s : SpecD) (a : SpecA) (ro : Ro) (p bm : Nat) (M : List (List UInt8 × Int × Nat)) (cM : Nat) (R : Chs) (kn : List (List UInt8)) (n : Nat) : Prop :=
  ∀ (i : Nat), i < n → i < s.nodes.length → ∀ (ns : List (List UInt8)) (na : Option Addr) (nc : Nat) (ro' : Ro) (G : Chs) (K : Value → Ro → Chs → Prop), Le ro ro' →
    Rds ro' (G ++ .blk p 127 (specV s a ++ [.map (some bm)]) :: .obj bm (mapG str (Value.int .i64) M cM) :: R) na ns.length nc 1 (ns.map str) → ns.length + 65 * i ≤ 200000 →
    (∀ ro2, Le ro' ro2 → K (flV (kindS s kn n i ns)) ro2 (G ++ .blk p 127 (specV s a ++ [.map (some bm)]) :: .obj bm (mapG str (Value.int .i64) M cM) :: R)) →
    CallOk Tryz.prog 69 #[ptr' p, .int .i64 (i : Int), .slice na ns.length nc] ro' (G ++ .blk p 127 (specV s a ++ [.map (some bm)]) :: .obj bm (mapG str (Value.int .i64) M cM) :: R) K
variable {s : SpecD} {a : SpecA} {p bm : Nat} {M : List (List UInt8 × Int × Nat)} {cM : Nat} {R : Chs} {kn : List (List UInt8)}
set_option maxHeartbeats 4000000 in
theorem lrecord_ok (ho : SpecOk ro s a) (hv : Ahead s) (hM : MaxOk ro) (hT : TextIn s) {n : Nat} (ih : KindC s a ro p bm M cM R kn n) {i : Nat} {d : NodeD} (hin : i < n + 1) (hd : s.nodes[i]? = some d) (h5 : d.kind = 5) {ns : List (List UInt8)} {na : Option Addr} {nc : Nat} {ro' : Ro} {G : Chs} (hle : Le ro ro')
    (hns : Rds ro' (G ++ .blk p 127 (specV s a ++ [.map (some bm)]) :: .obj bm (mapG str (Value.int .i64) M cM) :: R) na ns.length nc 1 (ns.map str)) (hb : ns.length + 65 * i ≤ 200000)
    (hk : ∀ ro2, Le ro' ro2 → K (flV (recS (kindS s kn n) (i : Int) d.fields ns)) ro2 (G ++ .blk p 127 (specV s a ++ [.map (some bm)]) :: .obj bm (mapG str (Value.int .i64) M cM) :: R)) :
    CallOk Tryz.prog 93 #[ptr' p, .int .i64 (i : Int), .slice na ns.length nc] ro' (G ++ .blk p 127 (specV s a ++ [.map (some bm)]) :: .obj bm (mapG str (Value.int .i64) M cM) :: R) K := by
  have hi := (List.getElem?_eq_some_iff.1 hd).1
  have hL : Leq ro ro' := ⟨hle.1⟩
  have hr1 : Rs ro' a.na s.nodes.length a.nc 18 (nodesV s.nodes a.xs) := ho.nodes.up
  have hm := hr1.max
  unfold maxLen at hm
  obtain ⟨x, hx⟩ : ∃ x, a.xs[i]? = some x := ⟨_, List.getElem?_eq_getElem (by rw [ho.len]; exact hi)⟩
  have hn1 := (ho.each i d x hd hx).le hle
  have hfr := hn1.fields
  have hdr1 := nodesV_drop _ _ _ _ _ hd hx
  obtain ⟨hf, hks⟩ := hv i d hd
  have hsm := form_small hf
  have hnl := hns.len
  have hnc := hns.le
  have hnm := hns.max
  unfold maxLen at hnm
  refine CallOk.intro (args := [_, _, _]) (rs := [_]) T_ok Tryz.func93 Tryz.call93 rfl rfl (by kernel_rfl) rfl rfl ?_
  repeat (first | exact endA | refine wkP ?_ | refine opB (fun b => ?_) | refine opA (fun a' c' hc1 hc2 => ?_) | (apply GJ.and; exact rfl; intro hg) | (apply GJ.or; exact rfl; intro hg))
  rw [Int.toNat_natCast, Nat.add_assoc]
  refine OpOk.load rfl rfl (Ld.rs hr1 (node_fields hd hx)) ?_
  have hns2 := Rds.clip hns
  have hfm := hfr.max
  have hfl := hfr.le
  unfold maxLen at hfm
  repeat (first | exact endA | refine wkP ?_ | refine opB (fun b => ?_) | refine opA (fun a' c' hc1 hc2 => ?_) | (apply GJ.and; exact rfl; intro hg) | (apply GJ.or; exact rfl; intro hg))
  refine LoopOk.auto (ι := Nat × List (List UInt8) × Option (Option Addr × Nat)) Keep.auto (fun (j, cs, w) => [(29, .int .i64 (j : Int)), (7, nmV na ns cs w)]) (fun (j, cs, w) => nmC cs w ++ .blk b 58 [.int .i64 0, .int .i64 0] :: (G ++ .blk p 127 (specV s a ++ [.map (some bm)]) :: .obj bm (mapG str (Value.int .i64) M cM) :: R)) (fun (j, cs, w) r' => j ≤ d.fields.length ∧ (w = none → j = 0 ∧ cs = ns) ∧ (∀ q, w = some q → cs.length ≤ q.2 ∧ q.2 ≤ maxLen) ∧ cs.length = ns.length + j ∧ recS (kindS s kn n) (i : Int) d.fields ns = recS (kindS s kn n) (i : Int) (d.fields.drop j) cs) (fun (j, cs, w) => d.fields.length - j) (0, ns, none) ?_ Sub.auto Sup.auto ?_
  · exact ⟨Nat.zero_le _, fun _ => ⟨rfl, rfl⟩, (fun q h => by cases h), rfl, rfl⟩
  rintro ⟨j, cs, w⟩ ro2 hl2 ⟨i1, i2, i3, i4, i5⟩
  dsimp only [List.cons_append, List.nil_append] at i1 i2 i3 i4 i5 ⊢
  have hL2 : Leq ro' ro2 := ⟨hl2.1⟩
  have hM2 := (hM.le hle).le hl2
  have hfr2 : Rs ro2 x.fa d.fields.length x.fc 5 (fieldsV d.fields) := hfr.up
  cases w with
  | none =>
    obtain ⟨hj0, rfl⟩ := i2 rfl
    have hnames : Rds ro2 (.blk b 58 [.int .i64 0, .int .i64 0] :: (G ++ .blk p 127 (specV s a ++ [.map (some bm)]) :: .obj bm (mapG str (Value.int .i64) M cM) :: R)) na cs.length cs.length 1 (cs.map str) := hns2.up
    dsimp only [nmC, nmV, List.nil_append]
    by_cases hj : j < d.fields.length
    · obtain ⟨f, hfj⟩ : ∃ f, d.fields[j]? = some f := ⟨_, List.getElem?_eq_getElem hj⟩
      have hfe : d.fields[j] = f := Option.some.inj ((List.getElem?_eq_getElem hj).symm.trans hfj)
      have hfd := fieldsV_drop d.fields hj
      rw [hfe] at hfd
      have hdj : d.fields.drop j = f :: d.fields.drop (j + 1) := by rw [List.drop_eq_getElem_cons hj, hfe]
      rw [hdj, recS] at i5
      have hfm' := List.mem_of_getElem? hfj
      have hfn := hT.names d (List.mem_of_getElem? hd) f hfm'
      have hty : f.type ∈ kidsD d := by rw [kids_rec hf h5]; exact List.mem_map.2 ⟨f, hfm', rfl⟩
      obtain ⟨q1, q2⟩ := hks _ hty
      obtain ⟨k, hk0⟩ := Int.eq_ofNat_of_zero_le q1
      clear hfe hfj hdj hty hfm'
      repeat (first | exact endA | refine wkP ?_ | refine opB (fun b => ?_) | refine opA (fun a' c' hc1 hc2 => ?_) | (apply GJ.and; exact rfl; intro hg) | (apply GJ.or; exact rfl; intro hg))
      rw [Int.toNat_natCast]
      refine OpOk.loadRow rfl rfl (LdN.at hfr2 hfd) rfl ?_
      repeat (first | exact endA | refine wkP ?_ | refine opB (fun b => ?_) | refine opA (fun a' c' hc1 hc2 => ?_) | (apply GJ.and; exact rfl; intro hg) | (apply GJ.or; exact rfl; intro hg))
      rename_i b9x
      obtain ⟨bF, hbF⟩ : ∃ z : Nat, z = b := ⟨_, rfl⟩
      subst hbF
      refine proper_ok hM2 hfn (fun ro3 hl3 => ?_)
      have hL3 : Leq ro2 ro3 := ⟨hl3.1⟩
      by_cases hp : properD f.name = false
      · rw [if_pos hp] at i5
        have hk2 := hk ro3 (hl2.trans hl3)
        rw [i5] at hk2
        rw [hp]
        dsimp only [flV] at hk2
        repeat (first | exact endA | refine wkP ?_ | refine opB (fun b => ?_) | refine opA (fun a' c' hc1 hc2 => ?_) | (apply GJ.and; exact rfl; intro hg) | (apply GJ.or; exact rfl; intro hg))
        exact Wk.outS Sup.auto (.refl _) hk2
      rw [if_neg hp] at i5
      have hp1 : properD f.name = true := by simpa using hp
      rw [hp1]
      have hcm : (cs.map str).length = cs.length := List.length_map ..
      repeat (first | exact endA | refine wkP ?_ | refine opB (fun b => ?_) | refine opA (fun a' c' hc1 hc2 => ?_) | (apply GJ.and; exact rfl; intro hg) | (apply GJ.or; exact rfl; intro hg))
      refine LoopOk.at (ι := Nat) Keep.auto (fun e => [(41, .int .i64 (e : Int))]) (fun e => .blk bF 47 (fieldV f) :: .blk b9x 58 [.int .i64 0, .int .i64 0] :: (G ++ .blk p 127 (specV s a ++ [.map (some bm)]) :: .obj bm (mapG str (Value.int .i64) M cM) :: R)) (fun e => e ≤ cs.length ∧ f.name ∉ cs.take e) (fun e => cs.length - e) 0 ?_ Sub.auto Sup.auto ?_
      · exact ⟨Nat.zero_le _, by simp⟩
      rintro e ⟨m1, m2⟩
      dsimp only [List.cons_append, List.nil_append] at m1 m2 ⊢
      by_cases he : e < cs.length
      · obtain ⟨y, hy⟩ : ∃ y, cs[e]? = some y := ⟨_, List.getElem?_eq_getElem he⟩
        have hyb : cs[((e : Nat) : Int).toNat]! = y := by rw [Int.toNat_natCast, List.getElem!_eq_getElem?_getD, hy]; rfl
        have htk : cs.take (e + 1) = cs.take e ++ [y] := by rw [List.take_add_one, hy]; rfl
        repeat (first | exact endA | refine wkP ?_ | refine opB (fun b => ?_) | refine opA (fun a' c' hc1 hc2 => ?_) | (apply GJ.and; exact rfl; intro hg) | (apply GJ.or; exact rfl; intro hg))
        rw [hyb]
        by_cases hyf : y = f.name
        · have hmem : f.name ∈ cs := hyf ▸ List.mem_of_getElem? hy
          rw [if_pos hmem] at i5
          have hk2 := hk ro3 (hl2.trans hl3)
          rw [i5] at hk2
          dsimp only [flV] at hk2
          refine Br.t hyf ?_
          repeat (first | exact endA | refine wkP ?_ | refine opB (fun b => ?_) | refine opA (fun a' c' hc1 hc2 => ?_) | (apply GJ.and; exact rfl; intro hg) | (apply GJ.or; exact rfl; intro hg))
          exact Wk.outS Sup.auto (.refl _) hk2
        · refine Br.f hyf ?_
          repeat (first | exact endA | refine wkP ?_ | refine opB (fun b => ?_) | refine opA (fun a' c' hc1 hc2 => ?_) | (apply GJ.and; exact rfl; intro hg) | (apply GJ.or; exact rfl; intro hg))
          refine Wk.id ⟨e + 1, ⟨rfl, ?_⟩, ?_, Sub.auto, Sup.auto⟩
          all_goals try dsimp only
          · refine ⟨by omega, ?_⟩
            rw [htk, List.mem_append, List.mem_singleton]
            exact fun h => h.elim m2 (fun h => hyf h.symm)
          · omega
      · obtain rfl : e = cs.length := by omega
        rw [List.take_length] at m2
        rw [if_neg m2] at i5
        repeat (first | exact endA | refine wkP ?_ | refine opB (fun b => ?_) | refine opA (fun a' c' hc1 hc2 => ?_) | (apply GJ.and; exact rfl; intro hg) | (apply GJ.or; exact rfl; intro hg))
        rw [hk0] at i5 ⊢
        have hRD : Rds ro3 (.blk bF 47 (fieldV f) :: .blk b9x 58 [.int .i64 0, .int .i64 0] :: (G ++ .blk p 127 (specV s a ++ [.map (some bm)]) :: .obj bm (mapG str (Value.int .i64) M cM) :: R)) na cs.length cs.length 1 (cs.map str) := (by exact hns2.up)
        refine ih k (by omega) (by omega) cs na cs.length ro3 (.blk bF 47 (fieldV f) :: .blk b9x 58 [.int .i64 0, .int .i64 0] :: G) _ ((hle.trans hl2).trans hl3) hRD (by omega) (fun ro4 hl4 => ?_)
        have hk4 := fun r5 h5 => hk r5 (((hl2.trans hl3).trans hl4).trans h5)
        dsimp only [List.cons_append, flV]
        generalize kindS s kn n (k : Int) cs = z at *
        obtain ⟨z1, z2⟩ := z
        dsimp only at i5 ⊢
        repeat (first | exact endA | refine wkP ?_ | refine opB (fun b => ?_) | refine opA (fun a' c' hc1 hc2 => ?_) | (apply GJ.and; exact rfl; intro hg) | (apply GJ.or; exact rfl; intro hg))
        by_cases hz : z1 ≠ 0
        · rw [if_pos hz] at i5
          have hk2 := hk4 ro4 (Le.refl _)
          rw [i5] at hk2
          dsimp only [flV] at hk2
          refine Br.t hz ?_
          repeat (first | exact endA | refine wkP ?_ | refine opB (fun b => ?_) | refine opA (fun a' c' hc1 hc2 => ?_) | (apply GJ.and; exact rfl; intro hg) | (apply GJ.or; exact rfl; intro hg))
          exact Wk.outS Sup.auto (.refl _) hk2
        · rw [if_neg hz] at i5
          have hL4 : Leq ro3 ro4 := ⟨hl4.1⟩
          have hcl : cs.map str ++ [str f.name] = (cs ++ [f.name]).map str := by simp
          have hnl : cs.length + 1 = (cs ++ [f.name]).length := by simp
          refine Br.f hz ?_
          repeat (first | exact endA | refine wkP ?_ | refine opB (fun b => ?_) | refine opA (fun a' c' hc1 hc2 => ?_) | (apply GJ.and; exact rfl; intro hg) | (apply GJ.or; exact rfl; intro hg))
          refine OpOk.appendFull rfl rfl rfl rfl rfl (by exact hns2.up) (Rds.hasSl (by decide) (by decide) rfl) (by intro u hu; simp at hu; subst hu; rfl) (by decide) (by omega) (fun a' c' hc1 hc2 => ?_)
          repeat (first | exact endA | refine wkP ?_ | refine opB (fun b => ?_) | refine opA (fun a' c' hc1 hc2 => ?_) | (apply GJ.and; exact rfl; intro hg) | (apply GJ.or; exact rfl; intro hg))
          rw [hcl]
          rw [hnl] at hc1 ⊢
          refine Wk.id ⟨(j + 1, cs ++ [f.name], some (a', c')), ?_, ?_, Sub.auto, Sup.auto⟩
          all_goals try dsimp only
          · exact ⟨by omega, (fun h => by cases h), (fun q hq => by cases hq; exact ⟨hc1, hc2⟩), by rw [← hnl]; omega, i5⟩
          · omega
    · rw [List.drop_eq_nil_of_le (by omega), recS] at i5
      have hk2 := hk ro2 hl2
      rw [i5] at hk2
      dsimp only [flV] at hk2
      repeat (first | exact endA | refine wkP ?_ | refine opB (fun b => ?_) | refine opA (fun a' c' hc1 hc2 => ?_) | (apply GJ.and; exact rfl; intro hg) | (apply GJ.or; exact rfl; intro hg))
      exact Wk.outS Sup.auto (.refl _) hk2
  | some q =>
    obtain ⟨oa, oc⟩ := q
    obtain ⟨i6, i7⟩ := i3 _ rfl
    dsimp only at i6 i7
    have i8 := i7
    unfold maxLen at i8
    dsimp only [nmC, nmV, List.nil_append, List.cons_append]
    by_cases hj : j < d.fields.length
    · obtain ⟨f, hfj⟩ : ∃ f, d.fields[j]? = some f := ⟨_, List.getElem?_eq_getElem hj⟩
      have hfe : d.fields[j] = f := Option.some.inj ((List.getElem?_eq_getElem hj).symm.trans hfj)
      have hfd := fieldsV_drop d.fields hj
      rw [hfe] at hfd
      have hdj : d.fields.drop j = f :: d.fields.drop (j + 1) := by rw [List.drop_eq_getElem_cons hj, hfe]
      rw [hdj, recS] at i5
      have hfm' := List.mem_of_getElem? hfj
      have hfn := hT.names d (List.mem_of_getElem? hd) f hfm'
      have hty : f.type ∈ kidsD d := by rw [kids_rec hf h5]; exact List.mem_map.2 ⟨f, hfm', rfl⟩
      obtain ⟨q1, q2⟩ := hks _ hty
      obtain ⟨k, hk0⟩ := Int.eq_ofNat_of_zero_le q1
      clear hfe hfj hdj hty hfm'
      repeat (first | exact endA | refine wkP ?_ | refine opB (fun b => ?_) | refine opA (fun a' c' hc1 hc2 => ?_) | (apply GJ.and; exact rfl; intro hg) | (apply GJ.or; exact rfl; intro hg))
      rw [Int.toNat_natCast]
      refine OpOk.loadRow rfl rfl (LdN.at hfr2 hfd) rfl ?_
      repeat (first | exact endA | refine wkP ?_ | refine opB (fun b => ?_) | refine opA (fun a' c' hc1 hc2 => ?_) | (apply GJ.and; exact rfl; intro hg) | (apply GJ.or; exact rfl; intro hg))
      rename_i b9x
      obtain ⟨bF, hbF⟩ : ∃ z : Nat, z = b := ⟨_, rfl⟩
      subst hbF
      refine proper_ok hM2 hfn (fun ro3 hl3 => ?_)
      have hL3 : Leq ro2 ro3 := ⟨hl3.1⟩
      by_cases hp : properD f.name = false
      · rw [if_pos hp] at i5
        have hk2 := hk ro3 (hl2.trans hl3)
        rw [i5] at hk2
        rw [hp]
        dsimp only [flV] at hk2
        repeat (first | exact endA | refine wkP ?_ | refine opB (fun b => ?_) | refine opA (fun a' c' hc1 hc2 => ?_) | (apply GJ.and; exact rfl; intro hg) | (apply GJ.or; exact rfl; intro hg))
        exact Wk.outS Sup.auto (.refl _) hk2
      rw [if_neg hp] at i5
      have hp1 : properD f.name = true := by simpa using hp
      rw [hp1]
      have hcm : (cs.map str).length = cs.length := List.length_map ..
      repeat (first | exact endA | refine wkP ?_ | refine opB (fun b => ?_) | refine opA (fun a' c' hc1 hc2 => ?_) | (apply GJ.and; exact rfl; intro hg) | (apply GJ.or; exact rfl; intro hg))
      refine LoopOk.at (ι := Nat) Keep.auto (fun e => [(41, .int .i64 (e : Int))]) (fun e => .blk bF 47 (fieldV f) :: .sl oa cs.length oc 9 1 (cs.map str) :: .blk b9x 58 [.int .i64 0, .int .i64 0] :: (G ++ .blk p 127 (specV s a ++ [.map (some bm)]) :: .obj bm (mapG str (Value.int .i64) M cM) :: R)) (fun e => e ≤ cs.length ∧ f.name ∉ cs.take e) (fun e => cs.length - e) 0 ?_ Sub.auto Sup.auto ?_
      · exact ⟨Nat.zero_le _, by simp⟩
      rintro e ⟨m1, m2⟩
      dsimp only [List.cons_append, List.nil_append] at m1 m2 ⊢
      by_cases he : e < cs.length
      · obtain ⟨y, hy⟩ : ∃ y, cs[e]? = some y := ⟨_, List.getElem?_eq_getElem he⟩
        have hyb : cs[((e : Nat) : Int).toNat]! = y := by rw [Int.toNat_natCast, List.getElem!_eq_getElem?_getD, hy]; rfl
        have htk : cs.take (e + 1) = cs.take e ++ [y] := by rw [List.take_add_one, hy]; rfl
        repeat (first | exact endA | refine wkP ?_ | refine opB (fun b => ?_) | refine opA (fun a' c' hc1 hc2 => ?_) | (apply GJ.and; exact rfl; intro hg) | (apply GJ.or; exact rfl; intro hg))
        rw [hyb]
        by_cases hyf : y = f.name
        · have hmem : f.name ∈ cs := hyf ▸ List.mem_of_getElem? hy
          rw [if_pos hmem] at i5
          have hk2 := hk ro3 (hl2.trans hl3)
          rw [i5] at hk2
          dsimp only [flV] at hk2
          refine Br.t hyf ?_
          repeat (first | exact endA | refine wkP ?_ | refine opB (fun b => ?_) | refine opA (fun a' c' hc1 hc2 => ?_) | (apply GJ.and; exact rfl; intro hg) | (apply GJ.or; exact rfl; intro hg))
          exact Wk.outS Sup.auto (.refl _) hk2
        · refine Br.f hyf ?_
          repeat (first | exact endA | refine wkP ?_ | refine opB (fun b => ?_) | refine opA (fun a' c' hc1 hc2 => ?_) | (apply GJ.and; exact rfl; intro hg) | (apply GJ.or; exact rfl; intro hg))
          refine Wk.id ⟨e + 1, ⟨rfl, ?_⟩, ?_, Sub.auto, Sup.auto⟩
          all_goals try dsimp only
          · refine ⟨by omega, ?_⟩
            rw [htk, List.mem_append, List.mem_singleton]
            exact fun h => h.elim m2 (fun h => hyf h.symm)
          · omega
      · obtain rfl : e = cs.length := by omega
        rw [List.take_length] at m2
        rw [if_neg m2] at i5
        repeat (first | exact endA | refine wkP ?_ | refine opB (fun b => ?_) | refine opA (fun a' c' hc1 hc2 => ?_) | (apply GJ.and; exact rfl; intro hg) | (apply GJ.or; exact rfl; intro hg))
        rw [hk0] at i5 ⊢
        have hRD : Rds ro3 (.blk bF 47 (fieldV f) :: .sl oa cs.length oc 9 1 (cs.map str) :: .blk b9x 58 [.int .i64 0, .int .i64 0] :: (G ++ .blk p 127 (specV s a ++ [.map (some bm)]) :: .obj bm (mapG str (Value.int .i64) M cM) :: R)) oa cs.length oc 1 (cs.map str) := Rds.auto
        refine ih k (by omega) (by omega) cs oa oc ro3 (.blk bF 47 (fieldV f) :: .sl oa cs.length oc 9 1 (cs.map str) :: .blk b9x 58 [.int .i64 0, .int .i64 0] :: G) _ ((hle.trans hl2).trans hl3) hRD (by omega) (fun ro4 hl4 => ?_)
        have hk4 := fun r5 h5 => hk r5 (((hl2.trans hl3).trans hl4).trans h5)
        dsimp only [List.cons_append, flV]
        generalize kindS s kn n (k : Int) cs = z at *
        obtain ⟨z1, z2⟩ := z
        dsimp only at i5 ⊢
        repeat (first | exact endA | refine wkP ?_ | refine opB (fun b => ?_) | refine opA (fun a' c' hc1 hc2 => ?_) | (apply GJ.and; exact rfl; intro hg) | (apply GJ.or; exact rfl; intro hg))
        by_cases hz : z1 ≠ 0
        · rw [if_pos hz] at i5
          have hk2 := hk4 ro4 (Le.refl _)
          rw [i5] at hk2
          dsimp only [flV] at hk2
          refine Br.t hz ?_
          repeat (first | exact endA | refine wkP ?_ | refine opB (fun b => ?_) | refine opA (fun a' c' hc1 hc2 => ?_) | (apply GJ.and; exact rfl; intro hg) | (apply GJ.or; exact rfl; intro hg))
          exact Wk.outS Sup.auto (.refl _) hk2
        · rw [if_neg hz] at i5
          have hL4 : Leq ro3 ro4 := ⟨hl4.1⟩
          have hcl : cs.map str ++ [str f.name] = (cs ++ [f.name]).map str := by simp
          have hnl : cs.length + 1 = (cs ++ [f.name]).length := by simp
          refine Br.f hz ?_
          repeat (first | exact endA | refine wkP ?_ | refine opB (fun b => ?_) | refine opA (fun a' c' hc1 hc2 => ?_) | (apply GJ.and; exact rfl; intro hg) | (apply GJ.or; exact rfl; intro hg))
          rw [hcl]
          rw [hnl] at hc1 ⊢
          refine Wk.id ⟨(j + 1, cs ++ [f.name], some (a', c')), ?_, ?_, Sub.auto, Sup.auto⟩
          all_goals try dsimp only
          · exact ⟨by omega, (fun h => by cases h), (fun q hq => by cases hq; exact ⟨hc1, hc2⟩), by rw [← hnl]; omega, i5⟩
          · omega
    · rw [List.drop_eq_nil_of_le (by omega), recS] at i5
      have hk2 := hk ro2 hl2
      rw [i5] at hk2
      dsimp only [flV] at hk2
      repeat (first | exact endA | refine wkP ?_ | refine opB (fun b => ?_) | refine opA (fun a' c' hc1 hc2 => ?_) | (apply GJ.and; exact rfl; intro hg) | (apply GJ.or; exact rfl; intro hg))
      exact Wk.outS Sup.auto (.refl _) hk2
set_option maxHeartbeats 8000000 in
theorem lkind_ok (ho : SpecOk ro s a) (hv : Ahead s) (hM : MaxOk ro) (hT : TextIn s) (hK : KeysOk kn M) : ∀ n, KindC s a ro p bm M cM R kn n := by
  intro n
  induction n with
  | zero => intro i h; omega
  | succ n ih =>
    intro i hin hi ns na nc ro' G K hle hns hb hk
    obtain ⟨d, hd⟩ : ∃ d, s.nodes[i]? = some d := ⟨_, List.getElem?_eq_getElem hi⟩
    have hL : Leq ro ro' := ⟨hle.1⟩
    have hr1 : Rs ro' a.na s.nodes.length a.nc 18 (nodesV s.nodes a.xs) := ho.nodes.up
    have hm := hr1.max
    unfold maxLen at hm
    obtain ⟨x, hx⟩ : ∃ x, a.xs[i]? = some x := ⟨_, List.getElem?_eq_getElem (by rw [ho.len]; exact hi)⟩
    have hn1 := (ho.each i d x hd hx).le hle
    have hdr1 := nodesV_drop _ _ _ _ _ hd hx
    obtain ⟨hf, hks⟩ := hv i d hd
    have hsm := form_small hf
    have htx := hT.texts d (List.mem_of_getElem? hd)
    rw [kindS, Int.toNat_natCast, hd] at hk
    dsimp only at hk
    refine CallOk.intro (args := [_, _, _]) (rs := [_]) T_ok Tryz.func69 Tryz.call69 rfl rfl (by kernel_rfl) rfl rfl ?_
    repeat (first | exact endA | refine wkP ?_ | refine opB (fun b => ?_) | refine opA (fun a' c' hc1 hc2 => ?_) | (apply GJ.and; exact rfl; intro hg) | (apply GJ.or; exact rfl; intro hg))
    rw [Int.toNat_natCast]
    refine OpOk.loadRow rfl rfl (LdN.at hr1 hdr1) rfl ?_
    by_cases h13 : d.kind = 13
    · repeat (first | exact endA | refine wkP ?_ | refine opB (fun b => ?_) | refine opA (fun a' c' hc1 hc2 => ?_) | (apply GJ.and; exact rfl; intro hg) | (apply GJ.or; exact rfl; intro hg))
      refine QOk.lookupOkG (kt := 9) (et := 3) (kv := str) (vv := Value.int .i64) (k := d.text) (z := .int .i64 0) rfl rfl Tryz.underlying125 (KeyEnc.text Tryz.underlying9) hK.map (by unfold maxLen; omega) (by kernel_rfl) ?_
      rw [hK.is]
      by_cases hin2 : d.text ∈ kn
      · rw [if_neg (fun h => h.2 hin2), if_neg (by omega)] at hk
        rw [decide_eq_true hin2]
        repeat (first | exact endA | refine wkP ?_ | refine opB (fun b => ?_) | refine opA (fun a' c' hc1 hc2 => ?_) | (apply GJ.and; exact rfl; intro hg) | (apply GJ.or; exact rfl; intro hg))
        rename_i bF
        obtain ⟨bN, hbN⟩ : ∃ z : Nat, z = b := ⟨_, rfl⟩
        subst hbN
        refine kids_ok hn1 (by omega) (fun a1 n1 c1 h1 h2 h3 => ?_)
        subst h1
        have hkl : (kidsD d).length ≤ 1000 := by unfold kidsD; split <;> simp <;> omega
        repeat (first | exact endA | refine wkP ?_ | refine opB (fun b => ?_) | refine opA (fun a' c' hc1 hc2 => ?_) | (apply GJ.and; exact rfl; intro hg) | (apply GJ.or; exact rfl; intro hg))
        refine LoopOk.auto (ι := Nat) Keep.auto (fun j => [(48, .int .i64 (j : Int))]) (fun j => .sl a1 (kidsD d).length c1 3 1 (kidsV (kidsD d)) :: .blk bN 40 (nodeV d x) :: .blk bF 58 [.int .i64 0, .int .i64 0] :: (G ++ .blk p 127 (specV s a ++ [.map (some bm)]) :: .obj bm (mapG str (Value.int .i64) M cM) :: R)) (fun j r' => j ≤ (kidsD d).length ∧ goS (fun k => kindS s kn n k ns) (kidsD d) = goS (fun k => kindS s kn n k ns) ((kidsD d).drop j)) (fun j => (kidsD d).length - j) 0 ?_ Sub.auto Sup.auto ?_
        · exact ⟨Nat.zero_le _, rfl⟩
        rintro j ro2 hl2 ⟨i1, i2⟩
        dsimp only [List.cons_append, List.nil_append] at i1 i2 ⊢
        by_cases hj : j < (kidsD d).length
        · obtain ⟨y, hy⟩ : ∃ y, (kidsD d)[j]? = some y := ⟨_, List.getElem?_eq_getElem hj⟩
          have hyb : (kidsD d)[((j : Nat) : Int).toNat]! = y := by rw [Int.toNat_natCast, List.getElem!_eq_getElem?_getD, hy]; rfl
          have hdj : (kidsD d).drop j = y :: (kidsD d).drop (j + 1) := by rw [List.drop_eq_getElem_cons hj]; congr 1; exact Option.some.inj ((List.getElem?_eq_getElem hj).symm.trans hy)
          rw [hdj, goS] at i2
          obtain ⟨q1, q2⟩ := hks y (List.mem_of_getElem? hy)
          obtain ⟨k, rfl⟩ := Int.eq_ofNat_of_zero_le q1
          have hL2 : Leq ro' ro2 := ⟨hl2.1⟩
          repeat (first | exact endA | refine wkP ?_ | refine opB (fun b => ?_) | refine opA (fun a' c' hc1 hc2 => ?_) | (apply GJ.and; exact rfl; intro hg) | (apply GJ.or; exact rfl; intro hg))
          rw [hyb]
          have hRD : Rds ro2 (.sl a1 (kidsD d).length c1 3 1 (kidsV (kidsD d)) :: .blk bN 40 (nodeV d x) :: .blk bF 58 [.int .i64 0, .int .i64 0] :: (G ++ .blk p 127 (specV s a ++ [.map (some bm)]) :: .obj bm (mapG str (Value.int .i64) M cM) :: R)) na ns.length nc 1 (ns.map str) := hns.up
          refine ih k (by omega) (by omega) ns na nc ro2 (.sl a1 (kidsD d).length c1 3 1 (kidsV (kidsD d)) :: .blk bN 40 (nodeV d x) :: .blk bF 58 [.int .i64 0, .int .i64 0] :: G) _ (hle.trans hl2) hRD (by omega) (fun ro3 hl3 => ?_)
          have hk4 := hk ro3 (hl2.trans hl3)
          rw [i2] at hk4
          dsimp only [List.cons_append, flV] at hk4 ⊢
          generalize kindS s kn n (k : Int) ns = z at *
          obtain ⟨z1, z2⟩ := z
          dsimp only at hk4 i2 ⊢
          repeat (first | exact endA | refine wkP ?_ | refine opB (fun b => ?_) | refine opA (fun a' c' hc1 hc2 => ?_) | (apply GJ.and; exact rfl; intro hg) | (apply GJ.or; exact rfl; intro hg))
          by_cases hz : z1 ≠ 0
          · rw [if_pos hz] at hk4
            refine Br.t hz ?_
            repeat (first | exact endA | refine wkP ?_ | refine opB (fun b => ?_) | refine opA (fun a' c' hc1 hc2 => ?_) | (apply GJ.and; exact rfl; intro hg) | (apply GJ.or; exact rfl; intro hg))
            exact Wk.outS Sup.auto (.refl _) hk4
          · rw [if_neg hz] at i2
            have hL3 : Leq ro2 ro3 := ⟨hl3.1⟩
            refine Br.f hz ?_
            repeat (first | exact endA | refine wkP ?_ | refine opB (fun b => ?_) | refine opA (fun a' c' hc1 hc2 => ?_) | (apply GJ.and; exact rfl; intro hg) | (apply GJ.or; exact rfl; intro hg))
            refine Wk.id ⟨j + 1, ?_, ?_, Sub.auto, Sup.auto⟩
            all_goals try dsimp only
            · exact ⟨by omega, i2⟩
            · omega
        · rw [List.drop_eq_nil_of_le (by omega), goS] at i2
          have hk2 := hk ro2 hl2
          rw [i2] at hk2
          dsimp only [flV] at hk2
          repeat (first | exact endA | refine wkP ?_ | refine opB (fun b => ?_) | refine opA (fun a' c' hc1 hc2 => ?_) | (apply GJ.and; exact rfl; intro hg) | (apply GJ.or; exact rfl; intro hg))
          exact Wk.outS Sup.auto (.refl _) hk2
      · rw [if_pos ⟨h13, hin2⟩] at hk
        have hk2 := hk ro' (Le.refl _)
        dsimp only [flV] at hk2
        rw [decide_eq_false hin2]
        repeat (first | exact endA | refine wkP ?_ | refine opB (fun b => ?_) | refine opA (fun a' c' hc1 hc2 => ?_) | (apply GJ.and; exact rfl; intro hg) | (apply GJ.or; exact rfl; intro hg))
        exact Wk.outS Sup.auto (.refl _) hk2
    · rw [if_neg (fun h => h13 h.1)] at hk
      repeat (first | exact endA | refine wkP ?_ | refine opB (fun b => ?_) | refine opA (fun a' c' hc1 hc2 => ?_) | (apply GJ.and; exact rfl; intro hg) | (apply GJ.or; exact rfl; intro hg))
      by_cases h5 : d.kind = 5
      · rw [if_pos h5] at hk
        refine Br.t h5 ?_
        repeat (first | exact endA | refine wkP ?_ | refine opB (fun b => ?_) | refine opA (fun a' c' hc1 hc2 => ?_) | (apply GJ.and; exact rfl; intro hg) | (apply GJ.or; exact rfl; intro hg))
        rename_i bF
        obtain ⟨bN, hbN⟩ : ∃ z : Nat, z = b := ⟨_, rfl⟩
        subst hbN
        have hRD : Rds ro' (.blk bN 40 (nodeV d x) :: .blk bF 58 [.int .i64 0, .int .i64 0] :: (G ++ .blk p 127 (specV s a ++ [.map (some bm)]) :: .obj bm (mapG str (Value.int .i64) M cM) :: R)) na ns.length nc 1 (ns.map str) := hns.up
        refine lrecord_ok ho hv hM hT ih hin hd h5 (G := .blk bN 40 (nodeV d x) :: .blk bF 58 [.int .i64 0, .int .i64 0] :: G) hle hRD hb (fun ro2 hl2 => ?_)
        have hk2 := hk ro2 hl2
        dsimp only [List.cons_append, flV] at hk2 ⊢
        generalize recS (kindS s kn n) (i : Int) d.fields ns = z at *
        obtain ⟨z1, z2⟩ := z
        dsimp only at hk2 ⊢
        repeat (first | exact endA | refine wkP ?_ | refine opB (fun b => ?_) | refine opA (fun a' c' hc1 hc2 => ?_) | (apply GJ.and; exact rfl; intro hg) | (apply GJ.or; exact rfl; intro hg))
        exact Wk.outS Sup.auto (.refl _) hk2
      · rw [if_neg h5] at hk
        refine Br.f h5 ?_
        repeat (first | exact endA | refine wkP ?_ | refine opB (fun b => ?_) | refine opA (fun a' c' hc1 hc2 => ?_) | (apply GJ.and; exact rfl; intro hg) | (apply GJ.or; exact rfl; intro hg))
        rename_i bF
        obtain ⟨bN, hbN⟩ : ∃ z : Nat, z = b := ⟨_, rfl⟩
        subst hbN
        refine kids_ok hn1 (by omega) (fun a1 n1 c1 h1 h2 h3 => ?_)
        subst h1
        have hkl : (kidsD d).length ≤ 1000 := by unfold kidsD; split <;> simp <;> omega
        repeat (first | exact endA | refine wkP ?_ | refine opB (fun b => ?_) | refine opA (fun a' c' hc1 hc2 => ?_) | (apply GJ.and; exact rfl; intro hg) | (apply GJ.or; exact rfl; intro hg))
        refine LoopOk.auto (ι := Nat) Keep.auto (fun j => [(48, .int .i64 (j : Int))]) (fun j => .sl a1 (kidsD d).length c1 3 1 (kidsV (kidsD d)) :: .blk bN 40 (nodeV d x) :: .blk bF 58 [.int .i64 0, .int .i64 0] :: (G ++ .blk p 127 (specV s a ++ [.map (some bm)]) :: .obj bm (mapG str (Value.int .i64) M cM) :: R)) (fun j r' => j ≤ (kidsD d).length ∧ goS (fun k => kindS s kn n k ns) (kidsD d) = goS (fun k => kindS s kn n k ns) ((kidsD d).drop j)) (fun j => (kidsD d).length - j) 0 ?_ Sub.auto Sup.auto ?_
        · exact ⟨Nat.zero_le _, rfl⟩
        rintro j ro2 hl2 ⟨i1, i2⟩
        dsimp only [List.cons_append, List.nil_append] at i1 i2 ⊢
        by_cases hj : j < (kidsD d).length
        · obtain ⟨y, hy⟩ : ∃ y, (kidsD d)[j]? = some y := ⟨_, List.getElem?_eq_getElem hj⟩
          have hyb : (kidsD d)[((j : Nat) : Int).toNat]! = y := by rw [Int.toNat_natCast, List.getElem!_eq_getElem?_getD, hy]; rfl
          have hdj : (kidsD d).drop j = y :: (kidsD d).drop (j + 1) := by rw [List.drop_eq_getElem_cons hj]; congr 1; exact Option.some.inj ((List.getElem?_eq_getElem hj).symm.trans hy)
          rw [hdj, goS] at i2
          obtain ⟨q1, q2⟩ := hks y (List.mem_of_getElem? hy)
          obtain ⟨k, rfl⟩ := Int.eq_ofNat_of_zero_le q1
          have hL2 : Leq ro' ro2 := ⟨hl2.1⟩
          repeat (first | exact endA | refine wkP ?_ | refine opB (fun b => ?_) | refine opA (fun a' c' hc1 hc2 => ?_) | (apply GJ.and; exact rfl; intro hg) | (apply GJ.or; exact rfl; intro hg))
          rw [hyb]
          have hRD : Rds ro2 (.sl a1 (kidsD d).length c1 3 1 (kidsV (kidsD d)) :: .blk bN 40 (nodeV d x) :: .blk bF 58 [.int .i64 0, .int .i64 0] :: (G ++ .blk p 127 (specV s a ++ [.map (some bm)]) :: .obj bm (mapG str (Value.int .i64) M cM) :: R)) na ns.length nc 1 (ns.map str) := hns.up
          refine ih k (by omega) (by omega) ns na nc ro2 (.sl a1 (kidsD d).length c1 3 1 (kidsV (kidsD d)) :: .blk bN 40 (nodeV d x) :: .blk bF 58 [.int .i64 0, .int .i64 0] :: G) _ (hle.trans hl2) hRD (by omega) (fun ro3 hl3 => ?_)
          have hk4 := hk ro3 (hl2.trans hl3)
          rw [i2] at hk4
          dsimp only [List.cons_append, flV] at hk4 ⊢
          generalize kindS s kn n (k : Int) ns = z at *
          obtain ⟨z1, z2⟩ := z
          dsimp only at hk4 i2 ⊢
          repeat (first | exact endA | refine wkP ?_ | refine opB (fun b => ?_) | refine opA (fun a' c' hc1 hc2 => ?_) | (apply GJ.and; exact rfl; intro hg) | (apply GJ.or; exact rfl; intro hg))
          by_cases hz : z1 ≠ 0
          · rw [if_pos hz] at hk4
            refine Br.t hz ?_
            repeat (first | exact endA | refine wkP ?_ | refine opB (fun b => ?_) | refine opA (fun a' c' hc1 hc2 => ?_) | (apply GJ.and; exact rfl; intro hg) | (apply GJ.or; exact rfl; intro hg))
            exact Wk.outS Sup.auto (.refl _) hk4
          · rw [if_neg hz] at i2
            have hL3 : Leq ro2 ro3 := ⟨hl3.1⟩
            refine Br.f hz ?_
            repeat (first | exact endA | refine wkP ?_ | refine opB (fun b => ?_) | refine opA (fun a' c' hc1 hc2 => ?_) | (apply GJ.and; exact rfl; intro hg) | (apply GJ.or; exact rfl; intro hg))
            refine Wk.id ⟨j + 1, ?_, ?_, Sub.auto, Sup.auto⟩
            all_goals try dsimp only
            · exact ⟨by omega, i2⟩
            · omega
        · rw [List.drop_eq_nil_of_le (by omega), goS] at i2
          have hk2 := hk ro2 hl2
          rw [i2] at hk2
          dsimp only [flV] at hk2
          repeat (first | exact endA | refine wkP ?_ | refine opB (fun b => ?_) | refine opA (fun a' c' hc1 hc2 => ?_) | (apply GJ.and; exact rfl; intro hg) | (apply GJ.or; exact rfl; intro hg))
          exact Wk.outS Sup.auto (.refl _) hk2
end
end Go.Proofs.YtnapjcnfgdkmcaaGreatDoor
end
section
/- Contracts of scope: Target, Deep. -/
namespace Go.Proofs.YtnapjcnfgdkmcaaGreatDoor
open Go Go.E
set_option linter.unusedVariables false
set_option linter.unusedSectionVars false
set_option linter.unusedSimpArgs false
set_option maxRecDepth 10000
theorem SpecOk.lift {ro ro' : Ro} {s : SpecD} {a : SpecA} (h : SpecOk ro s a) (hl : Le ro ro') : SpecOk ro' s a := ⟨h.len, h.nodes.up, fun i d x g1 g2 => (h.each i d x g1 g2).le hl, h.defs.up⟩
structure MemoOk (s : SpecD) (D : List Int) : Prop where
  len : D.length = s.nodes.length
  is : ∀ (i : Nat) (v : Int), D[i]? = some v → v = -1 ∨ v = depI s i
theorem MemoOk.set {s : SpecD} {D : List Int} (h : MemoOk s D) (i : Nat) {v : Int} (hv : v = depI s i) : MemoOk s (D.set i v) := by
  refine ⟨by rw [List.length_set]; exact h.len, fun j w hw => ?_⟩
  rw [List.getElem?_set] at hw
  split at hw
  · rename_i e
    subst e
    split at hw
    · cases hw; exact .inr hv
    · cases hw
  · exact h.is j w hw
theorem maxL_snoc (x : Int) : ∀ l : List Int, maxL (l ++ [x]) = max (maxL l) (max x 0)
  | [] => by simp [maxL]; omega
  | k :: l => by rw [List.cons_append, maxL, maxL_snoc x l, maxL]; omega
theorem fuel_le {s : SpecD} (hc : checkD s = 0) : fuelS s ≤ 133185 := by
  obtain ⟨_, _, _, _, h1, h2, _, _⟩ := checkD_ok hc
  unfold fuelS
  exact Nat.mul_le_mul (show s.defs.length + 1 ≤ 65 by omega) (show s.nodes.length + 1 ≤ 2049 by omega)
theorem depI_le {s : SpecD} (hc : checkD s = 0) (a : Int) : 0 ≤ depI s a ∧ depI s a ≤ 266370 := by
  have h1 := dep_nonneg s (fuelS s) a
  have h2 := fuel_le hc
  unfold depI
  omega
theorem kidsV_len (l : List Int) : (kidsV l).length = l.length := List.length_map ..
theorem kidsV_put (l : List Int) (i : Nat) (v : Int) : (kidsV l).set i (.int .i64 v) = kidsV (l.set i v) := by unfold kidsV; rw [List.map_set]
section
variable {ro : Ro} {own : Chs} {K : Value → Ro → Chs → Prop} {s : SpecD} {a : SpecA} {rk : Nat → Nat}
set_option maxHeartbeats 4000000 in
theorem deepOf_ok (ho : SpecOk ro s a) (hc : checkD s = 0) (RK : RkOk s rk) {R : Chs} {da : Option Addr} {dc : Nat} (hdc : s.nodes.length ≤ dc ∧ dc ≤ maxLen) : ∀ (r i : Nat), rk i < r → i < s.nodes.length → ∀ (D : List Int) (ro' : Ro) (G : Chs) (K : Value → Ro → Chs → Prop), Le ro ro' → MemoOk s D →
    (∀ D', MemoOk s D' → K (.int .i64 (depI s (i : Int))) ro' (G ++ .sl da s.nodes.length dc 3 1 (kidsV D') :: R)) →
    CallOk Tryz.prog 94 #[.agg (specV s a).toArray, .int .i64 (i : Int), .slice da s.nodes.length dc] ro' (G ++ .sl da s.nodes.length dc 3 1 (kidsV D) :: R) K := by
  intro r
  induction r with
  | zero => intro i h; omega
  | succ r ih =>
    intro i hri hi D ro' G K hle hD hk
    have hL : Leq ro ro' := ⟨hle.1⟩
    have ho' := ho.lift hle
    have hr1 := ho'.nodes
    have hm := hr1.max
    have hnc := hr1.le
    unfold maxLen at hm
    obtain ⟨d, hd⟩ : ∃ d, s.nodes[i]? = some d := ⟨_, List.getElem?_eq_getElem hi⟩
    obtain ⟨x, hx⟩ : ∃ x, a.xs[i]? = some x := ⟨_, List.getElem?_eq_getElem (by rw [ho.len]; exact hi)⟩
    have hn1 := ho'.each i d x hd hx
    have hdr1 := nodesV_drop _ _ _ _ _ hd hx
    obtain ⟨hf, hks⟩ := Ahead.of hc i d hd
    have hsm := form_small hf
    have hdl := hD.len
    have hkl := kidsV_len D
    obtain ⟨d1, d2⟩ := hdc
    have d3 := d2
    unfold maxLen at d3
    have hdep := depI_le hc (i : Int)
    have heq := dep_eq RK hd
    obtain ⟨v, hv⟩ : ∃ v, D[i]? = some v := ⟨_, List.getElem?_eq_getElem (by omega)⟩
    have hvb : D[((i : Nat) : Int).toNat]! = v := by rw [Int.toNat_natCast, List.getElem!_eq_getElem?_getD, hv]; rfl
    have hpos := dep_pos RK (rk i + 1) i (by omega) hi
    refine CallOk.intro (args := [_, _, _]) (rs := [_]) T_ok Tryz.func94 Tryz.call94 rfl rfl (by kernel_rfl) rfl rfl ?_
    repeat (first | exact endA | refine wkP ?_ | refine opB (fun b => ?_) | refine opA (fun a' c' hc1 hc2 => ?_) | (apply GJ.and; exact rfl; intro hg) | (apply GJ.or; exact rfl; intro hg))
    rw [hvb]
    by_cases hv0 : 0 ≤ v
    · have hve : v = depI s (i : Int) := (hD.is i v hv).resolve_left (fun h => by omega)
      have hk2 := hk D hD
      refine Br.t hv0 ?_
      repeat (first | exact endA | refine wkP ?_ | refine opB (fun b => ?_) | refine opA (fun a' c' hc1 hc2 => ?_) | (apply GJ.and; exact rfl; intro hg) | (apply GJ.or; exact rfl; intro hg))
      rw [hvb, hve]
      repeat (first | exact endA | refine wkP ?_ | refine opB (fun b => ?_) | refine opA (fun a' c' hc1 hc2 => ?_) | (apply GJ.and; exact rfl; intro hg) | (apply GJ.or; exact rfl; intro hg))
      exact Wk.outS Sup.auto (.refl _) hk2
    refine Br.f hv0 ?_
    clear hvb hv hv0
    repeat (first | exact endA | refine wkP ?_ | refine opB (fun b => ?_) | refine opA (fun a' c' hc1 hc2 => ?_) | (apply GJ.and; exact rfl; intro hg) | (apply GJ.or; exact rfl; intro hg))
    rw [Int.toNat_natCast]
    refine OpOk.loadRow rfl rfl (LdN.at hr1 hdr1) rfl ?_
    by_cases hk13 : d.kind = 13
    · rw [if_pos hk13] at heq
      obtain ⟨u1, u2, u3⟩ := RK.use i d hd hk13
      obtain ⟨u, hu⟩ := Int.eq_ofNat_of_zero_le u1
      rw [hu] at u2 u3 heq
      rw [Int.toNat_natCast] at u3
      repeat (first | exact endA | refine wkG ?_ | refine opB (fun b => ?_) | refine opA (fun a' c' hc1 hc2 => ?_) | (show GJ _ _ _ _ _ _ _; first | (apply GJ.and; exact rfl; intro hg) | (apply GJ.or; exact rfl; intro hg) | refine GJ.t omAuto ?_ | refine GJ.f omAuto ?_ | refine GJ.ft omAuto ?_ | refine GJ.ff omAuto ?_))
      rename_i bS
      obtain ⟨bN, hbN⟩ : ∃ z : Nat, z = b := ⟨_, rfl⟩
      subst hbN
      refine Bs.mk ⟨[.blk bN 40 (nodeV d x), .blk bS 25 (specV s a)], Sup.auto, ?_⟩
      repeat (first | exact endA | refine wkU ?_ | (show QOk _ _ _ _ _ _ _; refine QOk.build rfl rfl Nf.auto ?_) | (show GJ _ _ _ _ _ _ _; first | with_reducible refine GJ.neF ?_ | with_reducible refine GJ.neT ?_) | (show Br _ _ _; with_reducible refine Br.ne ?_) | refine opB (fun b => ?_) | refine opA (fun a' c' hc1 hc2 => ?_) | (apply GJ.and; exact rfl; intro hg) | (apply GJ.or; exact rfl; intro hg))
      refine def_ok ho' ?_
      rw [hu]
      repeat (first | exact endA | refine wkU ?_ | (show QOk _ _ _ _ _ _ _; refine QOk.build rfl rfl Nf.auto ?_) | (show GJ _ _ _ _ _ _ _; first | with_reducible refine GJ.neF ?_ | with_reducible refine GJ.neT ?_) | (show Br _ _ _; with_reducible refine Br.ne ?_) | refine opB (fun b => ?_) | refine opA (fun a' c' hc1 hc2 => ?_) | (apply GJ.and; exact rfl; intro hg) | (apply GJ.or; exact rfl; intro hg))
      refine ih u (by omega) (by omega) D ro' (.blk bN 40 (nodeV d x) :: .blk bS 25 (specV s a) :: G) _ hle hD (fun D2 hD2 => ?_)
      dsimp only [List.cons_append]
      have hdl2 := hD2.len
      have hkl2 := kidsV_len D2
      have hil : i < (kidsV D2).length := by omega
      refine Stop.mk (Bk.all Sup.auto ?_)
      repeat (first | exact endA | refine wkU ?_ | (show QOk _ _ _ _ _ _ _; refine QOk.build rfl rfl Nf.auto ?_) | (show GJ _ _ _ _ _ _ _; first | with_reducible refine GJ.neF ?_ | with_reducible refine GJ.neT ?_) | (show Br _ _ _; with_reducible refine Br.ne ?_) | refine opB (fun b => ?_) | refine opA (fun a' c' hc1 hc2 => ?_) | (apply GJ.and; exact rfl; intro hg) | (apply GJ.or; exact rfl; intro hg))
      rw [Int.toNat_natCast]
      refine OpOk.storeSl rfl rfl rfl rfl (by omega) ?_
      rw [kidsV_put]
      have hS := hD2.set i heq.symm
      have hk2 := hk _ hS
      have hsl := hS.len
      have hgb : (D2.set i (depI s (u : Int)))[((i : Nat) : Int).toNat]! = depI s (i : Int) := by
        rw [Int.toNat_natCast, List.getElem!_eq_getElem?_getD, List.getElem?_set_self (by omega), heq]; rfl
      have hkl3 := kidsV_len (D2.set i (depI s (u : Int)))
      generalize D2.set i (depI s (u : Int)) = D3 at *
      repeat (first | exact endA | refine wkU ?_ | (show QOk _ _ _ _ _ _ _; refine QOk.build rfl rfl Nf.auto ?_) | (show GJ _ _ _ _ _ _ _; first | with_reducible refine GJ.neF ?_ | with_reducible refine GJ.neT ?_) | (show Br _ _ _; with_reducible refine Br.ne ?_) | refine opB (fun b => ?_) | refine opA (fun a' c' hc1 hc2 => ?_) | (apply GJ.and; exact rfl; intro hg) | (apply GJ.or; exact rfl; intro hg))
      rw [hgb]
      repeat (first | exact endA | refine wkU ?_ | (show QOk _ _ _ _ _ _ _; refine QOk.build rfl rfl Nf.auto ?_) | (show GJ _ _ _ _ _ _ _; first | with_reducible refine GJ.neF ?_ | with_reducible refine GJ.neT ?_) | (show Br _ _ _; with_reducible refine Br.ne ?_) | refine opB (fun b => ?_) | refine opA (fun a' c' hc1 hc2 => ?_) | (apply GJ.and; exact rfl; intro hg) | (apply GJ.or; exact rfl; intro hg))
      exact Wk.outS Sup.auto (.refl _) hk2
    · rw [if_neg hk13] at heq
      repeat (first | exact endA | refine wkP ?_ | refine opB (fun b => ?_) | refine opA (fun a' c' hc1 hc2 => ?_) | (apply GJ.and; exact rfl; intro hg) | (apply GJ.or; exact rfl; intro hg))
      refine kids_ok hn1 (by omega) (fun a1 n1 c1 h1 h2 h3 => ?_)
      subst h1
      have hkl : (kidsD d).length ≤ 1000 := by unfold kidsD; split <;> simp <;> omega
      rename_i bS
      obtain ⟨bN, hbN⟩ : ∃ z : Nat, z = b := ⟨_, rfl⟩
      subst hbN
      repeat (first | exact endA | refine wkP ?_ | refine opB (fun b => ?_) | refine opA (fun a' c' hc1 hc2 => ?_) | (apply GJ.and; exact rfl; intro hg) | (apply GJ.or; exact rfl; intro hg))
      refine LoopOk.at (ι := Nat × List Int × Int) Keep.auto (fun (j, D, z) => [(47, .int .i64 (j : Int)), (8, .int .i64 z)]) (fun (j, D, z) => .sl a1 (kidsD d).length c1 3 1 (kidsV (kidsD d)) :: .blk bN 40 (nodeV d x) :: .blk bS 25 (specV s a) :: (G ++ .sl da s.nodes.length dc 3 1 (kidsV D) :: R)) (fun (j, D, z) => j ≤ (kidsD d).length ∧ MemoOk s D ∧ z = maxL (((kidsD d).take j).map (depI s)) ∧ 0 ≤ z ∧ z ≤ 266370) (fun (j, D, z) => (kidsD d).length - j) (0, D, 0) ?_ Sub.auto Sup.auto ?_
      · exact ⟨Nat.zero_le _, hD, rfl, by omega, by omega⟩
      clear hD hdl
      rintro ⟨j, D, z⟩ ⟨i1, hD, i3, i4, i5⟩
      dsimp only [List.cons_append, List.nil_append] at i1 hD i3 i4 i5 ⊢
      have hdl := hD.len
      have hkl2 := kidsV_len D
      by_cases hj : j < (kidsD d).length
      · obtain ⟨y, hy⟩ : ∃ y, (kidsD d)[j]? = some y := ⟨_, List.getElem?_eq_getElem hj⟩
        have hyb : (kidsD d)[((j : Nat) : Int).toNat]! = y := by rw [Int.toNat_natCast, List.getElem!_eq_getElem?_getD, hy]; rfl
        have htk : ((kidsD d).take (j + 1)).map (depI s) = ((kidsD d).take j).map (depI s) ++ [depI s y] := by rw [List.take_add_one, hy, List.map_append]; rfl
        obtain ⟨q1, q2, q3⟩ := RK.kids i d hd y (List.mem_of_getElem? hy)
        obtain ⟨k, rfl⟩ := Int.eq_ofNat_of_zero_le q1
        rw [Int.toNat_natCast] at q3
        have hdk := depI_le hc (k : Int)
        repeat (first | exact endA | refine wkP ?_ | refine opB (fun b => ?_) | refine opA (fun a' c' hc1 hc2 => ?_) | (apply GJ.and; exact rfl; intro hg) | (apply GJ.or; exact rfl; intro hg))
        rw [hyb]
        refine ih k (by omega) (by omega) D ro' (.sl a1 (kidsD d).length c1 3 1 (kidsV (kidsD d)) :: .blk bN 40 (nodeV d x) :: .blk bS 25 (specV s a) :: G) _ hle hD (fun D2 hD2 => ?_)
        dsimp only [List.cons_append]
        repeat (first | exact endA | refine wkP ?_ | refine opB (fun b => ?_) | refine opA (fun a' c' hc1 hc2 => ?_) | (apply GJ.and; exact rfl; intro hg) | (apply GJ.or; exact rfl; intro hg))
        refine Wk.id ⟨(j + 1, D2, max z (depI s (k : Int))), ⟨rfl, ?_⟩, ?_, Sub.auto, Sup.auto⟩
        all_goals try dsimp only
        · exact ⟨by omega, hD2, by rw [htk, maxL_snoc, ← i3]; omega, by omega, by omega⟩
        · omega
      · obtain rfl : j = (kidsD d).length := by omega
        rw [List.take_length] at i3
        rw [← i3] at heq
        have hil : i < (kidsV D).length := by omega
        repeat (first | exact endA | refine wkP ?_ | refine opB (fun b => ?_) | refine opA (fun a' c' hc1 hc2 => ?_) | (apply GJ.and; exact rfl; intro hg) | (apply GJ.or; exact rfl; intro hg))
        rw [Int.toNat_natCast]
        refine OpOk.storeSl rfl rfl rfl rfl (by omega) ?_
        rw [kidsV_put]
        have hgb1 : (D.set i (z + 1))[((i : Nat) : Int).toNat]! = z + 1 := by
          rw [Int.toNat_natCast, List.getElem!_eq_getElem?_getD, List.getElem?_set_self (by omega)]; rfl
        have hsl1 : (D.set i (z + 1)).length = s.nodes.length := by rw [List.length_set]; exact hdl
        have hkl3 := kidsV_len (D.set i (z + 1))
        by_cases h11 : d.kind = 11
        · rw [if_pos h11] at heq
          repeat (first | exact endA | refine wkP ?_ | refine opB (fun b => ?_) | refine opA (fun a' c' hc1 hc2 => ?_) | (apply GJ.and; exact rfl; intro hg) | (apply GJ.or; exact rfl; intro hg))
          rw [hgb1, Int.toNat_natCast]
          refine OpOk.storeSl rfl rfl rfl rfl (by omega) ?_
          rw [kidsV_put, List.set_set, show z + 1 + 1 = z + 2 by omega]
          have hS := hD.set i heq.symm
          have hk2 := hk _ hS
          have hsl := hS.len
          have hgb : (D.set i (z + 2))[((i : Nat) : Int).toNat]! = depI s (i : Int) := by
            rw [Int.toNat_natCast, List.getElem!_eq_getElem?_getD, List.getElem?_set_self (by omega), heq]; rfl
          have hkl4 := kidsV_len (D.set i (z + 2))
          clear hgb1 hsl1 hkl3
          generalize D.set i (z + 2) = D3 at *
          repeat (first | exact endA | refine wkP ?_ | refine opB (fun b => ?_) | refine opA (fun a' c' hc1 hc2 => ?_) | (apply GJ.and; exact rfl; intro hg) | (apply GJ.or; exact rfl; intro hg))
          rw [hgb]
          repeat (first | exact endA | refine wkP ?_ | refine opB (fun b => ?_) | refine opA (fun a' c' hc1 hc2 => ?_) | (apply GJ.and; exact rfl; intro hg) | (apply GJ.or; exact rfl; intro hg))
          exact Wk.outS Sup.auto (.refl _) hk2
        · rw [if_neg h11] at heq
          have hS := hD.set i heq.symm
          have hk2 := hk _ hS
          have hgb : (D.set i (z + 1))[((i : Nat) : Int).toNat]! = depI s (i : Int) := by rw [hgb1, heq]
          clear hgb1
          generalize D.set i (z + 1) = D3 at *
          repeat (first | exact endA | refine wkP ?_ | refine opB (fun b => ?_) | refine opA (fun a' c' hc1 hc2 => ?_) | (apply GJ.and; exact rfl; intro hg) | (apply GJ.or; exact rfl; intro hg))
          rw [hgb]
          repeat (first | exact endA | refine wkP ?_ | refine opB (fun b => ?_) | refine opA (fun a' c' hc1 hc2 => ?_) | (apply GJ.and; exact rfl; intro hg) | (apply GJ.or; exact rfl; intro hg))
          exact Wk.outS Sup.auto (.refl _) hk2
end
end Go.Proofs.YtnapjcnfgdkmcaaGreatDoor
end
section
/- Contracts of scope: Deep, Check. -/
namespace Go.Proofs.YtnapjcnfgdkmcaaGreatDoor
open Go Go.E
set_option linter.unusedVariables false
set_option linter.unusedSectionVars false
set_option linter.unusedSimpArgs false
set_option maxRecDepth 10000
theorem defs_inS {s : SpecD} (h : checkD s = 0) : ∀ d ∈ s.defs, 0 ≤ d.type ∧ d.type < (s.nodes.length : Int) := fun d hd => by
  obtain ⟨o, o', _, h2, _⟩ := checkD_ok h
  exact ownAll_mem h2 d.type (List.mem_map.2 ⟨d, hd, rfl⟩)
theorem root_in {s : SpecD} (h : checkD s = 0) : ∃ r : Nat, rootD s = (r : Int) ∧ r < s.nodes.length := by
  obtain ⟨_, _, _, _, _, _, h5, _⟩ := checkD_ok h
  unfold rootD
  cases hl : s.defs.getLast? with
  | none => exact absurd (List.getLast?_eq_none_iff.1 hl) h5
  | some d =>
    obtain ⟨q1, q2⟩ := defs_inS h d (List.mem_of_getLast? hl)
    obtain ⟨r, hr⟩ := Int.eq_ofNat_of_zero_le q1
    exact ⟨r, hr, by omega⟩
theorem KeysOk.nil : KeysOk [] [] := ⟨MapOk.nil, fun x => by simp [getG]⟩
theorem KeysOk.put {kn : List (List UInt8)} {M : List (List UInt8 × Int × Nat)} (h : KeysOk kn M) {x : List UInt8} (hx : x.length ≤ maxLen) (c : Nat) (v : Int) : KeysOk (kn ++ [x]) (putG M c x v) := by
  refine ⟨h.map.put hx c v, fun y => ?_⟩
  rw [getG_putG]
  by_cases hy : y = x
  · subst hy; simp
  · rw [if_neg hy, h.is]
    simp [hy]
section
variable {ro : Ro} {own : Chs} {K : Value → Ro → Chs → Prop} {s : SpecD} {a : SpecA} {rk : Nat → Nat}
set_option maxHeartbeats 4000000 in
theorem deep_ok (ho : SpecOk ro s a) (hc : checkD s = 0) (RK : RkOk s rk) (hk : K (.int .i64 (depI s (rootD s))) ro own) : CallOk Tryz.prog 70 #[.agg (specV s a).toArray] ro own K := by
  have hr1 := ho.nodes
  have hm := hr1.max
  have hle := hr1.le
  unfold maxLen at hm
  obtain ⟨_, _, _, _, hn, _, _, _⟩ := checkD_ok hc
  obtain ⟨r, hr, hrl⟩ := root_in hc
  rw [hr] at hk
  refine CallOk.intro (args := [_]) (rs := [_]) T_ok Tryz.func70 Tryz.call70 rfl rfl (by kernel_rfl) rfl rfl ?_
  repeat (first | exact endA | refine wkP ?_ | refine opB (fun b => ?_) | refine opA (fun a' c' hc1 hc2 => ?_) | (apply GJ.and; exact rfl; intro hg) | (apply GJ.or; exact rfl; intro hg))
  rw [Int.toNat_natCast]
  rename_i bS
  obtain ⟨bD, hbD⟩ : ∃ z : Nat, z = b := ⟨_, rfl⟩
  subst hbD
  have e0 : List.replicate s.nodes.length (Value.int .i64 0) = kidsV (List.replicate 0 (-1) ++ List.replicate (s.nodes.length - 0) 0) := by simp [kidsV]
  rw [e0]
  refine LoopOk.at (ι := Nat) Keep.auto (fun i => [(12, .int .i64 (i : Int))]) (fun i => .sl (some ⟨bD, 0, none⟩) s.nodes.length s.nodes.length 3 1 (kidsV (List.replicate i (-1) ++ List.replicate (s.nodes.length - i) 0)) :: .blk bS 25 (specV s a) :: own) (fun i => i ≤ s.nodes.length) (fun i => s.nodes.length - i) 0 ?_ Sub.auto Sup.auto ?_
  · exact Nat.zero_le _
  clear e0
  rintro i i1
  dsimp only [List.cons_append, List.nil_append] at i1 ⊢
  have hkl := kidsV_len (List.replicate i (-1) ++ List.replicate (s.nodes.length - i) 0)
  have hll : (List.replicate i (-1 : Int) ++ List.replicate (s.nodes.length - i) 0).length = s.nodes.length := by simp; omega
  rw [hll] at hkl
  by_cases hi : i < s.nodes.length
  · have hst : (List.replicate i (-1 : Int) ++ List.replicate (s.nodes.length - i) 0).set i (-1) = List.replicate (i + 1) (-1) ++ List.replicate (s.nodes.length - (i + 1)) 0 := by
      rw [List.set_append_right _ _ (by simp), List.length_replicate, Nat.sub_self, show s.nodes.length - i = (s.nodes.length - (i + 1)) + 1 by omega, List.replicate_succ, List.set_cons_zero, List.replicate_succ' (n := i), List.append_assoc]
      rfl
    generalize List.replicate i (-1 : Int) ++ List.replicate (s.nodes.length - i) 0 = D at *
    repeat (first | exact endA | refine wkP ?_ | refine opB (fun b => ?_) | refine opA (fun a' c' hc1 hc2 => ?_) | (apply GJ.and; exact rfl; intro hg) | (apply GJ.or; exact rfl; intro hg))
    rw [Int.toNat_natCast]
    refine OpOk.storeSl rfl rfl rfl rfl (by omega) ?_
    rw [kidsV_put, hst]
    repeat (first | exact endA | refine wkP ?_ | refine opB (fun b => ?_) | refine opA (fun a' c' hc1 hc2 => ?_) | (apply GJ.and; exact rfl; intro hg) | (apply GJ.or; exact rfl; intro hg))
    refine Wk.id ⟨i + 1, ⟨rfl, ?_⟩, ?_, Sub.auto, Sup.auto⟩
    all_goals try dsimp only
    · omega
    · omega
  · obtain rfl : i = s.nodes.length := by omega
    have hD : MemoOk s (List.replicate s.nodes.length (-1) ++ List.replicate (s.nodes.length - s.nodes.length) 0) := by
      refine ⟨hll, fun j v hv => .inl ?_⟩
      rw [Nat.sub_self, List.replicate_zero, List.append_nil] at hv
      exact List.eq_of_mem_replicate (List.mem_of_getElem? hv)
    generalize List.replicate s.nodes.length (-1 : Int) ++ List.replicate (s.nodes.length - s.nodes.length) 0 = D at *
    repeat (first | exact endA | refine wkG ?_ | refine opB (fun b => ?_) | refine opA (fun a' c' hc1 hc2 => ?_) | (show GJ _ _ _ _ _ _ _; first | (apply GJ.and; exact rfl; intro hg) | (apply GJ.or; exact rfl; intro hg) | refine GJ.t omAuto ?_ | refine GJ.f omAuto ?_ | refine GJ.ft omAuto ?_ | refine GJ.ff omAuto ?_))
    refine Bs.mk ⟨[.blk bS 25 (specV s a)], Sup.auto, ?_⟩
    repeat (first | exact endA | refine wkU ?_ | (show QOk _ _ _ _ _ _ _; refine QOk.build rfl rfl Nf.auto ?_) | (show GJ _ _ _ _ _ _ _; first | with_reducible refine GJ.neF ?_ | with_reducible refine GJ.neT ?_) | (show Br _ _ _; with_reducible refine Br.ne ?_) | refine opB (fun b => ?_) | refine opA (fun a' c' hc1 hc2 => ?_) | (apply GJ.and; exact rfl; intro hg) | (apply GJ.or; exact rfl; intro hg))
    refine root_ok ho ?_
    rw [hr]
    repeat (first | exact endA | refine wkU ?_ | (show QOk _ _ _ _ _ _ _; refine QOk.build rfl rfl Nf.auto ?_) | (show GJ _ _ _ _ _ _ _; first | with_reducible refine GJ.neF ?_ | with_reducible refine GJ.neT ?_) | (show Br _ _ _; with_reducible refine Br.ne ?_) | refine opB (fun b => ?_) | refine opA (fun a' c' hc1 hc2 => ?_) | (apply GJ.and; exact rfl; intro hg) | (apply GJ.or; exact rfl; intro hg))
    refine deepOf_ok ho hc RK (R := .blk bS 25 (specV s a) :: own) ⟨Nat.le_refl _, by unfold maxLen; omega⟩ (rk r + 1) r (by omega) hrl D ro [] _ (Le.refl _) hD (fun D2 hD2 => ?_)
    dsimp only [List.nil_append]
    repeat (first | exact endA | refine wkU ?_ | (show QOk _ _ _ _ _ _ _; refine QOk.build rfl rfl Nf.auto ?_) | (show GJ _ _ _ _ _ _ _; first | with_reducible refine GJ.neF ?_ | with_reducible refine GJ.neT ?_) | (show Br _ _ _; with_reducible refine Br.ne ?_) | refine opB (fun b => ?_) | refine opA (fun a' c' hc1 hc2 => ?_) | (apply GJ.and; exact rfl; intro hg) | (apply GJ.or; exact rfl; intro hg))
    exact Wk.outS Sup.auto (.refl _) hk
set_option maxHeartbeats 8000000 in
theorem scheck_ok (ho : SpecOk ro s a) (hM : MaxOk ro) (hT : TextIn s) (hk : ∀ ro', Le ro ro' → K (flV (scopeS s)) ro' own) : CallOk Tryz.prog 35 #[.agg (specV s a).toArray] ro own K := by
  have hr2 := ho.defs
  have hm2 := hr2.max
  have hle2 := hr2.le
  unfold maxLen at hm2
  unfold scopeS at hk
  refine CallOk.intro (args := [_]) (rs := [_]) T_ok Tryz.func35 Tryz.call35 rfl rfl (by kernel_rfl) rfl rfl ?_
  repeat (first | exact endA | refine wkP ?_ | refine opB (fun b => ?_) | refine opA (fun a' c' hc1 hc2 => ?_) | (apply GJ.and; exact rfl; intro hg) | (apply GJ.or; exact rfl; intro hg))
  refine check_ok ho ?_
  by_cases hc : checkD s ≠ 0
  · have hk2 := hk ro (Le.refl _)
    rw [if_pos hc] at hk2
    dsimp only [flV] at hk2
    generalize checkD s = z at *
    repeat (first | exact endA | refine wkP ?_ | refine opB (fun b => ?_) | refine opA (fun a' c' hc1 hc2 => ?_) | (apply GJ.and; exact rfl; intro hg) | (apply GJ.or; exact rfl; intro hg))
    exact Wk.outS Sup.auto (.refl _) hk2
  have hc0 : checkD s = 0 := Decidable.of_not_not hc
  rw [if_neg hc] at hk
  obtain ⟨hnn, hnd⟩ : s.nodes.length ≤ 2048 ∧ s.defs.length ≤ 64 := by
    obtain ⟨_, _, _, _, h1, h2, _, _⟩ := checkD_ok hc0
    exact ⟨h1, h2⟩
  have hv := Ahead.of hc0
  have hdi := defs_inS hc0
  rw [hc0]
  have hcl : (Value.agg (specV s a).toArray).cells.toList = specV s a := rfl
  repeat (first | exact endA | refine wkP ?_ | refine opB (fun b => ?_) | refine opA (fun a' c' hc1 hc2 => ?_) | (apply GJ.and; exact rfl; intro hg) | (apply GJ.or; exact rfl; intro hg))
  rw [hcl]
  rename_i bS
  obtain ⟨bF, hbF⟩ : ∃ z : Nat, z = b := ⟨_, rfl⟩
  subst hbF
  refine OpOk.makeMapG (kv := str) (vv := Value.int .i64) (fun bm => ?_)
  repeat (first | exact endA | refine wkP ?_ | refine opB (fun b => ?_) | refine opA (fun a' c' hc1 hc2 => ?_) | (apply GJ.and; exact rfl; intro hg) | (apply GJ.or; exact rfl; intro hg))
  obtain ⟨p, hp⟩ : ∃ z : Nat, z = b := ⟨_, rfl⟩
  subst hp
  refine LoopOk.auto (ι := Nat × List (List UInt8 × Int × Nat) × Nat) Keep.auto (fun (j, M, cM) => [(23, .int .i64 (j : Int))]) (fun (j, M, cM) => .blk p 127 (specV s a ++ [.map (some bm)]) :: .obj bm (mapG str (Value.int .i64) M cM) :: .blk bF 58 [.int .i64 0, .int .i64 0] :: .blk bS 25 (specV s a) :: own) (fun (j, M, cM) r' => j ≤ s.defs.length ∧ KeysOk ((s.defs.take j).map (·.name)) M ∧ defsS s [] s.defs = defsS s ((s.defs.take j).map (·.name)) (s.defs.drop j)) (fun (j, M, cM) => s.defs.length - j) (0, [], 0) ?_ Sub.auto Sup.auto ?_
  · exact ⟨Nat.zero_le _, KeysOk.nil, rfl⟩
  rintro ⟨j, M, cM⟩ ro2 hl2 ⟨i1, i2, i3⟩
  dsimp only [List.cons_append, List.nil_append] at i1 i2 i3 ⊢
  have hL2 : Leq ro ro2 := ⟨hl2.1⟩
  have ho2 := ho.lift hl2
  have hM2 := hM.le hl2
  by_cases hj : j < s.defs.length
  · obtain ⟨d, hd⟩ : ∃ d, s.defs[j]? = some d := ⟨_, List.getElem?_eq_getElem hj⟩
    have hde : s.defs[j] = d := Option.some.inj ((List.getElem?_eq_getElem hj).symm.trans hd)
    have hdd := defsV_drop s.defs hj
    rw [hde] at hdd
    have hdj : s.defs.drop j = d :: s.defs.drop (j + 1) := by rw [List.drop_eq_getElem_cons hj, hde]
    have htk : (s.defs.take (j + 1)).map (·.name) = (s.defs.take j).map (·.name) ++ [d.name] := by rw [List.take_add_one, hd, List.map_append]; rfl
    have hmem := List.mem_of_getElem? hd
    have hdn := hT.defs d hmem
    obtain ⟨q1, q2⟩ := hdi d hmem
    obtain ⟨k, hk0⟩ := Int.eq_ofNat_of_zero_le q1
    rw [hdj, defsS] at i3
    have hr4 := ho2.defs
    repeat (first | exact endA | refine wkP ?_ | refine opB (fun b => ?_) | refine opA (fun a' c' hc1 hc2 => ?_) | (apply GJ.and; exact rfl; intro hg) | (apply GJ.or; exact rfl; intro hg))
    rw [Int.toNat_natCast]
    refine OpOk.loadRow rfl rfl (LdN.at hr4 hdd) rfl ?_
    repeat (first | exact endA | refine wkP ?_ | refine opB (fun b => ?_) | refine opA (fun a' c' hc1 hc2 => ?_) | (apply GJ.and; exact rfl; intro hg) | (apply GJ.or; exact rfl; intro hg))
    obtain ⟨bD, hbD⟩ : ∃ z : Nat, z = b := ⟨_, rfl⟩
    subst hbD
    refine proper_ok hM2 hdn (fun ro3 hl3 => ?_)
    have hL3 : Leq ro2 ro3 := ⟨hl3.1⟩
    have ho3 := ho2.lift hl3
    have hM3 := hM2.le hl3
    by_cases hp : properD d.name = false
    · rw [if_pos hp] at i3
      have hk2 := hk ro3 (hl2.trans hl3)
      rw [i3, if_pos (show (5 : Int) ≠ 0 by decide)] at hk2
      rw [hp]
      dsimp only [flV] at hk2
      repeat (first | exact endA | refine wkP ?_ | refine opB (fun b => ?_) | refine opA (fun a' c' hc1 hc2 => ?_) | (apply GJ.and; exact rfl; intro hg) | (apply GJ.or; exact rfl; intro hg))
      exact Wk.outS Sup.auto (.refl _) hk2
    rw [if_neg hp] at i3
    have hp1 : properD d.name = true := by simpa using hp
    rw [hp1]
    repeat (first | exact endA | refine wkP ?_ | refine opB (fun b => ?_) | refine opA (fun a' c' hc1 hc2 => ?_) | (apply GJ.and; exact rfl; intro hg) | (apply GJ.or; exact rfl; intro hg))
    refine QOk.lookupOkG (kt := 9) (et := 3) (kv := str) (vv := Value.int .i64) (k := d.name) (z := .int .i64 0) rfl rfl Tryz.underlying125 (KeyEnc.text Tryz.underlying9) i2.map (by unfold maxLen; omega) (by kernel_rfl) ?_
    rw [i2.is]
    by_cases hin : d.name ∈ (s.defs.take j).map (·.name)
    · rw [if_pos hin] at i3
      have hk2 := hk ro3 (hl2.trans hl3)
      rw [i3, if_pos (show (4 : Int) ≠ 0 by decide)] at hk2
      rw [decide_eq_true hin]
      dsimp only [flV] at hk2
      repeat (first | exact endA | refine wkP ?_ | refine opB (fun b => ?_) | refine opA (fun a' c' hc1 hc2 => ?_) | (apply GJ.and; exact rfl; intro hg) | (apply GJ.or; exact rfl; intro hg))
      exact Wk.outS Sup.auto (.refl _) hk2
    rw [if_neg hin] at i3
    rw [decide_eq_false hin]
    repeat (first | exact endA | refine wkP ?_ | refine opB (fun b => ?_) | refine opA (fun a' c' hc1 hc2 => ?_) | (apply GJ.and; exact rfl; intro hg) | (apply GJ.or; exact rfl; intro hg))
    rw [hk0] at i3 ⊢
    have hkind := lkind_ok (p := p) (bm := bm) (cM := cM) (R := .blk bF 58 [.int .i64 0, .int .i64 0] :: .blk bS 25 (specV s a) :: own) ho3 hv hM3 hT i2 s.nodes.length k (by omega) (by omega) [] none 0 ro3 [.blk bD 44 (defV d)]
    refine hkind _ (Le.refl _) (Rds.nil _ _ _) (by simp; omega) (fun ro4 hl4 => ?_)
    clear hkind
    have hk4 := fun r5 h5 => hk r5 (((hl2.trans hl3).trans hl4).trans h5)
    dsimp only [List.cons_append, List.nil_append, flV]
    generalize kindS s ((s.defs.take j).map (·.name)) s.nodes.length (k : Int) [] = z at *
    obtain ⟨z1, z2⟩ := z
    dsimp only at i3 ⊢
    repeat (first | exact endA | refine wkP ?_ | refine opB (fun b => ?_) | refine opA (fun a' c' hc1 hc2 => ?_) | (apply GJ.and; exact rfl; intro hg) | (apply GJ.or; exact rfl; intro hg))
    by_cases hz : z1 ≠ 0
    · rw [if_pos hz] at i3
      have hk2 := hk4 ro4 (Le.refl _)
      rw [i3, if_pos hz] at hk2
      dsimp only [flV] at hk2
      refine Br.t hz ?_
      repeat (first | exact endA | refine wkP ?_ | refine opB (fun b => ?_) | refine opA (fun a' c' hc1 hc2 => ?_) | (apply GJ.and; exact rfl; intro hg) | (apply GJ.or; exact rfl; intro hg))
      exact Wk.outS Sup.auto (.refl _) hk2
    · rw [if_neg hz] at i3
      have hL4 : Leq ro3 ro4 := ⟨hl4.1⟩
      refine Br.f hz ?_
      repeat (first | exact endA | refine wkP ?_ | refine opB (fun b => ?_) | refine opA (fun a' c' hc1 hc2 => ?_) | (apply GJ.and; exact rfl; intro hg) | (apply GJ.or; exact rfl; intro hg))
      refine OpOk.mapUpdateG (kt := 9) (et := 3) (kv := str) (vv := Value.int .i64) (k := d.name) (v := d.type) rfl rfl rfl Tryz.underlying125 (KeyEnc.text Tryz.underlying9) i2.map (by unfold maxLen; omega) (fun cM2 => ?_)
      have hput := i2.put (x := d.name) (by unfold maxLen; omega) cM d.type
      rw [← htk] at hput i3
      generalize putG M cM d.name d.type = M2 at *
      repeat (first | exact endA | refine wkP ?_ | refine opB (fun b => ?_) | refine opA (fun a' c' hc1 hc2 => ?_) | (apply GJ.and; exact rfl; intro hg) | (apply GJ.or; exact rfl; intro hg))
      refine Wk.id ⟨(j + 1, M2, cM2), ?_, ?_, Sub.auto, Sup.auto⟩
      all_goals try dsimp only
      · exact ⟨by omega, hput, i3⟩
      · omega
  · obtain rfl : j = s.defs.length := by omega
    rw [List.drop_length, defsS] at i3
    rw [i3, if_neg (fun h => h rfl)] at hk
    have RK := rank_ok hc0 (by rw [i3])
    repeat (first | exact endA | refine wkP ?_ | refine opB (fun b => ?_) | refine opA (fun a' c' hc1 hc2 => ?_) | (apply GJ.and; exact rfl; intro hg) | (apply GJ.or; exact rfl; intro hg))
    refine deep_ok ho2 hc0 RK ?_
    have hk2 := hk ro2 hl2
    obtain ⟨x, hx⟩ : ∃ x, x = depI s (rootD s) := ⟨_, rfl⟩
    rw [← hx] at hk2 ⊢
    repeat (first | exact endA | refine wkP ?_ | refine opB (fun b => ?_) | refine opA (fun a' c' hc1 hc2 => ?_) | (apply GJ.and; exact rfl; intro hg) | (apply GJ.or; exact rfl; intro hg))
    by_cases h200 : 200 < x
    · rw [if_pos h200] at hk2
      dsimp only [flV] at hk2
      refine Br.t (by omega) ?_
      repeat (first | exact endA | refine wkP ?_ | refine opB (fun b => ?_) | refine opA (fun a' c' hc1 hc2 => ?_) | (apply GJ.and; exact rfl; intro hg) | (apply GJ.or; exact rfl; intro hg))
      refine root_ok ho2 ?_
      repeat (first | exact endA | refine wkP ?_ | refine opB (fun b => ?_) | refine opA (fun a' c' hc1 hc2 => ?_) | (apply GJ.and; exact rfl; intro hg) | (apply GJ.or; exact rfl; intro hg))
      exact Wk.outS Sup.auto (.refl _) hk2
    · rw [if_neg h200] at hk2
      dsimp only [flV] at hk2
      refine Br.f (by omega) ?_
      repeat (first | exact endA | refine wkP ?_ | refine opB (fun b => ?_) | refine opA (fun a' c' hc1 hc2 => ?_) | (apply GJ.and; exact rfl; intro hg) | (apply GJ.or; exact rfl; intro hg))
      exact Wk.outS Sup.auto (.refl _) hk2
end
end Go.Proofs.YtnapjcnfgdkmcaaGreatDoor
end
section
/- The laws' small; scope: Used, Needed; the law's depth. -/
namespace Go.Proofs.YtnapjcnfgdkmcaaGreatDoor
open Go Go.E
set_option linter.unusedVariables false
set_option linter.unusedSectionVars false
set_option linter.unusedSimpArgs false
set_option maxRecDepth 10000
def FewT (d : NodeD) : Prop := d.text.length ≤ 300 ∧ d.fields.length ≤ 60 ∧ d.cases.length ≤ 60
def SmallT (s : SpecD) : Prop := (∀ d ∈ s.nodes, FewT d) ∧ s.nodes.length ≤ 300 ∧ s.defs.length ≤ 64
section
variable {ro : Ro} {own : Chs} {K : Value → Ro → Chs → Prop}
set_option maxHeartbeats 2000000 in
theorem small15_ok {s : SpecD} {a : SpecA} (ho : SpecOk ro s a) (h1 : ¬ SmallT s → K (.bool false) ro own) (h2 : SmallT s → K (.bool true) ro own) : CallOk Tryz.prog 33 #[.agg (specV s a).toArray] ro own K := by
  have hr1 := ho.nodes
  have hm1 := hr1.max
  have hle1 := hr1.le
  have hr2 := ho.defs
  have hm2 := hr2.max
  have hle2 := hr2.le
  unfold maxLen at hm1 hm2
  refine CallOk.intro (args := [_]) (rs := [_]) T_ok Tryz.func33 Tryz.call33 rfl rfl (by kernel_rfl) rfl rfl ?_
  repeat (first | exact endA | refine wkP ?_ | refine opB (fun b => ?_) | refine opA (fun a' c' hc1 hc2 => ?_) | (apply GJ.and; exact rfl; intro hg) | (apply GJ.or; exact rfl; intro hg))
  refine LoopOk.at (ι := Nat) Keep.auto (fun i => [(8, .int .i64 (i : Int))]) (fun i => .blk b 25 (specV s a) :: own) (fun i => i ≤ s.nodes.length ∧ ∀ d ∈ s.nodes.take i, FewT d) (fun i => s.nodes.length - i) 0 ?_ Sub.auto Sup.auto ?_
  · exact ⟨Nat.zero_le _, fun d hd => by simp at hd⟩
  rintro i ⟨i1, i2⟩
  dsimp only [List.cons_append, List.nil_append] at i1 i2 ⊢
  by_cases hi : i < s.nodes.length
  · obtain ⟨d, hd⟩ : ∃ d, s.nodes[i]? = some d := ⟨_, List.getElem?_eq_getElem hi⟩
    obtain ⟨x, hx⟩ : ∃ x, a.xs[i]? = some x := ⟨_, List.getElem?_eq_getElem (by rw [ho.len]; exact hi)⟩
    have hdr := nodesV_drop _ _ _ _ _ hd hx
    have ht : s.nodes.take (i + 1) = s.nodes.take i ++ [d] := by rw [List.take_add_one, hd]; rfl
    repeat (first | exact endA | refine wkP ?_ | refine opB (fun b => ?_) | refine opA (fun a' c' hc1 hc2 => ?_) | (apply GJ.and; exact rfl; intro hg) | (apply GJ.or; exact rfl; intro hg))
    rw [Int.toNat_natCast]
    refine OpOk.loadRow rfl rfl (LdN.at hr1 hdr) rfl ?_
    repeat (first | exact endA | refine wkP ?_ | refine opB (fun b => ?_) | refine opA (fun a' c' hc1 hc2 => ?_) | (apply GJ.and; exact rfl; intro hg) | (apply GJ.or; exact rfl; intro hg))
    refine Br.cases (fun hw => ?_) (fun hw => ?_)
    · repeat (first | exact endA | refine wkP ?_ | refine opB (fun b => ?_) | refine opA (fun a' c' hc1 hc2 => ?_) | (apply GJ.and; exact rfl; intro hg) | (apply GJ.or; exact rfl; intro hg))
      refine Wk.outS Sup.auto (.refl _) (h1 fun hs => ?_)
      have := hs.1 d (List.mem_of_getElem? hd)
      unfold FewT at this
      omega
    · repeat (first | exact endA | refine wkP ?_ | refine opB (fun b => ?_) | refine opA (fun a' c' hc1 hc2 => ?_) | (apply GJ.and; exact rfl; intro hg) | (apply GJ.or; exact rfl; intro hg))
      refine Wk.id ⟨i + 1, ⟨rfl, ?_⟩, ?_, Sub.auto, Sup.auto⟩
      all_goals try dsimp only
      · refine ⟨by omega, fun d' hd' => ?_⟩
        rw [ht] at hd'
        rcases List.mem_append.1 hd' with h | h
        · exact i2 d' h
        · rw [List.mem_singleton.1 h]; unfold FewT; omega
      · omega
  · obtain rfl : i = s.nodes.length := by omega
    rw [List.take_length] at i2
    by_cases hs1 : s.nodes.length ≤ 300
    · by_cases hs2 : s.defs.length ≤ 64
      · have hk2 := h2 ⟨i2, hs1, hs2⟩
        repeat (first | exact endA | refine wkP ?_ | refine opB (fun b => ?_) | refine opA (fun a' c' hc1 hc2 => ?_) | (apply GJ.and; exact rfl; intro hg) | (apply GJ.or; exact rfl; intro hg))
        exact Wk.outV Sup.auto hk2 (congrArg Value.bool (by simp <;> omega))
      · have hk2 := h1 (fun h => hs2 h.2.2)
        repeat (first | exact endA | refine wkP ?_ | refine opB (fun b => ?_) | refine opA (fun a' c' hc1 hc2 => ?_) | (apply GJ.and; exact rfl; intro hg) | (apply GJ.or; exact rfl; intro hg))
        exact Wk.outV Sup.auto hk2 (congrArg Value.bool (by simp <;> omega))
    · have hk2 := h1 (fun h => hs1 h.2.1)
      repeat (first | exact endA | refine wkP ?_ | refine opB (fun b => ?_) | refine opA (fun a' c' hc1 hc2 => ?_) | (apply GJ.and; exact rfl; intro hg) | (apply GJ.or; exact rfl; intro hg))
      exact Wk.outV Sup.auto hk2 (congrArg Value.bool (by simp <;> omega))
end
section
variable {ro : Ro} {s : SpecD} {a : SpecA} {rk : Nat → Nat}
end
theorem flat_le {α β : Type} {f : α → List β} : ∀ {l : List α} {x : α}, x ∈ l → (f x).length ≤ (l.flatMap f).length
  | [], x, h => by cases h
  | y :: l, x, h => by
    rw [List.flatMap_cons, List.length_append]
    rcases List.mem_cons.1 h with rfl | h
    · omega
    · have := flat_le (f := f) h; omega
theorem pre_len {s : SpecD} (hc : checkD s = 0) {d : DefD} (hd : d ∈ s.defs) : (preI (kidsAt s) s.nodes.length d.type).length ≤ s.nodes.length := by
  have h1 := allT_len hc
  have h2 := flat_le (f := preI (kidsAt s) s.nodes.length) (l := s.defs.map (·.type)) (x := d.type) (List.mem_map.2 ⟨d, hd, rfl⟩)
  unfold allT at h1
  omega
theorem pre_in {s : SpecD} (hv : Ahead s) : ∀ (n a : Nat), a < n → a < s.nodes.length → ∀ k ∈ preI (kidsAt s) s.nodes.length a, 0 ≤ k ∧ k ≤ (a : Int)
  | 0, a, h, _ => by omega
  | n + 1, a, hn, ha => by
    intro k hk
    rw [preI_eq hv.kidsAt ha] at hk
    rcases List.mem_cons.1 hk with rfl | hk
    · omega
    · obtain ⟨x, hx, hkx⟩ := List.mem_flatMap.1 hk
      have := hv.kidsAt a x hx
      obtain ⟨y, rfl⟩ := Int.eq_ofNat_of_zero_le this.1
      have := pre_in hv n y (by omega) (by omega) k hkx
      omega
section
variable {ro : Ro} {K : Value → Ro → Chs → Prop} {s : SpecD} {a : SpecA} {rk : Nat → Nat}
end
section
variable {ro : Ro} {K : Value → Ro → Chs → Prop} {s : SpecD} {a : SpecA} {rk : Nat → Nat}
end
end Go.Proofs.YtnapjcnfgdkmcaaGreatDoor
end
section
/- Contracts of reg: find, index. -/
namespace Go.Proofs.YtnapjcnfgdkmcaaGreatDoor
open Go Go.E
set_option linter.unusedVariables false
set_option linter.unusedSectionVars false
set_option linter.unusedSimpArgs false
set_option maxRecDepth 10000
def askV (q : AskD) : List Value := [str q.name, .int .i64 (q.record : Int), .int .i64 (q.field : Int), .bool q.number]
def asksV (l : List AskD) : List Value := l.flatMap askV
theorem asksV_len (l : List AskD) : (asksV l).length = l.length * 4 := by induction l with
  | nil => rfl
  | cons f l ih => simp [asksV, askV] at ih ⊢; omega
theorem asksV_drop (l : List AskD) : ∀ {i : Nat} (h : i < l.length), ((asksV l).drop (i * 4)).take 4 = askV l[i] := by
  induction l with
  | nil => intro i h; simp at h
  | cons f l ih =>
    intro i h
    cases i with
    | zero => rfl
    | succ i =>
      have := ih (i := i) (by simpa using h)
      rw [show (i + 1) * 4 = i * 4 + 4 by omega, Nat.add_comm]
      show List.take 4 (List.drop (4 + i * 4) (askV f ++ asksV l)) = _
      rw [← List.drop_drop, List.drop_left' (by rfl)]
      simpa using this
theorem findR_cons (q : AskD) (l : List AskD) (x : List UInt8) : findR (q :: l) x = if q.name = x then some q else findR l x := by
  unfold findR
  rw [List.find?_cons]
  by_cases h : q.name = x
  · rw [decide_eq_true h, if_pos h]
  · rw [decide_eq_false h, if_neg h]
def noAsk : List Value := [str [], .int .i64 0, .int .i64 0, .bool false]
section
variable {ro : Ro} {own : Chs} {K : Value → Ro → Chs → Prop}
theorem find_ok {a : Option Addr} {n c : Nat} {l : List AskD} {x : List UInt8} (hr : Rds ro own a n c 4 (asksV l)) (hl : l.length = n) (hk : K (.tuple #[.agg (match findR l x with | some q => askV q | none => noAsk).toArray, .bool (findR l x).isSome]) ro own) : CallOk Tryz.prog 118 #[.slice a n c, str x] ro own K := by
  subst hl
  have hm := hr.max
  have hle := hr.le
  unfold maxLen at hm
  refine CallOk.intro (args := [_, _]) (rs := [_, _]) T_ok Tryz.func118 Tryz.call118 rfl rfl (by kernel_rfl) rfl rfl ?_
  repeat (first | exact endA | refine wkP ?_ | refine opB (fun b => ?_) | refine opA (fun a' c' hc1 hc2 => ?_) | (apply GJ.and; exact rfl; intro hg) | (apply GJ.or; exact rfl; intro hg))
  refine LoopOk.at (ι := Nat) Keep.auto (fun i => [(10, .int .i64 (i : Int))]) (fun i => .blk b 176 noAsk :: own) (fun i => i ≤ l.length ∧ findR l x = findR (l.drop i) x) (fun i => l.length - i) 0 ?_ Sub.auto Sup.auto ?_
  · exact ⟨Nat.zero_le _, rfl⟩
  rintro i ⟨i1, i2⟩
  dsimp only [List.cons_append, List.nil_append] at i1 i2 ⊢
  by_cases hi : i < l.length
  · obtain ⟨q, hq⟩ : ∃ q, l[i]? = some q := ⟨_, List.getElem?_eq_getElem hi⟩
    have hqe : l[i] = q := Option.some.inj ((List.getElem?_eq_getElem hi).symm.trans hq)
    have hd := asksV_drop l hi
    rw [hqe] at hd
    have hdr : l.drop i = q :: l.drop (i + 1) := by rw [List.drop_eq_getElem_cons hi, hqe]
    rw [hdr, findR_cons] at i2
    repeat (first | exact endA | refine wkP ?_ | refine opB (fun b => ?_) | refine opA (fun a' c' hc1 hc2 => ?_) | (apply GJ.and; exact rfl; intro hg) | (apply GJ.or; exact rfl; intro hg))
    rw [Int.toNat_natCast]
    refine OpOk.loadRow rfl rfl (LdN.atR hr hd rfl) rfl ?_
    repeat (first | exact endA | refine wkP ?_ | refine opB (fun b => ?_) | refine opA (fun a' c' hc1 hc2 => ?_) | (apply GJ.and; exact rfl; intro hg) | (apply GJ.or; exact rfl; intro hg))
    by_cases he : q.name = x
    · rw [if_pos he] at i2
      rw [i2] at hk
      dsimp only [Option.isSome] at hk
      refine Br.t he ?_
      repeat (first | exact endA | refine wkP ?_ | refine opB (fun b => ?_) | refine opA (fun a' c' hc1 hc2 => ?_) | (apply GJ.and; exact rfl; intro hg) | (apply GJ.or; exact rfl; intro hg))
      exact Wk.outS Sup.auto (.refl _) hk
    · rw [if_neg he] at i2
      refine Br.f he ?_
      repeat (first | exact endA | refine wkP ?_ | refine opB (fun b => ?_) | refine opA (fun a' c' hc1 hc2 => ?_) | (apply GJ.and; exact rfl; intro hg) | (apply GJ.or; exact rfl; intro hg))
      refine Wk.id ⟨i + 1, ⟨rfl, ?_⟩, ?_, Sub.auto, Sup.auto⟩
      all_goals try dsimp only
      · exact ⟨by omega, i2⟩
      · omega
  · obtain rfl : i = l.length := by omega
    rw [List.drop_length] at i2
    rw [i2] at hk
    dsimp only [findR, List.find?_nil, Option.isSome] at hk
    repeat (first | exact endA | refine wkP ?_ | refine opB (fun b => ?_) | refine opA (fun a' c' hc1 hc2 => ?_) | (apply GJ.and; exact rfl; intro hg) | (apply GJ.or; exact rfl; intro hg))
    exact Wk.outS Sup.auto (.refl _) hk
theorem rindex_ok {d : NodeD} {z : NodeA} {x : List UInt8} (ho : NodeOk ro d z) (hk : K (.int .i64 (idxR' d x)) ro own) : CallOk Tryz.prog 73 #[.agg (nodeV d z).toArray, str x] ro own K := by
  have hr := ho.fields
  have hm := hr.max
  have hle := hr.le
  unfold maxLen at hm
  have hcl : (Value.agg (nodeV d z).toArray).cells.toList = nodeV d z := rfl
  refine CallOk.intro (args := [_, _]) (rs := [_]) T_ok Tryz.func73 Tryz.call73 rfl rfl (by kernel_rfl) rfl rfl ?_
  repeat (first | exact endA | refine wkP ?_ | refine opB (fun b => ?_) | refine opA (fun a' c' hc1 hc2 => ?_) | (apply GJ.and; exact rfl; intro hg) | (apply GJ.or; exact rfl; intro hg))
  rw [hcl]
  refine LoopOk.at (ι := Nat) Keep.auto (fun i => [(10, .int .i64 (i : Int))]) (fun i => .blk b 40 (nodeV d z) :: own) (fun i => i ≤ d.fields.length ∧ idxR' d x = indexR (d.fields.drop i) x i) (fun i => d.fields.length - i) 0 ?_ Sub.auto Sup.auto ?_
  · exact ⟨Nat.zero_le _, rfl⟩
  rintro i ⟨i1, i2⟩
  dsimp only [List.cons_append, List.nil_append] at i1 i2 ⊢
  by_cases hi : i < d.fields.length
  · obtain ⟨f, hf⟩ : ∃ f, d.fields[i]? = some f := ⟨_, List.getElem?_eq_getElem hi⟩
    have hfe : d.fields[i] = f := Option.some.inj ((List.getElem?_eq_getElem hi).symm.trans hf)
    have hd := fieldsV_drop d.fields hi
    rw [hfe] at hd
    have hdr : d.fields.drop i = f :: d.fields.drop (i + 1) := by rw [List.drop_eq_getElem_cons hi, hfe]
    rw [hdr, indexR] at i2
    repeat (first | exact endA | refine wkP ?_ | refine opB (fun b => ?_) | refine opA (fun a' c' hc1 hc2 => ?_) | (apply GJ.and; exact rfl; intro hg) | (apply GJ.or; exact rfl; intro hg))
    rw [Int.toNat_natCast]
    refine OpOk.loadRow rfl rfl (LdN.at hr hd) rfl ?_
    repeat (first | exact endA | refine wkP ?_ | refine opB (fun b => ?_) | refine opA (fun a' c' hc1 hc2 => ?_) | (apply GJ.and; exact rfl; intro hg) | (apply GJ.or; exact rfl; intro hg))
    by_cases he : f.name = x
    · rw [if_pos he] at i2
      rw [i2] at hk
      refine Br.t he ?_
      repeat (first | exact endA | refine wkP ?_ | refine opB (fun b => ?_) | refine opA (fun a' c' hc1 hc2 => ?_) | (apply GJ.and; exact rfl; intro hg) | (apply GJ.or; exact rfl; intro hg))
      exact Wk.outS Sup.auto (.refl _) hk
    · rw [if_neg he] at i2
      refine Br.f he ?_
      repeat (first | exact endA | refine wkP ?_ | refine opB (fun b => ?_) | refine opA (fun a' c' hc1 hc2 => ?_) | (apply GJ.and; exact rfl; intro hg) | (apply GJ.or; exact rfl; intro hg))
      refine Wk.id ⟨i + 1, ⟨rfl, ?_⟩, ?_, Sub.auto, Sup.auto⟩
      all_goals try dsimp only
      · exact ⟨by omega, i2⟩
      · omega
  · obtain rfl : i = d.fields.length := by omega
    rw [List.drop_length, indexR] at i2
    rw [i2] at hk
    repeat (first | exact endA | refine wkP ?_ | refine opB (fun b => ?_) | refine opA (fun a' c' hc1 hc2 => ?_) | (apply GJ.and; exact rfl; intro hg) | (apply GJ.or; exact rfl; intro hg))
    exact Wk.outS Sup.auto (.refl _) hk
end
end Go.Proofs.YtnapjcnfgdkmcaaGreatDoor
end
section
/- Numbers that go well: what is derived of what. No program in sight. -/
namespace Go.Proofs.YtnapjcnfgdkmcaaGreatDoor
open Go Go.E
set_option linter.unusedVariables false
set_option linter.unusedSectionVars false
set_option linter.unusedSimpArgs false
set_option maxRecDepth 10000
/-! ### names in a record -/
theorem recS_names {K : Int → List (List UInt8) → Int × Int} {a : Int} : ∀ {fs : List FieldD} {ns : List (List UInt8)}, (recS K a fs ns).1 = 0 → (fs.map (·.name)).Nodup ∧ (∀ f ∈ fs, f.name ∉ ns ∧ properD f.name = true)
  | [], _, _ => ⟨List.nodup_nil, fun f hf => (by cases hf)⟩
  | x :: fs, ns, h => by
    unfold recS at h
    split at h
    · cases h
    rename_i hp
    split at h
    · cases h
    rename_i hn
    split at h
    · rename_i hx; exact absurd h hx
    obtain ⟨g1, g2⟩ := recS_names h
    refine ⟨?_, fun f hf => ?_⟩
    · rw [List.map_cons, List.nodup_cons]
      refine ⟨fun hm => ?_, g1⟩
      obtain ⟨f, hf, hfn⟩ := List.mem_map.1 hm
      exact (g2 f hf).1 (by rw [hfn]; simp)
    · rcases List.mem_cons.1 hf with rfl | hf
      · exact ⟨hn, by simpa using hp⟩
      · exact ⟨fun h => (g2 f hf).1 (List.mem_append.2 (.inl h)), (g2 f hf).2⟩
theorem kind_names {s : SpecD} (hv : Ahead s) {kn : List (List UInt8)} : ∀ (n i : Nat) (ns : List (List UInt8)), i < n → i < s.nodes.length → (kindS s kn n i ns).1 = 0 → ∀ k ∈ preI (kidsAt s) s.nodes.length i, ∀ d, s.nodes[k.toNat]? = some d → d.kind = 5 → (d.fields.map (·.name)).Nodup ∧ ∀ f ∈ d.fields, properD f.name = true
  | 0, i, _, h, _, _ => by omega
  | n + 1, i, ns, hin, hi, h => by
    obtain ⟨d, hd⟩ : ∃ d, s.nodes[i]? = some d := ⟨_, List.getElem?_eq_getElem hi⟩
    obtain ⟨hf, hks⟩ := hv i d hd
    have hkd : kidsAt s i = kidsD d := by unfold kidsAt; rw [hd]
    unfold kindS at h
    rw [Int.toNat_natCast, hd] at h
    dsimp only at h
    rw [preI_eq hv.kidsAt hi, hkd]
    by_cases hu : d.kind = 13 ∧ d.text ∉ kn
    · rw [if_pos hu] at h; cases h
    rw [if_neg hu] at h
    have hall : ∀ k ∈ kidsD d, ∃ ms, (kindS s kn n k ms).1 = 0 := by
      by_cases h5 : d.kind = 5
      · rw [if_pos h5] at h
        rw [kids_rec hf h5]
        intro k hk
        obtain ⟨f, hf, rfl⟩ := List.mem_map.1 hk
        exact recS_ok h f hf
      · rw [if_neg h5] at h
        exact fun k hk => ⟨ns, goS_ok h k hk⟩
    intro k hk e he hk5
    rcases List.mem_cons.1 hk with rfl | hk
    · rw [Int.toNat_natCast, hd] at he
      cases he
      rw [if_pos hk5] at h
      obtain ⟨g1, g2⟩ := recS_names h
      exact ⟨g1, fun f hf => (g2 f hf).2⟩
    · obtain ⟨x, hx, hkx⟩ := List.mem_flatMap.1 hk
      obtain ⟨q1, q2⟩ := hks x hx
      obtain ⟨y, rfl⟩ := Int.eq_ofNat_of_zero_le q1
      obtain ⟨ms, hm⟩ := hall _ hx
      exact kind_names hv n y ms (by omega) (by omega) hm k hkx e he hk5
/-! ### what a record's fields are derived of -/
theorem goR_ok {K : Int → Lk → Except (Int × Int) Lk} : ∀ {l : List Int} {lk lk2 : Lk}, goR K l lk = .ok lk2 → ∀ k ∈ l, ∃ a b, K k a = .ok b
  | [], _, _, _, k, hk => by cases hk
  | x :: l, lk, lk2, h, k, hk => by
    unfold goR at h
    cases hx : K x lk with
    | error e => rw [hx] at h; cases h
    | ok lk1 =>
      rw [hx] at h
      rcases List.mem_cons.1 hk with rfl | hk
      · exact ⟨_, _, hx⟩
      · exact goR_ok h k hk
theorem recR_ok {s : SpecD} {K : Int → List AskD → Lk → Except (Int × Int) Lk} {a : Nat} : ∀ {fs : List FieldD} {i : Nat} {seen : List AskD} {lk lk2 : Lk}, recR s K a i fs seen lk = .ok lk2 → ∀ f ∈ fs, ∃ sn p q, K f.type sn p = .ok q
  | [], _, _, _, _, _, f, hf => by cases hf
  | x :: fs, i, seen, lk, lk2, h, f, hf => by
    unfold recR at h
    cases hx : K x.type seen lk with
    | error e => rw [hx] at h; cases h
    | ok lk1 =>
      rw [hx] at h
      rcases List.mem_cons.1 hf with rfl | hf
      · exact ⟨_, _, _, hx⟩
      · exact recR_ok h f hf
theorem kind_derived {s : SpecD} (hv : Ahead s) : ∀ (n i : Nat) (seen : List AskD) (lk lk2 : Lk), i < n → i < s.nodes.length → kindR s n i seen lk = .ok lk2 → ∀ k ∈ preI (kidsAt s) s.nodes.length i, ∀ d, s.nodes[k.toNat]? = some d → d.kind = 5 → ∃ l, allDer s l d = true
  | 0, i, _, _, _, h, _, _ => by omega
  | n + 1, i, seen, lk, lk2, hin, hi, h => by
    obtain ⟨d, hd⟩ : ∃ d, s.nodes[i]? = some d := ⟨_, List.getElem?_eq_getElem hi⟩
    obtain ⟨hf, hks⟩ := hv i d hd
    have hkd : kidsAt s i = kidsD d := by unfold kidsAt; rw [hd]
    unfold kindR at h
    rw [Int.toNat_natCast, hd] at h
    dsimp only at h
    rw [preI_eq hv.kidsAt hi, hkd]
    cases ho : (oneR i seen d.reg lk).bind (oneR i seen d.ereg) with
    | none => rw [ho] at h; cases h
    | some lk1 =>
      rw [ho] at h
      dsimp only at h
      have hall : (∀ k ∈ kidsD d, ∃ sn p q, kindR s n k sn p = .ok q) ∧ (d.kind = 5 → ∃ l, allDer s l d = true) := by
        by_cases h5 : d.kind = 5
        · rw [if_pos h5] at h
          cases hr : recR s (kindR s n) i 0 d.fields seen lk1 with
          | error e => rw [hr] at h; cases h
          | ok lk3 =>
            rw [hr] at h
            dsimp only at h
            by_cases ha : allDer s lk3 d = true
            · refine ⟨?_, fun _ => ⟨_, ha⟩⟩
              rw [kids_rec hf h5]
              intro k hk
              obtain ⟨f, hf, rfl⟩ := List.mem_map.1 hk
              exact recR_ok hr f hf
            · rw [if_neg ha] at h; cases h
        · rw [if_neg h5] at h
          exact ⟨fun k hk => by obtain ⟨a, b, hab⟩ := goR_ok h k hk; exact ⟨_, _, _, hab⟩, fun h => absurd h h5⟩
      intro k hk e he hk5
      rcases List.mem_cons.1 hk with rfl | hk
      · rw [Int.toNat_natCast, hd] at he
        cases he
        exact hall.2 hk5
      · obtain ⟨x, hx, hkx⟩ := List.mem_flatMap.1 hk
        obtain ⟨q1, q2⟩ := hks x hx
        obtain ⟨y, rfl⟩ := Int.eq_ofNat_of_zero_le q1
        obtain ⟨sn, p, q, hm⟩ := hall.1 _ hx
        exact kind_derived hv n y sn p q (by omega) (by omega) hm k hkx e he hk5
theorem defsR_ok {s : SpecD} : ∀ {ds : List DefD} {lk lk2 : Lk}, defsR s ds lk = .ok lk2 → ∀ d ∈ ds, ∃ p q, kindR s s.nodes.length d.type [] p = .ok q
  | [], _, _, _, d, hd => by cases hd
  | x :: ds, lk, lk2, h, d, hd => by
    unfold defsR at h
    cases hx : kindR s s.nodes.length x.type [] lk with
    | error e => rw [hx] at h; cases h
    | ok lk1 =>
      rw [hx] at h
      rcases List.mem_cons.1 hd with rfl | hd
      · exact ⟨_, _, hx⟩
      · exact defsR_ok h d hd
theorem scope_zero' {s : SpecD} (h : (scopeS s).1 = 0) : checkD s = 0 ∧ (defsS s [] s.defs).1 = 0 := by
  unfold scopeS at h
  split at h
  · rename_i hc; exact absurd h hc
  rename_i hc
  split at h
  · rename_i hd; exact absurd h hd
  rename_i hd
  exact ⟨Decidable.of_not_not hc, Decidable.of_not_not hd⟩
/-- Of a specification whose numbers go well: a record's names are each once, and its fields can be derived as they say. -/
theorem look_records {s : SpecD} {lk : Lk} (h : lookR s = .ok lk) {k : Nat} {d : NodeD} (hd : s.nodes[k]? = some d) (h5 : d.kind = 5) : (d.fields.map (·.name)).Nodup ∧ (∀ f ∈ d.fields, properD f.name = true) ∧ ∃ l, allDer s l d = true := by
  unfold lookR at h
  by_cases hs : (scopeS s).1 ≠ 0
  · rw [if_pos hs] at h; cases h
  rw [if_neg hs] at h
  obtain ⟨hc, hdf⟩ := scope_zero' (Decidable.of_not_not hs)
  have hv := Ahead.of hc
  obtain ⟨g1, g2, g3⟩ := defs_ok hdf List.nodup_nil
  have hk := (List.getElem?_eq_some_iff.1 hd).1
  obtain ⟨e, he, hm⟩ := own_mem hc hk
  obtain ⟨o, o', _, h2, _⟩ := checkD_ok hc
  obtain ⟨p1, p2⟩ := ownAll_mem h2 e.type (List.mem_map.2 ⟨e, List.mem_of_getElem? he, rfl⟩)
  obtain ⟨z, hz⟩ := Int.eq_ofNat_of_zero_le p1
  have hk2 := g3 _ e he
  obtain ⟨pp, qq, hr⟩ := defsR_ok h e (List.mem_of_getElem? he)
  rw [hz] at hm hk2 hr
  obtain ⟨n1, n2⟩ := kind_names hv s.nodes.length z [] (by omega) (by omega) hk2 _ hm d (by rw [Int.toNat_natCast]; exact hd) h5
  exact ⟨n1, n2, kind_derived hv s.nodes.length z [] pp qq (by omega) (by omega) hr _ hm d (by rw [Int.toNat_natCast]; exact hd) h5⟩
/-! ### which field has a name -/
theorem indexR_spec : ∀ (fs : List FieldD) (name : List UInt8) (i : Nat), (indexR fs name i = -1 ∧ ∀ f ∈ fs, f.name ≠ name) ∨ ∃ (j : Nat) (f : FieldD), indexR fs name i = ((i + j : Nat) : Int) ∧ fs[j]? = some f ∧ f.name = name
  | [], name, i => .inl ⟨rfl, fun f hf => by cases hf⟩
  | x :: fs, name, i => by
    unfold indexR
    by_cases hx : x.name = name
    · rw [if_pos hx]
      exact .inr ⟨0, x, rfl, rfl, hx⟩
    · rw [if_neg hx]
      rcases indexR_spec fs name (i + 1) with ⟨h1, h2⟩ | ⟨j, f, h1, h2, h3⟩
      · refine .inl ⟨h1, fun f hf => ?_⟩
        rcases List.mem_cons.1 hf with rfl | hf
        · exact hx
        · exact h2 f hf
      · refine .inr ⟨j + 1, f, ?_, by simpa using h2, h3⟩
        rw [h1]; omega
theorem idx_spec (d : NodeD) (name : List UInt8) : (idxR' d name = -1 ∧ ∀ f ∈ d.fields, f.name ≠ name) ∨ ∃ (j : Nat) (f : FieldD), idxR' d name = (j : Int) ∧ d.fields[j]? = some f ∧ f.name = name := by
  rcases indexR_spec d.fields name 0 with h | ⟨j, f, h1, h2, h3⟩
  · exact .inl h
  · refine .inr ⟨j, f, ?_, h2, h3⟩
    have : idxR' d name = ((0 + j : Nat) : Int) := h1
    rw [this, Nat.zero_add]
theorem field_inj {d : NodeD} (hn : (d.fields.map (·.name)).Nodup) {i j : Nat} {f g : FieldD} (hi : d.fields[i]? = some f) (hj : d.fields[j]? = some g) (h : f.name = g.name) : i = j := by
  have h1 : (d.fields.map (·.name))[i]? = some f.name := by rw [List.getElem?_map, hi]; rfl
  have h2 : (d.fields.map (·.name))[j]? = some f.name := by rw [List.getElem?_map, hj, h]; rfl
  obtain ⟨l1, e1⟩ := List.getElem?_eq_some_iff.1 h1
  obtain ⟨l2, e2⟩ := List.getElem?_eq_some_iff.1 h2
  have hp := List.pairwise_iff_getElem.1 (List.nodup_iff_pairwise_ne.1 hn)
  rcases Nat.lt_trichotomy i j with h | h | h
  · exact absurd (e1.trans e2.symm) (hp i j l1 l2 h)
  · exact h
  · exact absurd (e2.trans e1.symm) (hp j i l2 l1 h)
/-- What a field says that it is derived of. -/
structure DerOk (s : SpecD) (d : NodeD) (i : Nat) (f : FieldD) : Prop where
  size : f.derive = 1 ∨ f.derive = 2 → ∃ (j : Nat) (g : FieldD) (x : NodeD), i < j ∧ d.fields[j]? = some g ∧ g.name = f.of ∧ s.nodes[g.type.toNat]? = some x ∧ x.ereg = f.name
  sum : f.derive = 3 → ∃ (p q : Nat) (g h : FieldD), idxR' d f.of = (p : Int) ∧ idxR' d f.to = (q : Int) ∧ p ≤ q ∧ q < i ∧ d.fields[p]? = some g ∧ g.name = f.of ∧ d.fields[q]? = some h ∧ h.name = f.to
theorem derived_facts {s : SpecD} {l : Lk} {d : NodeD} {i : Nat} {f : FieldD} (hf : d.fields[i]? = some f) (h : derivedR s l d i = true) : DerOk s d i f := by
  unfold derivedR at h
  rw [hf] at h
  dsimp only at h
  cases ho : s.nodes[f.type.toNat]? with
  | none => rw [ho] at h; cases h
  | some own =>
    rw [ho] at h
    dsimp only at h
    refine ⟨fun hd => ?_, fun hd => ?_⟩
    · rw [if_neg (by omega), if_pos hd] at h
      split at h
      · cases h
      rename_i hc
      rcases idx_spec d f.of with ⟨h1, _⟩ | ⟨j, g, h1, h2, h3⟩
      · exact absurd (.inr (.inr (.inl (by omega)))) hc
      rw [h1, Int.toNat_natCast, h2] at h
      dsimp only at h
      cases hx : s.nodes[g.type.toNat]? with
      | none => rw [hx] at h; cases h
      | some x =>
        rw [hx] at h
        dsimp only at h
        have hlt : i < j := by
          refine Classical.byContradiction fun hn => hc (.inr (.inr (.inl ?_)))
          omega
        have hj : justR f x = true := by
          split at h
          · exact (Bool.and_eq_true _ _ ▸ h).1
          · exact (Bool.and_eq_true _ _ ▸ h).1
        unfold justR at hj
        rw [Bool.and_eq_true, decide_eq_true_eq] at hj
        exact ⟨j, g, x, hlt, h2, h3, hx, hj.1⟩
    · rw [if_neg (by omega), if_neg (by omega), if_pos hd] at h
      simp only [Bool.and_eq_true, decide_eq_true_eq] at h
      obtain ⟨_, ⟨h1, h2⟩, h3⟩ := h
      rcases idx_spec d f.of with ⟨e1, _⟩ | ⟨p, g, e1, e2, e3⟩
      · omega
      rcases idx_spec d f.to with ⟨t1, _⟩ | ⟨q, w, t1, t2, t3⟩
      · omega
      exact ⟨p, q, g, w, e1, t1, by omega, by omega, e2, e3, t2, t3⟩
theorem allDer_get {s : SpecD} {l : Lk} {d : NodeD} (h : allDer s l d = true) {i : Nat} {f : FieldD} (hf : d.fields[i]? = some f) : DerOk s d i f := by
  unfold allDer at h
  rw [List.all_eq_true] at h
  exact derived_facts hf (h i (List.mem_range.2 (List.getElem?_eq_some_iff.1 hf).1))
/-- The first field that is derived of a field's size or count. -/
def derOf (d : NodeD) (name : List UInt8) : Int := match d.fields.findIdx? (fun f => decide (f.derive = 1 ∨ f.derive = 2) && decide (f.of = name)) with
  | some k => (k : Int)
  | none => -1
/-- It is the only one, ahead of it; and each that is derived is found. -/
theorem derOf_spec {s : SpecD} {d : NodeD} (hn : (d.fields.map (·.name)).Nodup) (hd : ∀ (i : Nat) (f : FieldD), d.fields[i]? = some f → DerOk s d i f) :
    (∀ (i : Nat) (g : FieldD), d.fields[i]? = some g → ∀ k : Nat, derOf d g.name = (k : Int) → k < i ∧ ∃ f, d.fields[k]? = some f ∧ (f.derive = 1 ∨ f.derive = 2) ∧ f.of = g.name) ∧
    (∀ (k : Nat) (f : FieldD), d.fields[k]? = some f → (f.derive = 1 ∨ f.derive = 2) → ∃ (i : Nat) (g : FieldD), d.fields[i]? = some g ∧ derOf d g.name = (k : Int)) := by
  have hfind : ∀ (name : List UInt8) (k : Nat), derOf d name = (k : Int) → ∃ f, d.fields[k]? = some f ∧ (f.derive = 1 ∨ f.derive = 2) ∧ f.of = name := by
    intro name k h
    unfold derOf at h
    cases hx : d.fields.findIdx? (fun f => decide (f.derive = 1 ∨ f.derive = 2) && decide (f.of = name)) with
    | none => rw [hx] at h; dsimp only at h; omega
    | some m =>
      rw [hx] at h
      dsimp only at h
      obtain rfl : m = k := by omega
      obtain ⟨hl, hp, _⟩ := List.findIdx?_eq_some_iff_getElem.1 hx
      rw [Bool.and_eq_true, decide_eq_true_eq, decide_eq_true_eq] at hp
      exact ⟨_, List.getElem?_eq_getElem hl, hp.1, hp.2⟩
  refine ⟨fun i g hg k hk => ?_, fun k f hf hfd => ?_⟩
  · obtain ⟨f, hf, hfd, hfo⟩ := hfind _ _ hk
    obtain ⟨j, g2, x, h1, h2, h3, _, _⟩ := (hd k f hf).size hfd
    have : i = j := field_inj hn hg h2 (by rw [h3, hfo])
    exact ⟨by omega, f, hf, hfd, hfo⟩
  · obtain ⟨j, g, x, h1, h2, h3, h4, h5⟩ := (hd k f hf).size hfd
    refine ⟨j, g, h2, ?_⟩
    -- the first such one is this one: both are the names that the type goes by
    cases hx : d.fields.findIdx? (fun f => decide (f.derive = 1 ∨ f.derive = 2) && decide (f.of = g.name)) with
    | none =>
      have := List.findIdx?_eq_none_iff.1 hx f (List.mem_of_getElem? hf)
      simp [hfd, h3] at this
    | some m =>
      have hm : derOf d g.name = (m : Int) := by unfold derOf; rw [hx]
      obtain ⟨f2, hf2, hfd2, hfo2⟩ := hfind _ _ hm
      obtain ⟨j2, g2, x2, _, e2, e3, e4, e5⟩ := (hd m f2 hf2).size hfd2
      have : j2 = j := field_inj hn e2 h2 (by rw [e3, hfo2])
      subst this
      rw [h2] at e2; cases e2
      rw [h4] at e4; cases e4
      have : m = k := field_inj hn hf2 hf (by rw [← e5, h5])
      rw [hm, this]
end Go.Proofs.YtnapjcnfgdkmcaaGreatDoor
end
