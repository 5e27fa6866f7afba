/- Texts of a walk, one behind the other. -/
import Derived.Test.YtefipginoakecaaGreatDoorMg2
import Derived.Test.YtefipginoakecaaGreatDoorMg3
import Derived.Test.YtefipginoakecaaGreatDoorMg7
section
/- Contracts of scope: proper, the looker. -/
namespace Go.E
open Go
instance HasObj.app (G l : Chs) (b : Nat) (o : Obj) (f : Chunk → Chs) [h : HasObj l b o f] : HasObj (G ++ l) b o (fun x => G ++ f x) := ⟨fun x => (h.repl x).app G⟩
end Go.E
namespace Go.Proofs.YtefipginoakecaaGreatDoor
open Go Go.E
set_option linter.unusedVariables false
set_option linter.unusedSectionVars false
set_option linter.unusedSimpArgs false
set_option maxRecDepth 10000
theorem okChrs_split : ∀ (l : List UInt8) (i k : Nat), k ≤ l.length → okChrs i l = (okChrs i (l.take k) && okChrs (i + k) (l.drop k))
  | l, i, 0, _ => by simp [okChrs]
  | [], i, k + 1, h => by simp at h
  | c :: l, i, k + 1, h => by
    rw [List.take_succ_cons, List.drop_succ_cons, okChrs, okChrs, okChrs_split l (i + 1) k (by simpa using h), Bool.and_assoc, show i + 1 + k = i + (k + 1) by omega]
section
variable {ro : Ro} {own : Chs} {K : Value → Ro → Chs → Prop}
theorem proper_ok {t : List UInt8} (hM : MaxOk ro) (ht : t.length ≤ 4611686018427387904) (hk : ∀ ro', Le ro ro' → K (.bool (properD t)) ro' own) : CallOk Tryz.prog 56 #[str t] ro own K := by
  refine CallOk.intro (args := [_]) (rs := [_]) T_ok Tryz.func56 Tryz.call56 rfl rfl (by kernel_rfl) rfl rfl ?_
  repeat (first | exact endA | refine wkP ?_ | refine opB (fun b => ?_) | refine opA (fun a' c' hc1 hc2 => ?_) | (apply GJ.and; exact rfl; intro hg) | (apply GJ.or; exact rfl; intro hg))
  refine OpOk.bytesOf rfl Tryz.underlying9 Tryz.underlying104 Tryz.underlying5 (by unfold maxLen; omega) (fun ro1 b c hl1 hr => ?_)
  have hk1 := hk ro1 hl1
  have hM1 := hM.le hl1
  unfold properD at hk1
  repeat (first | exact endA | refine wkP ?_ | refine opB (fun b => ?_) | refine opA (fun a' c' hc1 hc2 => ?_) | (apply GJ.and; exact rfl; intro hg) | (apply GJ.or; exact rfl; intro hg))
  refine LoopOk.at (ι := Nat) Keep.auto (fun i => [(9, .int .i64 (i : Int))]) (fun i => own) (fun i => i ≤ t.length ∧ okChrs 0 (t.take i) = true) (fun i => t.length - i) 0 ?_ Sub.auto Sup.auto ?_
  · exact ⟨Nat.zero_le _, by simp [okChrs]⟩
  rintro i ⟨i1, i2⟩
  dsimp only [List.cons_append, List.nil_append] at i1 i2 ⊢
  by_cases hi : i < t.length
  · obtain ⟨y, hy⟩ : ∃ y, t[i]? = some y := ⟨_, List.getElem?_eq_getElem hi⟩
    have hyb : t[((i : Nat) : Int).toNat]! = y := by rw [Int.toNat_natCast, List.getElem!_eq_getElem?_getD, hy]; rfl
    have htk : t.take (i + 1) = t.take i ++ [y] := by rw [List.take_add_one, hy]; rfl
    have hdr : t.drop i = y :: t.drop (i + 1) := by rw [List.drop_eq_getElem_cons hi]; congr 1; exact Option.some.inj ((List.getElem?_eq_getElem hi).symm.trans hy)
    have hlen : (t.take i).length = i := by rw [List.length_take]; omega
    have hs1 : okChrs 0 (t.take (i + 1)) = decide (okChr i y.toNat) := by
      rw [htk, okChrs_split (t.take i ++ [y]) 0 i (by rw [List.length_append, hlen]; omega), List.take_left' hlen, List.drop_left' hlen, i2, Bool.true_and, Nat.zero_add, okChrs, okChrs, Bool.and_true]
    have hs2 : okChrs 0 t = (decide (okChr i y.toNat) && okChrs (i + 1) (t.drop (i + 1))) := by
      rw [okChrs_split t 0 i i1, i2, Bool.true_and, Nat.zero_add, hdr, okChrs]
    repeat (first | exact endA | refine wkP ?_ | refine opB (fun b => ?_) | refine opA (fun a' c' hc1 hc2 => ?_) | (apply GJ.and; exact rfl; intro hg) | (apply GJ.or; exact rfl; intro hg))
    rw [hyb]
    by_cases hok : okChr i y.toNat
    · rw [decide_eq_true hok] at hs1
      unfold okChr at hok
      refine Br.f (by omega) ?_
      repeat (first | exact endA | refine wkP ?_ | refine opB (fun b => ?_) | refine opA (fun a' c' hc1 hc2 => ?_) | (apply GJ.and; exact rfl; intro hg) | (apply GJ.or; exact rfl; intro hg))
      refine Wk.id ⟨i + 1, ⟨rfl, ?_⟩, ?_, Sub.auto, Sup.auto⟩
      all_goals try dsimp only
      · exact ⟨by omega, hs1⟩
      · omega
    · rw [decide_eq_false hok, Bool.false_and] at hs2
      rw [hs2, Bool.false_and] at hk1
      unfold okChr at hok
      refine Br.t (by omega) ?_
      repeat (first | exact endA | refine wkP ?_ | refine opB (fun b => ?_) | refine opA (fun a' c' hc1 hc2 => ?_) | (apply GJ.and; exact rfl; intro hg) | (apply GJ.or; exact rfl; intro hg))
      exact Wk.outS Sup.auto (.refl _) hk1
  · obtain rfl : i = t.length := by omega
    rw [List.take_length] at i2
    rw [i2, Bool.true_and] at hk1
    by_cases h0 : t = []
    · subst h0
      repeat (first | exact endA | refine wkP ?_ | refine opB (fun b => ?_) | refine opA (fun a' c' hc1 hc2 => ?_) | (apply GJ.and; exact rfl; intro hg) | (apply GJ.or; exact rfl; intro hg))
      exact Wk.outS Sup.auto (.refl _) hk1
    by_cases h24 : t.length ≤ 24
    · rw [decide_eq_true h0, decide_eq_true h24, Bool.true_and, Bool.true_and] at hk1
      repeat (first | exact endA | refine wkP ?_ | refine opB (fun b => ?_) | refine opA (fun a' c' hc1 hc2 => ?_) | (apply GJ.and; exact rfl; intro hg) | (apply GJ.or; exact rfl; intro hg))
      refine word_okP hM1 (by omega) ?_
      repeat (first | exact endA | refine wkP ?_ | refine opB (fun b => ?_) | refine opA (fun a' c' hc1 hc2 => ?_) | (apply GJ.and; exact rfl; intro hg) | (apply GJ.or; exact rfl; intro hg))
      exact Wk.outS Sup.auto (.refl _) hk1
    · rw [decide_eq_true h0, decide_eq_false h24, Bool.and_false, Bool.false_and] at hk1
      repeat (first | exact endA | refine wkP ?_ | refine opB (fun b => ?_) | refine opA (fun a' c' hc1 hc2 => ?_) | (apply GJ.and; exact rfl; intro hg) | (apply GJ.or; exact rfl; intro hg))
      exact Wk.outS Sup.auto (.refl _) hk1
theorem Rds.clip {ro : Ro} {own : Chs} {a : Option Addr} {n c s : Nat} {cs : List Value} (hr : Rds ro own a n c s cs) : Rds ro own a n n s cs :=
  ⟨fun h hs => by
    rcases hr.run h hs with ⟨h1, h2, a', c', h3, _⟩ | ⟨h1, b, o, cap, h3, h4, h5, h6⟩
    · exact .inl ⟨h1, h2, a, n, by rw [h1], by rw [h1]; exact Nat.zero_le _⟩
    · cases h3
      exact .inr ⟨h1, b, o, n, rfl, Nat.le_refl _, Nat.le_trans h4 h5, h6⟩, hr.len, Nat.le_refl _, Nat.le_trans hr.le hr.max⟩
theorem node_get {ds : List NodeD} {xs : List NodeA} {i o : Nat} {d : NodeD} {x : NodeA} (hd : ds[i]? = some d) (hx : xs[i]? = some x) (ho : o < 18) : (nodesV ds xs)[i * 18 + o]? = (nodeV d x)[o]? := by
  have h := nodesV_drop ds xs i d x hd hx
  rw [← h, List.getElem?_take_of_lt ho, List.getElem?_drop]
theorem node_fields {ds : List NodeD} {xs : List NodeA} {i : Nat} {d : NodeD} {x : NodeA} (hd : ds[i]? = some d) (hx : xs[i]? = some x) : (nodesV ds xs)[i * 18 + 13]? = some (.slice x.fa d.fields.length x.fc) := by
  have := congrArg (·[13]?) (nodesV_drop ds xs i d x hd hx)
  simpa [nodeV, List.getElem?_take, List.getElem?_drop] using this
/-- Names that are one's own, or another's yet. -/
def nmC (cs : List (List UInt8)) : Option (Option Addr × Nat) → Chs
  | none => []
  | some (oa, oc) => [.sl oa cs.length oc 9 1 (cs.map str)]
def nmV (na : Option Addr) (ns cs : List (List UInt8)) : Option (Option Addr × Nat) → Value
  | none => .slice na ns.length ns.length
  | some (oa, oc) => .slice oa cs.length oc
/-- A fault as a value. -/
def flV (f : Int × Int) : Value := .agg #[.int .i64 f.1, .int .i64 f.2]
/-- Texts that are no longer than can be. -/
structure TextIn (s : SpecD) : Prop where
  names : ∀ d ∈ s.nodes, ∀ f ∈ d.fields, f.name.length ≤ 4611686018427387904
  texts : ∀ d ∈ s.nodes, d.text.length ≤ 4611686018427387904
  defs : ∀ d ∈ s.defs, d.name.length ≤ 4611686018427387904
/-- A map whose keys are these names. -/
structure KeysOk (kn : List (List UInt8)) (M : List (List UInt8 × Int × Nat)) : Prop where
  map : MapOk (fun l : List UInt8 => l.length ≤ maxLen) M
  is : ∀ x, (getG M x).isSome = decide (x ∈ kn)
def KindC (s : SpecD) (a : SpecA) (ro : Ro) (p bm : Nat) (M : List (List UInt8 × Int × Nat)) (cM : Nat) (R : Chs) (kn : List (List UInt8)) (n : Nat) : Prop :=
  ∀ (i : Nat), i < n → i < s.nodes.length → ∀ (ns : List (List UInt8)) (na : Option Addr) (nc : Nat) (ro' : Ro) (G : Chs) (K : Value → Ro → Chs → Prop), Le ro ro' →
    Rds ro' (G ++ .blk p 93 (specV s a ++ [.map (some bm)]) :: .obj bm (mapG str (Value.int .i64) M cM) :: R) na ns.length nc 1 (ns.map str) → ns.length + 65 * i ≤ 200000 →
    (∀ ro2, Le ro' ro2 → K (flV (kindS s kn n i ns)) ro2 (G ++ .blk p 93 (specV s a ++ [.map (some bm)]) :: .obj bm (mapG str (Value.int .i64) M cM) :: R)) →
    CallOk Tryz.prog 57 #[ptr' p, .int .i64 (i : Int), .slice na ns.length nc] ro' (G ++ .blk p 93 (specV s a ++ [.map (some bm)]) :: .obj bm (mapG str (Value.int .i64) M cM) :: R) K
variable {s : SpecD} {a : SpecA} {p bm : Nat} {M : List (List UInt8 × Int × Nat)} {cM : Nat} {R : Chs} {kn : List (List UInt8)}
set_option maxHeartbeats 4000000 in
theorem lrecord_ok (ho : SpecOk ro s a) (hv : Ahead s) (hM : MaxOk ro) (hT : TextIn s) {n : Nat} (ih : KindC s a ro p bm M cM R kn n) {i : Nat} {d : NodeD} (hin : i < n + 1) (hd : s.nodes[i]? = some d) (h5 : d.kind = 5) {ns : List (List UInt8)} {na : Option Addr} {nc : Nat} {ro' : Ro} {G : Chs} (hle : Le ro ro')
    (hns : Rds ro' (G ++ .blk p 93 (specV s a ++ [.map (some bm)]) :: .obj bm (mapG str (Value.int .i64) M cM) :: R) na ns.length nc 1 (ns.map str)) (hb : ns.length + 65 * i ≤ 200000)
    (hk : ∀ ro2, Le ro' ro2 → K (flV (recS (kindS s kn n) (i : Int) d.fields ns)) ro2 (G ++ .blk p 93 (specV s a ++ [.map (some bm)]) :: .obj bm (mapG str (Value.int .i64) M cM) :: R)) :
    CallOk Tryz.prog 87 #[ptr' p, .int .i64 (i : Int), .slice na ns.length nc] ro' (G ++ .blk p 93 (specV s a ++ [.map (some bm)]) :: .obj bm (mapG str (Value.int .i64) M cM) :: R) K := by
  have hi := (List.getElem?_eq_some_iff.1 hd).1
  have hL : Leq ro ro' := ⟨hle.1⟩
  have hr1 : Rs ro' a.na s.nodes.length a.nc 18 (nodesV s.nodes a.xs) := ho.nodes.up
  have hm := hr1.max
  unfold maxLen at hm
  obtain ⟨x, hx⟩ : ∃ x, a.xs[i]? = some x := ⟨_, List.getElem?_eq_getElem (by rw [ho.len]; exact hi)⟩
  have hn1 := (ho.each i d x hd hx).le hle
  have hfr := hn1.fields
  have hdr1 := nodesV_drop _ _ _ _ _ hd hx
  obtain ⟨hf, hks⟩ := hv i d hd
  have hsm := form_small hf
  have hnl := hns.len
  have hnc := hns.le
  have hnm := hns.max
  unfold maxLen at hnm
  refine CallOk.intro (args := [_, _, _]) (rs := [_]) T_ok Tryz.func87 Tryz.call87 rfl rfl (by kernel_rfl) rfl rfl ?_
  repeat (first | exact endA | refine wkP ?_ | refine opB (fun b => ?_) | refine opA (fun a' c' hc1 hc2 => ?_) | (apply GJ.and; exact rfl; intro hg) | (apply GJ.or; exact rfl; intro hg))
  rw [Int.toNat_natCast, Nat.add_assoc]
  refine OpOk.load rfl rfl (Ld.rs hr1 (node_fields hd hx)) ?_
  have hns2 := Rds.clip hns
  have hfm := hfr.max
  have hfl := hfr.le
  unfold maxLen at hfm
  repeat (first | exact endA | refine wkP ?_ | refine opB (fun b => ?_) | refine opA (fun a' c' hc1 hc2 => ?_) | (apply GJ.and; exact rfl; intro hg) | (apply GJ.or; exact rfl; intro hg))
  refine LoopOk.auto (ι := Nat × List (List UInt8) × Option (Option Addr × Nat)) Keep.auto (fun (j, cs, w) => [(29, .int .i64 (j : Int)), (7, nmV na ns cs w)]) (fun (j, cs, w) => nmC cs w ++ .blk b 30 [.int .i64 0, .int .i64 0] :: (G ++ .blk p 93 (specV s a ++ [.map (some bm)]) :: .obj bm (mapG str (Value.int .i64) M cM) :: R)) (fun (j, cs, w) r' => j ≤ d.fields.length ∧ (w = none → j = 0 ∧ cs = ns) ∧ (∀ q, w = some q → cs.length ≤ q.2 ∧ q.2 ≤ maxLen) ∧ cs.length = ns.length + j ∧ recS (kindS s kn n) (i : Int) d.fields ns = recS (kindS s kn n) (i : Int) (d.fields.drop j) cs) (fun (j, cs, w) => d.fields.length - j) (0, ns, none) ?_ Sub.auto Sup.auto ?_
  · exact ⟨Nat.zero_le _, fun _ => ⟨rfl, rfl⟩, (fun q h => by cases h), rfl, rfl⟩
  rintro ⟨j, cs, w⟩ ro2 hl2 ⟨i1, i2, i3, i4, i5⟩
  dsimp only [List.cons_append, List.nil_append] at i1 i2 i3 i4 i5 ⊢
  have hL2 : Leq ro' ro2 := ⟨hl2.1⟩
  have hM2 := (hM.le hle).le hl2
  have hfr2 : Rs ro2 x.fa d.fields.length x.fc 5 (fieldsV d.fields) := hfr.up
  cases w with
  | none =>
    obtain ⟨hj0, rfl⟩ := i2 rfl
    have hnames : Rds ro2 (.blk b 30 [.int .i64 0, .int .i64 0] :: (G ++ .blk p 93 (specV s a ++ [.map (some bm)]) :: .obj bm (mapG str (Value.int .i64) M cM) :: R)) na cs.length cs.length 1 (cs.map str) := hns2.up
    dsimp only [nmC, nmV, List.nil_append]
    by_cases hj : j < d.fields.length
    · obtain ⟨f, hfj⟩ : ∃ f, d.fields[j]? = some f := ⟨_, List.getElem?_eq_getElem hj⟩
      have hfe : d.fields[j] = f := Option.some.inj ((List.getElem?_eq_getElem hj).symm.trans hfj)
      have hfd := fieldsV_drop d.fields hj
      rw [hfe] at hfd
      have hdj : d.fields.drop j = f :: d.fields.drop (j + 1) := by rw [List.drop_eq_getElem_cons hj, hfe]
      rw [hdj, recS] at i5
      have hfm' := List.mem_of_getElem? hfj
      have hfn := hT.names d (List.mem_of_getElem? hd) f hfm'
      have hty : f.type ∈ kidsD d := by rw [kids_rec hf h5]; exact List.mem_map.2 ⟨f, hfm', rfl⟩
      obtain ⟨q1, q2⟩ := hks _ hty
      obtain ⟨k, hk0⟩ := Int.eq_ofNat_of_zero_le q1
      clear hfe hfj hdj hty hfm'
      repeat (first | exact endA | refine wkP ?_ | refine opB (fun b => ?_) | refine opA (fun a' c' hc1 hc2 => ?_) | (apply GJ.and; exact rfl; intro hg) | (apply GJ.or; exact rfl; intro hg))
      rw [Int.toNat_natCast]
      refine OpOk.loadRow rfl rfl (LdN.at hfr2 hfd) rfl ?_
      repeat (first | exact endA | refine wkP ?_ | refine opB (fun b => ?_) | refine opA (fun a' c' hc1 hc2 => ?_) | (apply GJ.and; exact rfl; intro hg) | (apply GJ.or; exact rfl; intro hg))
      rename_i b9x
      obtain ⟨bF, hbF⟩ : ∃ z : Nat, z = b := ⟨_, rfl⟩
      subst hbF
      refine proper_ok hM2 hfn (fun ro3 hl3 => ?_)
      have hL3 : Leq ro2 ro3 := ⟨hl3.1⟩
      by_cases hp : properD f.name = false
      · rw [if_pos hp] at i5
        have hk2 := hk ro3 (hl2.trans hl3)
        rw [i5] at hk2
        rw [hp]
        dsimp only [flV] at hk2
        repeat (first | exact endA | refine wkP ?_ | refine opB (fun b => ?_) | refine opA (fun a' c' hc1 hc2 => ?_) | (apply GJ.and; exact rfl; intro hg) | (apply GJ.or; exact rfl; intro hg))
        exact Wk.outS Sup.auto (.refl _) hk2
      rw [if_neg hp] at i5
      have hp1 : properD f.name = true := by simpa using hp
      rw [hp1]
      have hcm : (cs.map str).length = cs.length := List.length_map ..
      repeat (first | exact endA | refine wkP ?_ | refine opB (fun b => ?_) | refine opA (fun a' c' hc1 hc2 => ?_) | (apply GJ.and; exact rfl; intro hg) | (apply GJ.or; exact rfl; intro hg))
      refine LoopOk.at (ι := Nat) Keep.auto (fun e => [(41, .int .i64 (e : Int))]) (fun e => .blk bF 56 (fieldV f) :: .blk b9x 30 [.int .i64 0, .int .i64 0] :: (G ++ .blk p 93 (specV s a ++ [.map (some bm)]) :: .obj bm (mapG str (Value.int .i64) M cM) :: R)) (fun e => e ≤ cs.length ∧ f.name ∉ cs.take e) (fun e => cs.length - e) 0 ?_ Sub.auto Sup.auto ?_
      · exact ⟨Nat.zero_le _, by simp⟩
      rintro e ⟨m1, m2⟩
      dsimp only [List.cons_append, List.nil_append] at m1 m2 ⊢
      by_cases he : e < cs.length
      · obtain ⟨y, hy⟩ : ∃ y, cs[e]? = some y := ⟨_, List.getElem?_eq_getElem he⟩
        have hyb : cs[((e : Nat) : Int).toNat]! = y := by rw [Int.toNat_natCast, List.getElem!_eq_getElem?_getD, hy]; rfl
        have htk : cs.take (e + 1) = cs.take e ++ [y] := by rw [List.take_add_one, hy]; rfl
        repeat (first | exact endA | refine wkP ?_ | refine opB (fun b => ?_) | refine opA (fun a' c' hc1 hc2 => ?_) | (apply GJ.and; exact rfl; intro hg) | (apply GJ.or; exact rfl; intro hg))
        rw [hyb]
        by_cases hyf : y = f.name
        · have hmem : f.name ∈ cs := hyf ▸ List.mem_of_getElem? hy
          rw [if_pos hmem] at i5
          have hk2 := hk ro3 (hl2.trans hl3)
          rw [i5] at hk2
          dsimp only [flV] at hk2
          refine Br.t hyf ?_
          repeat (first | exact endA | refine wkP ?_ | refine opB (fun b => ?_) | refine opA (fun a' c' hc1 hc2 => ?_) | (apply GJ.and; exact rfl; intro hg) | (apply GJ.or; exact rfl; intro hg))
          exact Wk.outS Sup.auto (.refl _) hk2
        · refine Br.f hyf ?_
          repeat (first | exact endA | refine wkP ?_ | refine opB (fun b => ?_) | refine opA (fun a' c' hc1 hc2 => ?_) | (apply GJ.and; exact rfl; intro hg) | (apply GJ.or; exact rfl; intro hg))
          refine Wk.id ⟨e + 1, ⟨rfl, ?_⟩, ?_, Sub.auto, Sup.auto⟩
          all_goals try dsimp only
          · refine ⟨by omega, ?_⟩
            rw [htk, List.mem_append, List.mem_singleton]
            exact fun h => h.elim m2 (fun h => hyf h.symm)
          · omega
      · obtain rfl : e = cs.length := by omega
        rw [List.take_length] at m2
        rw [if_neg m2] at i5
        repeat (first | exact endA | refine wkP ?_ | refine opB (fun b => ?_) | refine opA (fun a' c' hc1 hc2 => ?_) | (apply GJ.and; exact rfl; intro hg) | (apply GJ.or; exact rfl; intro hg))
        rw [hk0] at i5 ⊢
        have hRD : Rds ro3 (.blk bF 56 (fieldV f) :: .blk b9x 30 [.int .i64 0, .int .i64 0] :: (G ++ .blk p 93 (specV s a ++ [.map (some bm)]) :: .obj bm (mapG str (Value.int .i64) M cM) :: R)) na cs.length cs.length 1 (cs.map str) := (by exact hns2.up)
        refine ih k (by omega) (by omega) cs na cs.length ro3 (.blk bF 56 (fieldV f) :: .blk b9x 30 [.int .i64 0, .int .i64 0] :: G) _ ((hle.trans hl2).trans hl3) hRD (by omega) (fun ro4 hl4 => ?_)
        have hk4 := fun r5 h5 => hk r5 (((hl2.trans hl3).trans hl4).trans h5)
        dsimp only [List.cons_append, flV]
        generalize kindS s kn n (k : Int) cs = z at *
        obtain ⟨z1, z2⟩ := z
        dsimp only at i5 ⊢
        repeat (first | exact endA | refine wkP ?_ | refine opB (fun b => ?_) | refine opA (fun a' c' hc1 hc2 => ?_) | (apply GJ.and; exact rfl; intro hg) | (apply GJ.or; exact rfl; intro hg))
        by_cases hz : z1 ≠ 0
        · rw [if_pos hz] at i5
          have hk2 := hk4 ro4 (Le.refl _)
          rw [i5] at hk2
          dsimp only [flV] at hk2
          refine Br.t hz ?_
          repeat (first | exact endA | refine wkP ?_ | refine opB (fun b => ?_) | refine opA (fun a' c' hc1 hc2 => ?_) | (apply GJ.and; exact rfl; intro hg) | (apply GJ.or; exact rfl; intro hg))
          exact Wk.outS Sup.auto (.refl _) hk2
        · rw [if_neg hz] at i5
          have hL4 : Leq ro3 ro4 := ⟨hl4.1⟩
          have hcl : cs.map str ++ [str f.name] = (cs ++ [f.name]).map str := by simp
          have hnl : cs.length + 1 = (cs ++ [f.name]).length := by simp
          refine Br.f hz ?_
          repeat (first | exact endA | refine wkP ?_ | refine opB (fun b => ?_) | refine opA (fun a' c' hc1 hc2 => ?_) | (apply GJ.and; exact rfl; intro hg) | (apply GJ.or; exact rfl; intro hg))
          refine OpOk.appendFull rfl rfl rfl rfl rfl (by exact hns2.up) (Rds.hasSl (by decide) (by decide) rfl) (by intro u hu; simp at hu; subst hu; rfl) (by decide) (by omega) (fun a' c' hc1 hc2 => ?_)
          repeat (first | exact endA | refine wkP ?_ | refine opB (fun b => ?_) | refine opA (fun a' c' hc1 hc2 => ?_) | (apply GJ.and; exact rfl; intro hg) | (apply GJ.or; exact rfl; intro hg))
          rw [hcl]
          rw [hnl] at hc1 ⊢
          refine Wk.id ⟨(j + 1, cs ++ [f.name], some (a', c')), ?_, ?_, Sub.auto, Sup.auto⟩
          all_goals try dsimp only
          · exact ⟨by omega, (fun h => by cases h), (fun q hq => by cases hq; exact ⟨hc1, hc2⟩), by rw [← hnl]; omega, i5⟩
          · omega
    · rw [List.drop_eq_nil_of_le (by omega), recS] at i5
      have hk2 := hk ro2 hl2
      rw [i5] at hk2
      dsimp only [flV] at hk2
      repeat (first | exact endA | refine wkP ?_ | refine opB (fun b => ?_) | refine opA (fun a' c' hc1 hc2 => ?_) | (apply GJ.and; exact rfl; intro hg) | (apply GJ.or; exact rfl; intro hg))
      exact Wk.outS Sup.auto (.refl _) hk2
  | some q =>
    obtain ⟨oa, oc⟩ := q
    obtain ⟨i6, i7⟩ := i3 _ rfl
    dsimp only at i6 i7
    have i8 := i7
    unfold maxLen at i8
    dsimp only [nmC, nmV, List.nil_append, List.cons_append]
    by_cases hj : j < d.fields.length
    · obtain ⟨f, hfj⟩ : ∃ f, d.fields[j]? = some f := ⟨_, List.getElem?_eq_getElem hj⟩
      have hfe : d.fields[j] = f := Option.some.inj ((List.getElem?_eq_getElem hj).symm.trans hfj)
      have hfd := fieldsV_drop d.fields hj
      rw [hfe] at hfd
      have hdj : d.fields.drop j = f :: d.fields.drop (j + 1) := by rw [List.drop_eq_getElem_cons hj, hfe]
      rw [hdj, recS] at i5
      have hfm' := List.mem_of_getElem? hfj
      have hfn := hT.names d (List.mem_of_getElem? hd) f hfm'
      have hty : f.type ∈ kidsD d := by rw [kids_rec hf h5]; exact List.mem_map.2 ⟨f, hfm', rfl⟩
      obtain ⟨q1, q2⟩ := hks _ hty
      obtain ⟨k, hk0⟩ := Int.eq_ofNat_of_zero_le q1
      clear hfe hfj hdj hty hfm'
      repeat (first | exact endA | refine wkP ?_ | refine opB (fun b => ?_) | refine opA (fun a' c' hc1 hc2 => ?_) | (apply GJ.and; exact rfl; intro hg) | (apply GJ.or; exact rfl; intro hg))
      rw [Int.toNat_natCast]
      refine OpOk.loadRow rfl rfl (LdN.at hfr2 hfd) rfl ?_
      repeat (first | exact endA | refine wkP ?_ | refine opB (fun b => ?_) | refine opA (fun a' c' hc1 hc2 => ?_) | (apply GJ.and; exact rfl; intro hg) | (apply GJ.or; exact rfl; intro hg))
      rename_i b9x
      obtain ⟨bF, hbF⟩ : ∃ z : Nat, z = b := ⟨_, rfl⟩
      subst hbF
      refine proper_ok hM2 hfn (fun ro3 hl3 => ?_)
      have hL3 : Leq ro2 ro3 := ⟨hl3.1⟩
      by_cases hp : properD f.name = false
      · rw [if_pos hp] at i5
        have hk2 := hk ro3 (hl2.trans hl3)
        rw [i5] at hk2
        rw [hp]
        dsimp only [flV] at hk2
        repeat (first | exact endA | refine wkP ?_ | refine opB (fun b => ?_) | refine opA (fun a' c' hc1 hc2 => ?_) | (apply GJ.and; exact rfl; intro hg) | (apply GJ.or; exact rfl; intro hg))
        exact Wk.outS Sup.auto (.refl _) hk2
      rw [if_neg hp] at i5
      have hp1 : properD f.name = true := by simpa using hp
      rw [hp1]
      have hcm : (cs.map str).length = cs.length := List.length_map ..
      repeat (first | exact endA | refine wkP ?_ | refine opB (fun b => ?_) | refine opA (fun a' c' hc1 hc2 => ?_) | (apply GJ.and; exact rfl; intro hg) | (apply GJ.or; exact rfl; intro hg))
      refine LoopOk.at (ι := Nat) Keep.auto (fun e => [(41, .int .i64 (e : Int))]) (fun e => .blk bF 56 (fieldV f) :: .sl oa cs.length oc 9 1 (cs.map str) :: .blk b9x 30 [.int .i64 0, .int .i64 0] :: (G ++ .blk p 93 (specV s a ++ [.map (some bm)]) :: .obj bm (mapG str (Value.int .i64) M cM) :: R)) (fun e => e ≤ cs.length ∧ f.name ∉ cs.take e) (fun e => cs.length - e) 0 ?_ Sub.auto Sup.auto ?_
      · exact ⟨Nat.zero_le _, by simp⟩
      rintro e ⟨m1, m2⟩
      dsimp only [List.cons_append, List.nil_append] at m1 m2 ⊢
      by_cases he : e < cs.length
      · obtain ⟨y, hy⟩ : ∃ y, cs[e]? = some y := ⟨_, List.getElem?_eq_getElem he⟩
        have hyb : cs[((e : Nat) : Int).toNat]! = y := by rw [Int.toNat_natCast, List.getElem!_eq_getElem?_getD, hy]; rfl
        have htk : cs.take (e + 1) = cs.take e ++ [y] := by rw [List.take_add_one, hy]; rfl
        repeat (first | exact endA | refine wkP ?_ | refine opB (fun b => ?_) | refine opA (fun a' c' hc1 hc2 => ?_) | (apply GJ.and; exact rfl; intro hg) | (apply GJ.or; exact rfl; intro hg))
        rw [hyb]
        by_cases hyf : y = f.name
        · have hmem : f.name ∈ cs := hyf ▸ List.mem_of_getElem? hy
          rw [if_pos hmem] at i5
          have hk2 := hk ro3 (hl2.trans hl3)
          rw [i5] at hk2
          dsimp only [flV] at hk2
          refine Br.t hyf ?_
          repeat (first | exact endA | refine wkP ?_ | refine opB (fun b => ?_) | refine opA (fun a' c' hc1 hc2 => ?_) | (apply GJ.and; exact rfl; intro hg) | (apply GJ.or; exact rfl; intro hg))
          exact Wk.outS Sup.auto (.refl _) hk2
        · refine Br.f hyf ?_
          repeat (first | exact endA | refine wkP ?_ | refine opB (fun b => ?_) | refine opA (fun a' c' hc1 hc2 => ?_) | (apply GJ.and; exact rfl; intro hg) | (apply GJ.or; exact rfl; intro hg))
          refine Wk.id ⟨e + 1, ⟨rfl, ?_⟩, ?_, Sub.auto, Sup.auto⟩
          all_goals try dsimp only
          · refine ⟨by omega, ?_⟩
            rw [htk, List.mem_append, List.mem_singleton]
            exact fun h => h.elim m2 (fun h => hyf h.symm)
          · omega
      · obtain rfl : e = cs.length := by omega
        rw [List.take_length] at m2
        rw [if_neg m2] at i5
        repeat (first | exact endA | refine wkP ?_ | refine opB (fun b => ?_) | refine opA (fun a' c' hc1 hc2 => ?_) | (apply GJ.and; exact rfl; intro hg) | (apply GJ.or; exact rfl; intro hg))
        rw [hk0] at i5 ⊢
        have hRD : Rds ro3 (.blk bF 56 (fieldV f) :: .sl oa cs.length oc 9 1 (cs.map str) :: .blk b9x 30 [.int .i64 0, .int .i64 0] :: (G ++ .blk p 93 (specV s a ++ [.map (some bm)]) :: .obj bm (mapG str (Value.int .i64) M cM) :: R)) oa cs.length oc 1 (cs.map str) := Rds.auto
        refine ih k (by omega) (by omega) cs oa oc ro3 (.blk bF 56 (fieldV f) :: .sl oa cs.length oc 9 1 (cs.map str) :: .blk b9x 30 [.int .i64 0, .int .i64 0] :: G) _ ((hle.trans hl2).trans hl3) hRD (by omega) (fun ro4 hl4 => ?_)
        have hk4 := fun r5 h5 => hk r5 (((hl2.trans hl3).trans hl4).trans h5)
        dsimp only [List.cons_append, flV]
        generalize kindS s kn n (k : Int) cs = z at *
        obtain ⟨z1, z2⟩ := z
        dsimp only at i5 ⊢
        repeat (first | exact endA | refine wkP ?_ | refine opB (fun b => ?_) | refine opA (fun a' c' hc1 hc2 => ?_) | (apply GJ.and; exact rfl; intro hg) | (apply GJ.or; exact rfl; intro hg))
        by_cases hz : z1 ≠ 0
        · rw [if_pos hz] at i5
          have hk2 := hk4 ro4 (Le.refl _)
          rw [i5] at hk2
          dsimp only [flV] at hk2
          refine Br.t hz ?_
          repeat (first | exact endA | refine wkP ?_ | refine opB (fun b => ?_) | refine opA (fun a' c' hc1 hc2 => ?_) | (apply GJ.and; exact rfl; intro hg) | (apply GJ.or; exact rfl; intro hg))
          exact Wk.outS Sup.auto (.refl _) hk2
        · rw [if_neg hz] at i5
          have hL4 : Leq ro3 ro4 := ⟨hl4.1⟩
          have hcl : cs.map str ++ [str f.name] = (cs ++ [f.name]).map str := by simp
          have hnl : cs.length + 1 = (cs ++ [f.name]).length := by simp
          refine Br.f hz ?_
          repeat (first | exact endA | refine wkP ?_ | refine opB (fun b => ?_) | refine opA (fun a' c' hc1 hc2 => ?_) | (apply GJ.and; exact rfl; intro hg) | (apply GJ.or; exact rfl; intro hg))
          rw [hcl]
          rw [hnl] at hc1 ⊢
          refine Wk.id ⟨(j + 1, cs ++ [f.name], some (a', c')), ?_, ?_, Sub.auto, Sup.auto⟩
          all_goals try dsimp only
          · exact ⟨by omega, (fun h => by cases h), (fun q hq => by cases hq; exact ⟨hc1, hc2⟩), by rw [← hnl]; omega, i5⟩
          · omega
    · rw [List.drop_eq_nil_of_le (by omega), recS] at i5
      have hk2 := hk ro2 hl2
      rw [i5] at hk2
      dsimp only [flV] at hk2
      repeat (first | exact endA | refine wkP ?_ | refine opB (fun b => ?_) | refine opA (fun a' c' hc1 hc2 => ?_) | (apply GJ.and; exact rfl; intro hg) | (apply GJ.or; exact rfl; intro hg))
      exact Wk.outS Sup.auto (.refl _) hk2
set_option maxHeartbeats 8000000 in
theorem lkind_ok (ho : SpecOk ro s a) (hv : Ahead s) (hM : MaxOk ro) (hT : TextIn s) (hK : KeysOk kn M) : ∀ n, KindC s a ro p bm M cM R kn n := by
  intro n
  induction n with
  | zero => intro i h; omega
  | succ n ih =>
    intro i hin hi ns na nc ro' G K hle hns hb hk
    obtain ⟨d, hd⟩ : ∃ d, s.nodes[i]? = some d := ⟨_, List.getElem?_eq_getElem hi⟩
    have hL : Leq ro ro' := ⟨hle.1⟩
    have hr1 : Rs ro' a.na s.nodes.length a.nc 18 (nodesV s.nodes a.xs) := ho.nodes.up
    have hm := hr1.max
    unfold maxLen at hm
    obtain ⟨x, hx⟩ : ∃ x, a.xs[i]? = some x := ⟨_, List.getElem?_eq_getElem (by rw [ho.len]; exact hi)⟩
    have hn1 := (ho.each i d x hd hx).le hle
    have hdr1 := nodesV_drop _ _ _ _ _ hd hx
    obtain ⟨hf, hks⟩ := hv i d hd
    have hsm := form_small hf
    have htx := hT.texts d (List.mem_of_getElem? hd)
    rw [kindS, Int.toNat_natCast, hd] at hk
    dsimp only at hk
    refine CallOk.intro (args := [_, _, _]) (rs := [_]) T_ok Tryz.func57 Tryz.call57 rfl rfl (by kernel_rfl) rfl rfl ?_
    repeat (first | exact endA | refine wkP ?_ | refine opB (fun b => ?_) | refine opA (fun a' c' hc1 hc2 => ?_) | (apply GJ.and; exact rfl; intro hg) | (apply GJ.or; exact rfl; intro hg))
    rw [Int.toNat_natCast]
    refine OpOk.loadRow rfl rfl (LdN.at hr1 hdr1) rfl ?_
    by_cases h13 : d.kind = 13
    · repeat (first | exact endA | refine wkP ?_ | refine opB (fun b => ?_) | refine opA (fun a' c' hc1 hc2 => ?_) | (apply GJ.and; exact rfl; intro hg) | (apply GJ.or; exact rfl; intro hg))
      refine QOk.lookupOkG (kt := 9) (et := 3) (kv := str) (vv := Value.int .i64) (k := d.text) (z := .int .i64 0) rfl rfl Tryz.underlying91 (KeyEnc.text Tryz.underlying9) hK.map (by unfold maxLen; omega) (by kernel_rfl) ?_
      rw [hK.is]
      by_cases hin2 : d.text ∈ kn
      · rw [if_neg (fun h => h.2 hin2), if_neg (by omega)] at hk
        rw [decide_eq_true hin2]
        repeat (first | exact endA | refine wkP ?_ | refine opB (fun b => ?_) | refine opA (fun a' c' hc1 hc2 => ?_) | (apply GJ.and; exact rfl; intro hg) | (apply GJ.or; exact rfl; intro hg))
        rename_i bF
        obtain ⟨bN, hbN⟩ : ∃ z : Nat, z = b := ⟨_, rfl⟩
        subst hbN
        refine kids_ok hn1 (by omega) (fun a1 n1 c1 h1 h2 h3 => ?_)
        subst h1
        have hkl : (kidsD d).length ≤ 1000 := by unfold kidsD; split <;> simp <;> omega
        repeat (first | exact endA | refine wkP ?_ | refine opB (fun b => ?_) | refine opA (fun a' c' hc1 hc2 => ?_) | (apply GJ.and; exact rfl; intro hg) | (apply GJ.or; exact rfl; intro hg))
        refine LoopOk.auto (ι := Nat) Keep.auto (fun j => [(48, .int .i64 (j : Int))]) (fun j => .sl a1 (kidsD d).length c1 3 1 (kidsV (kidsD d)) :: .blk bN 41 (nodeV d x) :: .blk bF 30 [.int .i64 0, .int .i64 0] :: (G ++ .blk p 93 (specV s a ++ [.map (some bm)]) :: .obj bm (mapG str (Value.int .i64) M cM) :: R)) (fun j r' => j ≤ (kidsD d).length ∧ goS (fun k => kindS s kn n k ns) (kidsD d) = goS (fun k => kindS s kn n k ns) ((kidsD d).drop j)) (fun j => (kidsD d).length - j) 0 ?_ Sub.auto Sup.auto ?_
        · exact ⟨Nat.zero_le _, rfl⟩
        rintro j ro2 hl2 ⟨i1, i2⟩
        dsimp only [List.cons_append, List.nil_append] at i1 i2 ⊢
        by_cases hj : j < (kidsD d).length
        · obtain ⟨y, hy⟩ : ∃ y, (kidsD d)[j]? = some y := ⟨_, List.getElem?_eq_getElem hj⟩
          have hyb : (kidsD d)[((j : Nat) : Int).toNat]! = y := by rw [Int.toNat_natCast, List.getElem!_eq_getElem?_getD, hy]; rfl
          have hdj : (kidsD d).drop j = y :: (kidsD d).drop (j + 1) := by rw [List.drop_eq_getElem_cons hj]; congr 1; exact Option.some.inj ((List.getElem?_eq_getElem hj).symm.trans hy)
          rw [hdj, goS] at i2
          obtain ⟨q1, q2⟩ := hks y (List.mem_of_getElem? hy)
          obtain ⟨k, rfl⟩ := Int.eq_ofNat_of_zero_le q1
          have hL2 : Leq ro' ro2 := ⟨hl2.1⟩
          repeat (first | exact endA | refine wkP ?_ | refine opB (fun b => ?_) | refine opA (fun a' c' hc1 hc2 => ?_) | (apply GJ.and; exact rfl; intro hg) | (apply GJ.or; exact rfl; intro hg))
          rw [hyb]
          have hRD : Rds ro2 (.sl a1 (kidsD d).length c1 3 1 (kidsV (kidsD d)) :: .blk bN 41 (nodeV d x) :: .blk bF 30 [.int .i64 0, .int .i64 0] :: (G ++ .blk p 93 (specV s a ++ [.map (some bm)]) :: .obj bm (mapG str (Value.int .i64) M cM) :: R)) na ns.length nc 1 (ns.map str) := hns.up
          refine ih k (by omega) (by omega) ns na nc ro2 (.sl a1 (kidsD d).length c1 3 1 (kidsV (kidsD d)) :: .blk bN 41 (nodeV d x) :: .blk bF 30 [.int .i64 0, .int .i64 0] :: G) _ (hle.trans hl2) hRD (by omega) (fun ro3 hl3 => ?_)
          have hk4 := hk ro3 (hl2.trans hl3)
          rw [i2] at hk4
          dsimp only [List.cons_append, flV] at hk4 ⊢
          generalize kindS s kn n (k : Int) ns = z at *
          obtain ⟨z1, z2⟩ := z
          dsimp only at hk4 i2 ⊢
          repeat (first | exact endA | refine wkP ?_ | refine opB (fun b => ?_) | refine opA (fun a' c' hc1 hc2 => ?_) | (apply GJ.and; exact rfl; intro hg) | (apply GJ.or; exact rfl; intro hg))
          by_cases hz : z1 ≠ 0
          · rw [if_pos hz] at hk4
            refine Br.t hz ?_
            repeat (first | exact endA | refine wkP ?_ | refine opB (fun b => ?_) | refine opA (fun a' c' hc1 hc2 => ?_) | (apply GJ.and; exact rfl; intro hg) | (apply GJ.or; exact rfl; intro hg))
            exact Wk.outS Sup.auto (.refl _) hk4
          · rw [if_neg hz] at i2
            have hL3 : Leq ro2 ro3 := ⟨hl3.1⟩
            refine Br.f hz ?_
            repeat (first | exact endA | refine wkP ?_ | refine opB (fun b => ?_) | refine opA (fun a' c' hc1 hc2 => ?_) | (apply GJ.and; exact rfl; intro hg) | (apply GJ.or; exact rfl; intro hg))
            refine Wk.id ⟨j + 1, ?_, ?_, Sub.auto, Sup.auto⟩
            all_goals try dsimp only
            · exact ⟨by omega, i2⟩
            · omega
        · rw [List.drop_eq_nil_of_le (by omega), goS] at i2
          have hk2 := hk ro2 hl2
          rw [i2] at hk2
          dsimp only [flV] at hk2
          repeat (first | exact endA | refine wkP ?_ | refine opB (fun b => ?_) | refine opA (fun a' c' hc1 hc2 => ?_) | (apply GJ.and; exact rfl; intro hg) | (apply GJ.or; exact rfl; intro hg))
          exact Wk.outS Sup.auto (.refl _) hk2
      · rw [if_pos ⟨h13, hin2⟩] at hk
        have hk2 := hk ro' (Le.refl _)
        dsimp only [flV] at hk2
        rw [decide_eq_false hin2]
        repeat (first | exact endA | refine wkP ?_ | refine opB (fun b => ?_) | refine opA (fun a' c' hc1 hc2 => ?_) | (apply GJ.and; exact rfl; intro hg) | (apply GJ.or; exact rfl; intro hg))
        exact Wk.outS Sup.auto (.refl _) hk2
    · rw [if_neg (fun h => h13 h.1)] at hk
      repeat (first | exact endA | refine wkP ?_ | refine opB (fun b => ?_) | refine opA (fun a' c' hc1 hc2 => ?_) | (apply GJ.and; exact rfl; intro hg) | (apply GJ.or; exact rfl; intro hg))
      by_cases h5 : d.kind = 5
      · rw [if_pos h5] at hk
        refine Br.t h5 ?_
        repeat (first | exact endA | refine wkP ?_ | refine opB (fun b => ?_) | refine opA (fun a' c' hc1 hc2 => ?_) | (apply GJ.and; exact rfl; intro hg) | (apply GJ.or; exact rfl; intro hg))
        rename_i bF
        obtain ⟨bN, hbN⟩ : ∃ z : Nat, z = b := ⟨_, rfl⟩
        subst hbN
        have hRD : Rds ro' (.blk bN 41 (nodeV d x) :: .blk bF 30 [.int .i64 0, .int .i64 0] :: (G ++ .blk p 93 (specV s a ++ [.map (some bm)]) :: .obj bm (mapG str (Value.int .i64) M cM) :: R)) na ns.length nc 1 (ns.map str) := hns.up
        refine lrecord_ok ho hv hM hT ih hin hd h5 (G := .blk bN 41 (nodeV d x) :: .blk bF 30 [.int .i64 0, .int .i64 0] :: G) hle hRD hb (fun ro2 hl2 => ?_)
        have hk2 := hk ro2 hl2
        dsimp only [List.cons_append, flV] at hk2 ⊢
        generalize recS (kindS s kn n) (i : Int) d.fields ns = z at *
        obtain ⟨z1, z2⟩ := z
        dsimp only at hk2 ⊢
        repeat (first | exact endA | refine wkP ?_ | refine opB (fun b => ?_) | refine opA (fun a' c' hc1 hc2 => ?_) | (apply GJ.and; exact rfl; intro hg) | (apply GJ.or; exact rfl; intro hg))
        exact Wk.outS Sup.auto (.refl _) hk2
      · rw [if_neg h5] at hk
        refine Br.f h5 ?_
        repeat (first | exact endA | refine wkP ?_ | refine opB (fun b => ?_) | refine opA (fun a' c' hc1 hc2 => ?_) | (apply GJ.and; exact rfl; intro hg) | (apply GJ.or; exact rfl; intro hg))
        rename_i bF
        obtain ⟨bN, hbN⟩ : ∃ z : Nat, z = b := ⟨_, rfl⟩
        subst hbN
        refine kids_ok hn1 (by omega) (fun a1 n1 c1 h1 h2 h3 => ?_)
        subst h1
        have hkl : (kidsD d).length ≤ 1000 := by unfold kidsD; split <;> simp <;> omega
        repeat (first | exact endA | refine wkP ?_ | refine opB (fun b => ?_) | refine opA (fun a' c' hc1 hc2 => ?_) | (apply GJ.and; exact rfl; intro hg) | (apply GJ.or; exact rfl; intro hg))
        refine LoopOk.auto (ι := Nat) Keep.auto (fun j => [(48, .int .i64 (j : Int))]) (fun j => .sl a1 (kidsD d).length c1 3 1 (kidsV (kidsD d)) :: .blk bN 41 (nodeV d x) :: .blk bF 30 [.int .i64 0, .int .i64 0] :: (G ++ .blk p 93 (specV s a ++ [.map (some bm)]) :: .obj bm (mapG str (Value.int .i64) M cM) :: R)) (fun j r' => j ≤ (kidsD d).length ∧ goS (fun k => kindS s kn n k ns) (kidsD d) = goS (fun k => kindS s kn n k ns) ((kidsD d).drop j)) (fun j => (kidsD d).length - j) 0 ?_ Sub.auto Sup.auto ?_
        · exact ⟨Nat.zero_le _, rfl⟩
        rintro j ro2 hl2 ⟨i1, i2⟩
        dsimp only [List.cons_append, List.nil_append] at i1 i2 ⊢
        by_cases hj : j < (kidsD d).length
        · obtain ⟨y, hy⟩ : ∃ y, (kidsD d)[j]? = some y := ⟨_, List.getElem?_eq_getElem hj⟩
          have hyb : (kidsD d)[((j : Nat) : Int).toNat]! = y := by rw [Int.toNat_natCast, List.getElem!_eq_getElem?_getD, hy]; rfl
          have hdj : (kidsD d).drop j = y :: (kidsD d).drop (j + 1) := by rw [List.drop_eq_getElem_cons hj]; congr 1; exact Option.some.inj ((List.getElem?_eq_getElem hj).symm.trans hy)
          rw [hdj, goS] at i2
          obtain ⟨q1, q2⟩ := hks y (List.mem_of_getElem? hy)
          obtain ⟨k, rfl⟩ := Int.eq_ofNat_of_zero_le q1
          have hL2 : Leq ro' ro2 := ⟨hl2.1⟩
          repeat (first | exact endA | refine wkP ?_ | refine opB (fun b => ?_) | refine opA (fun a' c' hc1 hc2 => ?_) | (apply GJ.and; exact rfl; intro hg) | (apply GJ.or; exact rfl; intro hg))
          rw [hyb]
          have hRD : Rds ro2 (.sl a1 (kidsD d).length c1 3 1 (kidsV (kidsD d)) :: .blk bN 41 (nodeV d x) :: .blk bF 30 [.int .i64 0, .int .i64 0] :: (G ++ .blk p 93 (specV s a ++ [.map (some bm)]) :: .obj bm (mapG str (Value.int .i64) M cM) :: R)) na ns.length nc 1 (ns.map str) := hns.up
          refine ih k (by omega) (by omega) ns na nc ro2 (.sl a1 (kidsD d).length c1 3 1 (kidsV (kidsD d)) :: .blk bN 41 (nodeV d x) :: .blk bF 30 [.int .i64 0, .int .i64 0] :: G) _ (hle.trans hl2) hRD (by omega) (fun ro3 hl3 => ?_)
          have hk4 := hk ro3 (hl2.trans hl3)
          rw [i2] at hk4
          dsimp only [List.cons_append, flV] at hk4 ⊢
          generalize kindS s kn n (k : Int) ns = z at *
          obtain ⟨z1, z2⟩ := z
          dsimp only at hk4 i2 ⊢
          repeat (first | exact endA | refine wkP ?_ | refine opB (fun b => ?_) | refine opA (fun a' c' hc1 hc2 => ?_) | (apply GJ.and; exact rfl; intro hg) | (apply GJ.or; exact rfl; intro hg))
          by_cases hz : z1 ≠ 0
          · rw [if_pos hz] at hk4
            refine Br.t hz ?_
            repeat (first | exact endA | refine wkP ?_ | refine opB (fun b => ?_) | refine opA (fun a' c' hc1 hc2 => ?_) | (apply GJ.and; exact rfl; intro hg) | (apply GJ.or; exact rfl; intro hg))
            exact Wk.outS Sup.auto (.refl _) hk4
          · rw [if_neg hz] at i2
            have hL3 : Leq ro2 ro3 := ⟨hl3.1⟩
            refine Br.f hz ?_
            repeat (first | exact endA | refine wkP ?_ | refine opB (fun b => ?_) | refine opA (fun a' c' hc1 hc2 => ?_) | (apply GJ.and; exact rfl; intro hg) | (apply GJ.or; exact rfl; intro hg))
            refine Wk.id ⟨j + 1, ?_, ?_, Sub.auto, Sup.auto⟩
            all_goals try dsimp only
            · exact ⟨by omega, i2⟩
            · omega
        · rw [List.drop_eq_nil_of_le (by omega), goS] at i2
          have hk2 := hk ro2 hl2
          rw [i2] at hk2
          dsimp only [flV] at hk2
          repeat (first | exact endA | refine wkP ?_ | refine opB (fun b => ?_) | refine opA (fun a' c' hc1 hc2 => ?_) | (apply GJ.and; exact rfl; intro hg) | (apply GJ.or; exact rfl; intro hg))
          exact Wk.outS Sup.auto (.refl _) hk2
end
end Go.Proofs.YtefipginoakecaaGreatDoor
end
section
/- Contracts of scope: Target, Deep. -/
namespace Go.Proofs.YtefipginoakecaaGreatDoor
open Go Go.E
set_option linter.unusedVariables false
set_option linter.unusedSectionVars false
set_option linter.unusedSimpArgs false
set_option maxRecDepth 10000
theorem SpecOk.lift {ro ro' : Ro} {s : SpecD} {a : SpecA} (h : SpecOk ro s a) (hl : Le ro ro') : SpecOk ro' s a := ⟨h.len, h.nodes.up, fun i d x g1 g2 => (h.each i d x g1 g2).le hl, h.defs.up⟩
structure MemoOk (s : SpecD) (D : List Int) : Prop where
  len : D.length = s.nodes.length
  is : ∀ (i : Nat) (v : Int), D[i]? = some v → v = -1 ∨ v = depI s i
theorem MemoOk.set {s : SpecD} {D : List Int} (h : MemoOk s D) (i : Nat) {v : Int} (hv : v = depI s i) : MemoOk s (D.set i v) := by
  refine ⟨by rw [List.length_set]; exact h.len, fun j w hw => ?_⟩
  rw [List.getElem?_set] at hw
  split at hw
  · rename_i e
    subst e
    split at hw
    · cases hw; exact .inr hv
    · cases hw
  · exact h.is j w hw
theorem maxL_snoc (x : Int) : ∀ l : List Int, maxL (l ++ [x]) = max (maxL l) (max x 0)
  | [] => by simp [maxL]; omega
  | k :: l => by rw [List.cons_append, maxL, maxL_snoc x l, maxL]; omega
theorem fuel_le {s : SpecD} (hc : checkD s = 0) : fuelS s ≤ 133185 := by
  obtain ⟨_, _, _, _, h1, h2, _, _⟩ := checkD_ok hc
  unfold fuelS
  exact Nat.mul_le_mul (show s.defs.length + 1 ≤ 65 by omega) (show s.nodes.length + 1 ≤ 2049 by omega)
theorem depI_le {s : SpecD} (hc : checkD s = 0) (a : Int) : 0 ≤ depI s a ∧ depI s a ≤ 266370 := by
  have h1 := dep_nonneg s (fuelS s) a
  have h2 := fuel_le hc
  unfold depI
  omega
theorem kidsV_len (l : List Int) : (kidsV l).length = l.length := List.length_map ..
theorem kidsV_put (l : List Int) (i : Nat) (v : Int) : (kidsV l).set i (.int .i64 v) = kidsV (l.set i v) := by unfold kidsV; rw [List.map_set]
section
variable {ro : Ro} {own : Chs} {K : Value → Ro → Chs → Prop} {s : SpecD} {a : SpecA} {rk : Nat → Nat}
set_option maxHeartbeats 4000000 in
theorem target_ok (ho : SpecOk ro s a) (R : RkOk s rk) {i : Nat} (hi : i < s.nodes.length) (hk : K (.int .i64 (tgtS s (fuelS s) (i : Int))) ro own) : CallOk Tryz.prog 16 #[.agg (specV s a).toArray, .int .i64 (i : Int)] ro own K := by
  have hr1 := ho.nodes
  have hm := hr1.max
  have hle := hr1.le
  unfold maxLen at hm
  refine CallOk.intro (args := [_, _]) (rs := [_]) T_ok Tryz.func16 Tryz.call16 rfl rfl (by kernel_rfl) rfl rfl ?_
  repeat (first | exact endA | refine wkP ?_ | refine opB (fun b => ?_) | refine opA (fun a' c' hc1 hc2 => ?_) | (apply GJ.and; exact rfl; intro hg) | (apply GJ.or; exact rfl; intro hg))
  refine LoopOk.at (ι := Nat × Nat) Keep.auto (fun (y, f) => [(1, .int .i64 (y : Int))]) (fun (y, f) => .blk b 25 (specV s a) :: own) (fun (y, f) => y < s.nodes.length ∧ rk y < f ∧ tgtS s f (y : Int) = tgtS s (fuelS s) (i : Int)) (fun (y, f) => rk y) (i, fuelS s) ?_ Sub.auto Sup.auto ?_
  · exact ⟨hi, R.lt i, rfl⟩
  rintro ⟨y, f⟩ ⟨i1, i2, i3⟩
  dsimp only [List.cons_append, List.nil_append] at i1 i2 i3 ⊢
  obtain ⟨d, hd⟩ : ∃ d, s.nodes[y]? = some d := ⟨_, List.getElem?_eq_getElem i1⟩
  obtain ⟨x, hx⟩ : ∃ x, a.xs[y]? = some x := ⟨_, List.getElem?_eq_getElem (by rw [ho.len]; exact i1)⟩
  obtain ⟨f, rfl⟩ : ∃ g, f = g + 1 := ⟨f - 1, by omega⟩
  rw [tgtS, Int.toNat_natCast, hd] at i3
  dsimp only at i3
  have hg0 : (nodesV s.nodes a.xs)[y * 18 + 0]? = some (.int .i64 d.kind) := by rw [node_get hd hx (by decide)]; rfl
  have hg7 : (nodesV s.nodes a.xs)[y * 18 + 7]? = some (str d.text) := by rw [node_get hd hx (by decide)]; rfl
  repeat (first | exact endA | refine wkP ?_ | refine opB (fun b => ?_) | refine opA (fun a' c' hc1 hc2 => ?_) | (apply GJ.and; exact rfl; intro hg) | (apply GJ.or; exact rfl; intro hg))
  rw [Int.toNat_natCast, Nat.add_assoc]
  refine OpOk.load rfl rfl (Ld.rs hr1 hg0) ?_
  by_cases hk13 : d.kind = 13
  · rw [if_pos ⟨by omega, hk13⟩] at i3
    obtain ⟨u1, u2, u3⟩ := R.use y d hd hk13
    obtain ⟨u, hu⟩ := Int.eq_ofNat_of_zero_le u1
    rw [hu] at u2 u3 i3
    rw [Int.toNat_natCast] at u3
    repeat (first | exact endA | refine wkP ?_ | refine opB (fun b => ?_) | refine opA (fun a' c' hc1 hc2 => ?_) | (apply GJ.and; exact rfl; intro hg) | (apply GJ.or; exact rfl; intro hg))
    rw [Int.toNat_natCast, Nat.add_assoc]
    refine QOk.load rfl rfl (Ld.rs hr1 hg7) ?_
    repeat (first | exact endA | refine wkP ?_ | refine opB (fun b => ?_) | refine opA (fun a' c' hc1 hc2 => ?_) | (apply GJ.and; exact rfl; intro hg) | (apply GJ.or; exact rfl; intro hg))
    refine def_ok ho ?_
    rw [hu]
    repeat (first | exact endA | refine wkP ?_ | refine opB (fun b => ?_) | refine opA (fun a' c' hc1 hc2 => ?_) | (apply GJ.and; exact rfl; intro hg) | (apply GJ.or; exact rfl; intro hg))
    refine Wk.id ⟨(u, f), ⟨rfl, ?_⟩, ?_, Sub.auto, Sup.auto⟩
    all_goals try dsimp only
    · exact ⟨by omega, by omega, i3⟩
    · omega
  · rw [if_neg (fun h => hk13 h.2)] at i3
    rw [← i3] at hk
    repeat (first | exact endA | refine wkP ?_ | refine opB (fun b => ?_) | refine opA (fun a' c' hc1 hc2 => ?_) | (apply GJ.and; exact rfl; intro hg) | (apply GJ.or; exact rfl; intro hg))
    exact Wk.outS Sup.auto (.refl _) hk
theorem target_neg (hk : K (.int .i64 (-1)) ro own) : CallOk Tryz.prog 16 #[.agg (specV s a).toArray, .int .i64 (-1)] ro own K := by
  refine CallOk.intro (args := [_, _]) (rs := [_]) T_ok Tryz.func16 Tryz.call16 rfl rfl (by kernel_rfl) rfl rfl ?_
  repeat (first | exact endA | refine wkP ?_ | refine opB (fun b => ?_) | refine opA (fun a' c' hc1 hc2 => ?_) | (apply GJ.and; exact rfl; intro hg) | (apply GJ.or; exact rfl; intro hg))
  refine LoopOk.at (ι := Nat) Keep.auto (fun y => [(1, .int .i64 (-1))]) (fun y => .blk b 25 (specV s a) :: own) (fun y => True) (fun y => 0) 0 ?_ Sub.auto Sup.auto ?_
  · trivial
  rintro y i1
  dsimp only [List.cons_append, List.nil_append]
  repeat (first | exact endA | refine wkP ?_ | refine opB (fun b => ?_) | refine opA (fun a' c' hc1 hc2 => ?_) | (apply GJ.and; exact rfl; intro hg) | (apply GJ.or; exact rfl; intro hg))
  exact Wk.outS Sup.auto (.refl _) hk
set_option maxHeartbeats 4000000 in
theorem deepOf_ok (ho : SpecOk ro s a) (hc : checkD s = 0) (RK : RkOk s rk) {R : Chs} {da : Option Addr} {dc : Nat} (hdc : s.nodes.length ≤ dc ∧ dc ≤ maxLen) : ∀ (r i : Nat), rk i < r → i < s.nodes.length → ∀ (D : List Int) (ro' : Ro) (G : Chs) (K : Value → Ro → Chs → Prop), Le ro ro' → MemoOk s D →
    (∀ D', MemoOk s D' → K (.int .i64 (depI s (i : Int))) ro' (G ++ .sl da s.nodes.length dc 3 1 (kidsV D') :: R)) →
    CallOk Tryz.prog 58 #[.agg (specV s a).toArray, .int .i64 (i : Int), .slice da s.nodes.length dc] ro' (G ++ .sl da s.nodes.length dc 3 1 (kidsV D) :: R) K := by
  intro r
  induction r with
  | zero => intro i h; omega
  | succ r ih =>
    intro i hri hi D ro' G K hle hD hk
    have hL : Leq ro ro' := ⟨hle.1⟩
    have ho' := ho.lift hle
    have hr1 := ho'.nodes
    have hm := hr1.max
    have hnc := hr1.le
    unfold maxLen at hm
    obtain ⟨d, hd⟩ : ∃ d, s.nodes[i]? = some d := ⟨_, List.getElem?_eq_getElem hi⟩
    obtain ⟨x, hx⟩ : ∃ x, a.xs[i]? = some x := ⟨_, List.getElem?_eq_getElem (by rw [ho.len]; exact hi)⟩
    have hn1 := ho'.each i d x hd hx
    have hdr1 := nodesV_drop _ _ _ _ _ hd hx
    obtain ⟨hf, hks⟩ := Ahead.of hc i d hd
    have hsm := form_small hf
    have hdl := hD.len
    have hkl := kidsV_len D
    obtain ⟨d1, d2⟩ := hdc
    have d3 := d2
    unfold maxLen at d3
    have hdep := depI_le hc (i : Int)
    have heq := dep_eq RK hd
    obtain ⟨v, hv⟩ : ∃ v, D[i]? = some v := ⟨_, List.getElem?_eq_getElem (by omega)⟩
    have hvb : D[((i : Nat) : Int).toNat]! = v := by rw [Int.toNat_natCast, List.getElem!_eq_getElem?_getD, hv]; rfl
    have hpos := dep_pos RK (rk i + 1) i (by omega) hi
    refine CallOk.intro (args := [_, _, _]) (rs := [_]) T_ok Tryz.func58 Tryz.call58 rfl rfl (by kernel_rfl) rfl rfl ?_
    repeat (first | exact endA | refine wkP ?_ | refine opB (fun b => ?_) | refine opA (fun a' c' hc1 hc2 => ?_) | (apply GJ.and; exact rfl; intro hg) | (apply GJ.or; exact rfl; intro hg))
    rw [hvb]
    by_cases hv0 : 0 ≤ v
    · have hve : v = depI s (i : Int) := (hD.is i v hv).resolve_left (fun h => by omega)
      have hk2 := hk D hD
      refine Br.t hv0 ?_
      repeat (first | exact endA | refine wkP ?_ | refine opB (fun b => ?_) | refine opA (fun a' c' hc1 hc2 => ?_) | (apply GJ.and; exact rfl; intro hg) | (apply GJ.or; exact rfl; intro hg))
      rw [hvb, hve]
      repeat (first | exact endA | refine wkP ?_ | refine opB (fun b => ?_) | refine opA (fun a' c' hc1 hc2 => ?_) | (apply GJ.and; exact rfl; intro hg) | (apply GJ.or; exact rfl; intro hg))
      exact Wk.outS Sup.auto (.refl _) hk2
    refine Br.f hv0 ?_
    clear hvb hv hv0
    repeat (first | exact endA | refine wkP ?_ | refine opB (fun b => ?_) | refine opA (fun a' c' hc1 hc2 => ?_) | (apply GJ.and; exact rfl; intro hg) | (apply GJ.or; exact rfl; intro hg))
    rw [Int.toNat_natCast]
    refine OpOk.loadRow rfl rfl (LdN.at hr1 hdr1) rfl ?_
    by_cases hk13 : d.kind = 13
    · rw [if_pos hk13] at heq
      obtain ⟨u1, u2, u3⟩ := RK.use i d hd hk13
      obtain ⟨u, hu⟩ := Int.eq_ofNat_of_zero_le u1
      rw [hu] at u2 u3 heq
      rw [Int.toNat_natCast] at u3
      repeat (first | exact endA | refine wkG ?_ | refine opB (fun b => ?_) | refine opA (fun a' c' hc1 hc2 => ?_) | (show GJ _ _ _ _ _ _ _; first | (apply GJ.and; exact rfl; intro hg) | (apply GJ.or; exact rfl; intro hg) | refine GJ.t omAuto ?_ | refine GJ.f omAuto ?_ | refine GJ.ft omAuto ?_ | refine GJ.ff omAuto ?_))
      rename_i bS
      obtain ⟨bN, hbN⟩ : ∃ z : Nat, z = b := ⟨_, rfl⟩
      subst hbN
      refine Bs.mk ⟨[.blk bN 41 (nodeV d x), .blk bS 25 (specV s a)], Sup.auto, ?_⟩
      repeat (first | exact endA | refine wkU ?_ | (show QOk _ _ _ _ _ _ _; refine QOk.build rfl rfl Nf.auto ?_) | (show GJ _ _ _ _ _ _ _; first | with_reducible refine GJ.neF ?_ | with_reducible refine GJ.neT ?_) | (show Br _ _ _; with_reducible refine Br.ne ?_) | refine opB (fun b => ?_) | refine opA (fun a' c' hc1 hc2 => ?_) | (apply GJ.and; exact rfl; intro hg) | (apply GJ.or; exact rfl; intro hg))
      refine def_ok ho' ?_
      rw [hu]
      repeat (first | exact endA | refine wkU ?_ | (show QOk _ _ _ _ _ _ _; refine QOk.build rfl rfl Nf.auto ?_) | (show GJ _ _ _ _ _ _ _; first | with_reducible refine GJ.neF ?_ | with_reducible refine GJ.neT ?_) | (show Br _ _ _; with_reducible refine Br.ne ?_) | refine opB (fun b => ?_) | refine opA (fun a' c' hc1 hc2 => ?_) | (apply GJ.and; exact rfl; intro hg) | (apply GJ.or; exact rfl; intro hg))
      refine ih u (by omega) (by omega) D ro' (.blk bN 41 (nodeV d x) :: .blk bS 25 (specV s a) :: G) _ hle hD (fun D2 hD2 => ?_)
      dsimp only [List.cons_append]
      have hdl2 := hD2.len
      have hkl2 := kidsV_len D2
      have hil : i < (kidsV D2).length := by omega
      refine Stop.mk (Bk.all Sup.auto ?_)
      repeat (first | exact endA | refine wkU ?_ | (show QOk _ _ _ _ _ _ _; refine QOk.build rfl rfl Nf.auto ?_) | (show GJ _ _ _ _ _ _ _; first | with_reducible refine GJ.neF ?_ | with_reducible refine GJ.neT ?_) | (show Br _ _ _; with_reducible refine Br.ne ?_) | refine opB (fun b => ?_) | refine opA (fun a' c' hc1 hc2 => ?_) | (apply GJ.and; exact rfl; intro hg) | (apply GJ.or; exact rfl; intro hg))
      rw [Int.toNat_natCast]
      refine OpOk.storeSl rfl rfl rfl rfl (by omega) ?_
      rw [kidsV_put]
      have hS := hD2.set i heq.symm
      have hk2 := hk _ hS
      have hsl := hS.len
      have hgb : (D2.set i (depI s (u : Int)))[((i : Nat) : Int).toNat]! = depI s (i : Int) := by
        rw [Int.toNat_natCast, List.getElem!_eq_getElem?_getD, List.getElem?_set_self (by omega), heq]; rfl
      have hkl3 := kidsV_len (D2.set i (depI s (u : Int)))
      generalize D2.set i (depI s (u : Int)) = D3 at *
      repeat (first | exact endA | refine wkU ?_ | (show QOk _ _ _ _ _ _ _; refine QOk.build rfl rfl Nf.auto ?_) | (show GJ _ _ _ _ _ _ _; first | with_reducible refine GJ.neF ?_ | with_reducible refine GJ.neT ?_) | (show Br _ _ _; with_reducible refine Br.ne ?_) | refine opB (fun b => ?_) | refine opA (fun a' c' hc1 hc2 => ?_) | (apply GJ.and; exact rfl; intro hg) | (apply GJ.or; exact rfl; intro hg))
      rw [hgb]
      repeat (first | exact endA | refine wkU ?_ | (show QOk _ _ _ _ _ _ _; refine QOk.build rfl rfl Nf.auto ?_) | (show GJ _ _ _ _ _ _ _; first | with_reducible refine GJ.neF ?_ | with_reducible refine GJ.neT ?_) | (show Br _ _ _; with_reducible refine Br.ne ?_) | refine opB (fun b => ?_) | refine opA (fun a' c' hc1 hc2 => ?_) | (apply GJ.and; exact rfl; intro hg) | (apply GJ.or; exact rfl; intro hg))
      exact Wk.outS Sup.auto (.refl _) hk2
    · rw [if_neg hk13] at heq
      repeat (first | exact endA | refine wkP ?_ | refine opB (fun b => ?_) | refine opA (fun a' c' hc1 hc2 => ?_) | (apply GJ.and; exact rfl; intro hg) | (apply GJ.or; exact rfl; intro hg))
      refine kids_ok hn1 (by omega) (fun a1 n1 c1 h1 h2 h3 => ?_)
      subst h1
      have hkl : (kidsD d).length ≤ 1000 := by unfold kidsD; split <;> simp <;> omega
      rename_i bS
      obtain ⟨bN, hbN⟩ : ∃ z : Nat, z = b := ⟨_, rfl⟩
      subst hbN
      repeat (first | exact endA | refine wkP ?_ | refine opB (fun b => ?_) | refine opA (fun a' c' hc1 hc2 => ?_) | (apply GJ.and; exact rfl; intro hg) | (apply GJ.or; exact rfl; intro hg))
      refine LoopOk.at (ι := Nat × List Int × Int) Keep.auto (fun (j, D, z) => [(47, .int .i64 (j : Int)), (8, .int .i64 z)]) (fun (j, D, z) => .sl a1 (kidsD d).length c1 3 1 (kidsV (kidsD d)) :: .blk bN 41 (nodeV d x) :: .blk bS 25 (specV s a) :: (G ++ .sl da s.nodes.length dc 3 1 (kidsV D) :: R)) (fun (j, D, z) => j ≤ (kidsD d).length ∧ MemoOk s D ∧ z = maxL (((kidsD d).take j).map (depI s)) ∧ 0 ≤ z ∧ z ≤ 266370) (fun (j, D, z) => (kidsD d).length - j) (0, D, 0) ?_ Sub.auto Sup.auto ?_
      · exact ⟨Nat.zero_le _, hD, rfl, by omega, by omega⟩
      clear hD hdl
      rintro ⟨j, D, z⟩ ⟨i1, hD, i3, i4, i5⟩
      dsimp only [List.cons_append, List.nil_append] at i1 hD i3 i4 i5 ⊢
      have hdl := hD.len
      have hkl2 := kidsV_len D
      by_cases hj : j < (kidsD d).length
      · obtain ⟨y, hy⟩ : ∃ y, (kidsD d)[j]? = some y := ⟨_, List.getElem?_eq_getElem hj⟩
        have hyb : (kidsD d)[((j : Nat) : Int).toNat]! = y := by rw [Int.toNat_natCast, List.getElem!_eq_getElem?_getD, hy]; rfl
        have htk : ((kidsD d).take (j + 1)).map (depI s) = ((kidsD d).take j).map (depI s) ++ [depI s y] := by rw [List.take_add_one, hy, List.map_append]; rfl
        obtain ⟨q1, q2, q3⟩ := RK.kids i d hd y (List.mem_of_getElem? hy)
        obtain ⟨k, rfl⟩ := Int.eq_ofNat_of_zero_le q1
        rw [Int.toNat_natCast] at q3
        have hdk := depI_le hc (k : Int)
        repeat (first | exact endA | refine wkP ?_ | refine opB (fun b => ?_) | refine opA (fun a' c' hc1 hc2 => ?_) | (apply GJ.and; exact rfl; intro hg) | (apply GJ.or; exact rfl; intro hg))
        rw [hyb]
        refine ih k (by omega) (by omega) D ro' (.sl a1 (kidsD d).length c1 3 1 (kidsV (kidsD d)) :: .blk bN 41 (nodeV d x) :: .blk bS 25 (specV s a) :: G) _ hle hD (fun D2 hD2 => ?_)
        dsimp only [List.cons_append]
        repeat (first | exact endA | refine wkP ?_ | refine opB (fun b => ?_) | refine opA (fun a' c' hc1 hc2 => ?_) | (apply GJ.and; exact rfl; intro hg) | (apply GJ.or; exact rfl; intro hg))
        refine Wk.id ⟨(j + 1, D2, max z (depI s (k : Int))), ⟨rfl, ?_⟩, ?_, Sub.auto, Sup.auto⟩
        all_goals try dsimp only
        · exact ⟨by omega, hD2, by rw [htk, maxL_snoc, ← i3]; omega, by omega, by omega⟩
        · omega
      · obtain rfl : j = (kidsD d).length := by omega
        rw [List.take_length] at i3
        rw [← i3] at heq
        have hil : i < (kidsV D).length := by omega
        repeat (first | exact endA | refine wkP ?_ | refine opB (fun b => ?_) | refine opA (fun a' c' hc1 hc2 => ?_) | (apply GJ.and; exact rfl; intro hg) | (apply GJ.or; exact rfl; intro hg))
        rw [Int.toNat_natCast]
        refine OpOk.storeSl rfl rfl rfl rfl (by omega) ?_
        rw [kidsV_put]
        have hgb1 : (D.set i (z + 1))[((i : Nat) : Int).toNat]! = z + 1 := by
          rw [Int.toNat_natCast, List.getElem!_eq_getElem?_getD, List.getElem?_set_self (by omega)]; rfl
        have hsl1 : (D.set i (z + 1)).length = s.nodes.length := by rw [List.length_set]; exact hdl
        have hkl3 := kidsV_len (D.set i (z + 1))
        by_cases h11 : d.kind = 11
        · rw [if_pos h11] at heq
          repeat (first | exact endA | refine wkP ?_ | refine opB (fun b => ?_) | refine opA (fun a' c' hc1 hc2 => ?_) | (apply GJ.and; exact rfl; intro hg) | (apply GJ.or; exact rfl; intro hg))
          rw [hgb1, Int.toNat_natCast]
          refine OpOk.storeSl rfl rfl rfl rfl (by omega) ?_
          rw [kidsV_put, List.set_set, show z + 1 + 1 = z + 2 by omega]
          have hS := hD.set i heq.symm
          have hk2 := hk _ hS
          have hsl := hS.len
          have hgb : (D.set i (z + 2))[((i : Nat) : Int).toNat]! = depI s (i : Int) := by
            rw [Int.toNat_natCast, List.getElem!_eq_getElem?_getD, List.getElem?_set_self (by omega), heq]; rfl
          have hkl4 := kidsV_len (D.set i (z + 2))
          clear hgb1 hsl1 hkl3
          generalize D.set i (z + 2) = D3 at *
          repeat (first | exact endA | refine wkP ?_ | refine opB (fun b => ?_) | refine opA (fun a' c' hc1 hc2 => ?_) | (apply GJ.and; exact rfl; intro hg) | (apply GJ.or; exact rfl; intro hg))
          rw [hgb]
          repeat (first | exact endA | refine wkP ?_ | refine opB (fun b => ?_) | refine opA (fun a' c' hc1 hc2 => ?_) | (apply GJ.and; exact rfl; intro hg) | (apply GJ.or; exact rfl; intro hg))
          exact Wk.outS Sup.auto (.refl _) hk2
        · rw [if_neg h11] at heq
          have hS := hD.set i heq.symm
          have hk2 := hk _ hS
          have hgb : (D.set i (z + 1))[((i : Nat) : Int).toNat]! = depI s (i : Int) := by rw [hgb1, heq]
          clear hgb1
          generalize D.set i (z + 1) = D3 at *
          repeat (first | exact endA | refine wkP ?_ | refine opB (fun b => ?_) | refine opA (fun a' c' hc1 hc2 => ?_) | (apply GJ.and; exact rfl; intro hg) | (apply GJ.or; exact rfl; intro hg))
          rw [hgb]
          repeat (first | exact endA | refine wkP ?_ | refine opB (fun b => ?_) | refine opA (fun a' c' hc1 hc2 => ?_) | (apply GJ.and; exact rfl; intro hg) | (apply GJ.or; exact rfl; intro hg))
          exact Wk.outS Sup.auto (.refl _) hk2
end
end Go.Proofs.YtefipginoakecaaGreatDoor
end
section
/- Contracts of scope: Deep, Check. -/
namespace Go.Proofs.YtefipginoakecaaGreatDoor
open Go Go.E
set_option linter.unusedVariables false
set_option linter.unusedSectionVars false
set_option linter.unusedSimpArgs false
set_option maxRecDepth 10000
theorem defs_inS {s : SpecD} (h : checkD s = 0) : ∀ d ∈ s.defs, 0 ≤ d.type ∧ d.type < (s.nodes.length : Int) := fun d hd => by
  obtain ⟨o, o', _, h2, _⟩ := checkD_ok h
  exact ownAll_mem h2 d.type (List.mem_map.2 ⟨d, hd, rfl⟩)
theorem root_in {s : SpecD} (h : checkD s = 0) : ∃ r : Nat, rootD s = (r : Int) ∧ r < s.nodes.length := by
  obtain ⟨_, _, _, _, _, _, h5, _⟩ := checkD_ok h
  unfold rootD
  cases hl : s.defs.getLast? with
  | none => exact absurd (List.getLast?_eq_none_iff.1 hl) h5
  | some d =>
    obtain ⟨q1, q2⟩ := defs_inS h d (List.mem_of_getLast? hl)
    obtain ⟨r, hr⟩ := Int.eq_ofNat_of_zero_le q1
    exact ⟨r, hr, by omega⟩
theorem KeysOk.nil : KeysOk [] [] := ⟨MapOk.nil, fun x => by simp [getG]⟩
theorem KeysOk.put {kn : List (List UInt8)} {M : List (List UInt8 × Int × Nat)} (h : KeysOk kn M) {x : List UInt8} (hx : x.length ≤ maxLen) (c : Nat) (v : Int) : KeysOk (kn ++ [x]) (putG M c x v) := by
  refine ⟨h.map.put hx c v, fun y => ?_⟩
  rw [getG_putG]
  by_cases hy : y = x
  · subst hy; simp
  · rw [if_neg hy, h.is]
    simp [hy]
section
variable {ro : Ro} {own : Chs} {K : Value → Ro → Chs → Prop} {s : SpecD} {a : SpecA} {rk : Nat → Nat}
set_option maxHeartbeats 4000000 in
theorem deep_ok (ho : SpecOk ro s a) (hc : checkD s = 0) (RK : RkOk s rk) (hk : K (.int .i64 (depI s (rootD s))) ro own) : CallOk Tryz.prog 17 #[.agg (specV s a).toArray] ro own K := by
  have hr1 := ho.nodes
  have hm := hr1.max
  have hle := hr1.le
  unfold maxLen at hm
  obtain ⟨_, _, _, _, hn, _, _, _⟩ := checkD_ok hc
  obtain ⟨r, hr, hrl⟩ := root_in hc
  rw [hr] at hk
  refine CallOk.intro (args := [_]) (rs := [_]) T_ok Tryz.func17 Tryz.call17 rfl rfl (by kernel_rfl) rfl rfl ?_
  repeat (first | exact endA | refine wkP ?_ | refine opB (fun b => ?_) | refine opA (fun a' c' hc1 hc2 => ?_) | (apply GJ.and; exact rfl; intro hg) | (apply GJ.or; exact rfl; intro hg))
  rw [Int.toNat_natCast]
  rename_i bS
  obtain ⟨bD, hbD⟩ : ∃ z : Nat, z = b := ⟨_, rfl⟩
  subst hbD
  have e0 : List.replicate s.nodes.length (Value.int .i64 0) = kidsV (List.replicate 0 (-1) ++ List.replicate (s.nodes.length - 0) 0) := by simp [kidsV]
  rw [e0]
  refine LoopOk.at (ι := Nat) Keep.auto (fun i => [(12, .int .i64 (i : Int))]) (fun i => .sl (some ⟨bD, 0, none⟩) s.nodes.length s.nodes.length 3 1 (kidsV (List.replicate i (-1) ++ List.replicate (s.nodes.length - i) 0)) :: .blk bS 25 (specV s a) :: own) (fun i => i ≤ s.nodes.length) (fun i => s.nodes.length - i) 0 ?_ Sub.auto Sup.auto ?_
  · exact Nat.zero_le _
  clear e0
  rintro i i1
  dsimp only [List.cons_append, List.nil_append] at i1 ⊢
  have hkl := kidsV_len (List.replicate i (-1) ++ List.replicate (s.nodes.length - i) 0)
  have hll : (List.replicate i (-1 : Int) ++ List.replicate (s.nodes.length - i) 0).length = s.nodes.length := by simp; omega
  rw [hll] at hkl
  by_cases hi : i < s.nodes.length
  · have hst : (List.replicate i (-1 : Int) ++ List.replicate (s.nodes.length - i) 0).set i (-1) = List.replicate (i + 1) (-1) ++ List.replicate (s.nodes.length - (i + 1)) 0 := by
      rw [List.set_append_right _ _ (by simp), List.length_replicate, Nat.sub_self, show s.nodes.length - i = (s.nodes.length - (i + 1)) + 1 by omega, List.replicate_succ, List.set_cons_zero, List.replicate_succ' (n := i), List.append_assoc]
      rfl
    generalize List.replicate i (-1 : Int) ++ List.replicate (s.nodes.length - i) 0 = D at *
    repeat (first | exact endA | refine wkP ?_ | refine opB (fun b => ?_) | refine opA (fun a' c' hc1 hc2 => ?_) | (apply GJ.and; exact rfl; intro hg) | (apply GJ.or; exact rfl; intro hg))
    rw [Int.toNat_natCast]
    refine OpOk.storeSl rfl rfl rfl rfl (by omega) ?_
    rw [kidsV_put, hst]
    repeat (first | exact endA | refine wkP ?_ | refine opB (fun b => ?_) | refine opA (fun a' c' hc1 hc2 => ?_) | (apply GJ.and; exact rfl; intro hg) | (apply GJ.or; exact rfl; intro hg))
    refine Wk.id ⟨i + 1, ⟨rfl, ?_⟩, ?_, Sub.auto, Sup.auto⟩
    all_goals try dsimp only
    · omega
    · omega
  · obtain rfl : i = s.nodes.length := by omega
    have hD : MemoOk s (List.replicate s.nodes.length (-1) ++ List.replicate (s.nodes.length - s.nodes.length) 0) := by
      refine ⟨hll, fun j v hv => .inl ?_⟩
      rw [Nat.sub_self, List.replicate_zero, List.append_nil] at hv
      exact List.eq_of_mem_replicate (List.mem_of_getElem? hv)
    generalize List.replicate s.nodes.length (-1 : Int) ++ List.replicate (s.nodes.length - s.nodes.length) 0 = D at *
    repeat (first | exact endA | refine wkG ?_ | refine opB (fun b => ?_) | refine opA (fun a' c' hc1 hc2 => ?_) | (show GJ _ _ _ _ _ _ _; first | (apply GJ.and; exact rfl; intro hg) | (apply GJ.or; exact rfl; intro hg) | refine GJ.t omAuto ?_ | refine GJ.f omAuto ?_ | refine GJ.ft omAuto ?_ | refine GJ.ff omAuto ?_))
    refine Bs.mk ⟨[.blk bS 25 (specV s a)], Sup.auto, ?_⟩
    repeat (first | exact endA | refine wkU ?_ | (show QOk _ _ _ _ _ _ _; refine QOk.build rfl rfl Nf.auto ?_) | (show GJ _ _ _ _ _ _ _; first | with_reducible refine GJ.neF ?_ | with_reducible refine GJ.neT ?_) | (show Br _ _ _; with_reducible refine Br.ne ?_) | refine opB (fun b => ?_) | refine opA (fun a' c' hc1 hc2 => ?_) | (apply GJ.and; exact rfl; intro hg) | (apply GJ.or; exact rfl; intro hg))
    refine root_ok ho ?_
    rw [hr]
    repeat (first | exact endA | refine wkU ?_ | (show QOk _ _ _ _ _ _ _; refine QOk.build rfl rfl Nf.auto ?_) | (show GJ _ _ _ _ _ _ _; first | with_reducible refine GJ.neF ?_ | with_reducible refine GJ.neT ?_) | (show Br _ _ _; with_reducible refine Br.ne ?_) | refine opB (fun b => ?_) | refine opA (fun a' c' hc1 hc2 => ?_) | (apply GJ.and; exact rfl; intro hg) | (apply GJ.or; exact rfl; intro hg))
    refine deepOf_ok ho hc RK (R := .blk bS 25 (specV s a) :: own) ⟨Nat.le_refl _, by unfold maxLen; omega⟩ (rk r + 1) r (by omega) hrl D ro [] _ (Le.refl _) hD (fun D2 hD2 => ?_)
    dsimp only [List.nil_append]
    repeat (first | exact endA | refine wkU ?_ | (show QOk _ _ _ _ _ _ _; refine QOk.build rfl rfl Nf.auto ?_) | (show GJ _ _ _ _ _ _ _; first | with_reducible refine GJ.neF ?_ | with_reducible refine GJ.neT ?_) | (show Br _ _ _; with_reducible refine Br.ne ?_) | refine opB (fun b => ?_) | refine opA (fun a' c' hc1 hc2 => ?_) | (apply GJ.and; exact rfl; intro hg) | (apply GJ.or; exact rfl; intro hg))
    exact Wk.outS Sup.auto (.refl _) hk
set_option maxHeartbeats 8000000 in
theorem scheck_ok (ho : SpecOk ro s a) (hM : MaxOk ro) (hT : TextIn s) (hk : ∀ ro', Le ro ro' → K (flV (scopeS s)) ro' own) : CallOk Tryz.prog 15 #[.agg (specV s a).toArray] ro own K := by
  have hr2 := ho.defs
  have hm2 := hr2.max
  have hle2 := hr2.le
  unfold maxLen at hm2
  unfold scopeS at hk
  refine CallOk.intro (args := [_]) (rs := [_]) T_ok Tryz.func15 Tryz.call15 rfl rfl (by kernel_rfl) rfl rfl ?_
  repeat (first | exact endA | refine wkP ?_ | refine opB (fun b => ?_) | refine opA (fun a' c' hc1 hc2 => ?_) | (apply GJ.and; exact rfl; intro hg) | (apply GJ.or; exact rfl; intro hg))
  refine check_ok ho ?_
  by_cases hc : checkD s ≠ 0
  · have hk2 := hk ro (Le.refl _)
    rw [if_pos hc] at hk2
    dsimp only [flV] at hk2
    generalize checkD s = z at *
    repeat (first | exact endA | refine wkP ?_ | refine opB (fun b => ?_) | refine opA (fun a' c' hc1 hc2 => ?_) | (apply GJ.and; exact rfl; intro hg) | (apply GJ.or; exact rfl; intro hg))
    exact Wk.outS Sup.auto (.refl _) hk2
  have hc0 : checkD s = 0 := Decidable.of_not_not hc
  rw [if_neg hc] at hk
  obtain ⟨hnn, hnd⟩ : s.nodes.length ≤ 2048 ∧ s.defs.length ≤ 64 := by
    obtain ⟨_, _, _, _, h1, h2, _, _⟩ := checkD_ok hc0
    exact ⟨h1, h2⟩
  have hv := Ahead.of hc0
  have hdi := defs_inS hc0
  rw [hc0]
  have hcl : (Value.agg (specV s a).toArray).cells.toList = specV s a := rfl
  repeat (first | exact endA | refine wkP ?_ | refine opB (fun b => ?_) | refine opA (fun a' c' hc1 hc2 => ?_) | (apply GJ.and; exact rfl; intro hg) | (apply GJ.or; exact rfl; intro hg))
  rw [hcl]
  rename_i bS
  obtain ⟨bF, hbF⟩ : ∃ z : Nat, z = b := ⟨_, rfl⟩
  subst hbF
  refine OpOk.makeMapG (kv := str) (vv := Value.int .i64) (fun bm => ?_)
  repeat (first | exact endA | refine wkP ?_ | refine opB (fun b => ?_) | refine opA (fun a' c' hc1 hc2 => ?_) | (apply GJ.and; exact rfl; intro hg) | (apply GJ.or; exact rfl; intro hg))
  obtain ⟨p, hp⟩ : ∃ z : Nat, z = b := ⟨_, rfl⟩
  subst hp
  refine LoopOk.auto (ι := Nat × List (List UInt8 × Int × Nat) × Nat) Keep.auto (fun (j, M, cM) => [(23, .int .i64 (j : Int))]) (fun (j, M, cM) => .blk p 93 (specV s a ++ [.map (some bm)]) :: .obj bm (mapG str (Value.int .i64) M cM) :: .blk bF 30 [.int .i64 0, .int .i64 0] :: .blk bS 25 (specV s a) :: own) (fun (j, M, cM) r' => j ≤ s.defs.length ∧ KeysOk ((s.defs.take j).map (·.name)) M ∧ defsS s [] s.defs = defsS s ((s.defs.take j).map (·.name)) (s.defs.drop j)) (fun (j, M, cM) => s.defs.length - j) (0, [], 0) ?_ Sub.auto Sup.auto ?_
  · exact ⟨Nat.zero_le _, KeysOk.nil, rfl⟩
  rintro ⟨j, M, cM⟩ ro2 hl2 ⟨i1, i2, i3⟩
  dsimp only [List.cons_append, List.nil_append] at i1 i2 i3 ⊢
  have hL2 : Leq ro ro2 := ⟨hl2.1⟩
  have ho2 := ho.lift hl2
  have hM2 := hM.le hl2
  by_cases hj : j < s.defs.length
  · obtain ⟨d, hd⟩ : ∃ d, s.defs[j]? = some d := ⟨_, List.getElem?_eq_getElem hj⟩
    have hde : s.defs[j] = d := Option.some.inj ((List.getElem?_eq_getElem hj).symm.trans hd)
    have hdd := defsV_drop s.defs hj
    rw [hde] at hdd
    have hdj : s.defs.drop j = d :: s.defs.drop (j + 1) := by rw [List.drop_eq_getElem_cons hj, hde]
    have htk : (s.defs.take (j + 1)).map (·.name) = (s.defs.take j).map (·.name) ++ [d.name] := by rw [List.take_add_one, hd, List.map_append]; rfl
    have hmem := List.mem_of_getElem? hd
    have hdn := hT.defs d hmem
    obtain ⟨q1, q2⟩ := hdi d hmem
    obtain ⟨k, hk0⟩ := Int.eq_ofNat_of_zero_le q1
    rw [hdj, defsS] at i3
    have hr4 := ho2.defs
    repeat (first | exact endA | refine wkP ?_ | refine opB (fun b => ?_) | refine opA (fun a' c' hc1 hc2 => ?_) | (apply GJ.and; exact rfl; intro hg) | (apply GJ.or; exact rfl; intro hg))
    rw [Int.toNat_natCast]
    refine OpOk.loadRow rfl rfl (LdN.at hr4 hdd) rfl ?_
    repeat (first | exact endA | refine wkP ?_ | refine opB (fun b => ?_) | refine opA (fun a' c' hc1 hc2 => ?_) | (apply GJ.and; exact rfl; intro hg) | (apply GJ.or; exact rfl; intro hg))
    obtain ⟨bD, hbD⟩ : ∃ z : Nat, z = b := ⟨_, rfl⟩
    subst hbD
    refine proper_ok hM2 hdn (fun ro3 hl3 => ?_)
    have hL3 : Leq ro2 ro3 := ⟨hl3.1⟩
    have ho3 := ho2.lift hl3
    have hM3 := hM2.le hl3
    by_cases hp : properD d.name = false
    · rw [if_pos hp] at i3
      have hk2 := hk ro3 (hl2.trans hl3)
      rw [i3, if_pos (show (5 : Int) ≠ 0 by decide)] at hk2
      rw [hp]
      dsimp only [flV] at hk2
      repeat (first | exact endA | refine wkP ?_ | refine opB (fun b => ?_) | refine opA (fun a' c' hc1 hc2 => ?_) | (apply GJ.and; exact rfl; intro hg) | (apply GJ.or; exact rfl; intro hg))
      exact Wk.outS Sup.auto (.refl _) hk2
    rw [if_neg hp] at i3
    have hp1 : properD d.name = true := by simpa using hp
    rw [hp1]
    repeat (first | exact endA | refine wkP ?_ | refine opB (fun b => ?_) | refine opA (fun a' c' hc1 hc2 => ?_) | (apply GJ.and; exact rfl; intro hg) | (apply GJ.or; exact rfl; intro hg))
    refine QOk.lookupOkG (kt := 9) (et := 3) (kv := str) (vv := Value.int .i64) (k := d.name) (z := .int .i64 0) rfl rfl Tryz.underlying91 (KeyEnc.text Tryz.underlying9) i2.map (by unfold maxLen; omega) (by kernel_rfl) ?_
    rw [i2.is]
    by_cases hin : d.name ∈ (s.defs.take j).map (·.name)
    · rw [if_pos hin] at i3
      have hk2 := hk ro3 (hl2.trans hl3)
      rw [i3, if_pos (show (4 : Int) ≠ 0 by decide)] at hk2
      rw [decide_eq_true hin]
      dsimp only [flV] at hk2
      repeat (first | exact endA | refine wkP ?_ | refine opB (fun b => ?_) | refine opA (fun a' c' hc1 hc2 => ?_) | (apply GJ.and; exact rfl; intro hg) | (apply GJ.or; exact rfl; intro hg))
      exact Wk.outS Sup.auto (.refl _) hk2
    rw [if_neg hin] at i3
    rw [decide_eq_false hin]
    repeat (first | exact endA | refine wkP ?_ | refine opB (fun b => ?_) | refine opA (fun a' c' hc1 hc2 => ?_) | (apply GJ.and; exact rfl; intro hg) | (apply GJ.or; exact rfl; intro hg))
    rw [hk0] at i3 ⊢
    have hkind := lkind_ok (p := p) (bm := bm) (cM := cM) (R := .blk bF 30 [.int .i64 0, .int .i64 0] :: .blk bS 25 (specV s a) :: own) ho3 hv hM3 hT i2 s.nodes.length k (by omega) (by omega) [] none 0 ro3 [.blk bD 46 (defV d)]
    refine hkind _ (Le.refl _) (Rds.nil _ _ _) (by simp; omega) (fun ro4 hl4 => ?_)
    clear hkind
    have hk4 := fun r5 h5 => hk r5 (((hl2.trans hl3).trans hl4).trans h5)
    dsimp only [List.cons_append, List.nil_append, flV]
    generalize kindS s ((s.defs.take j).map (·.name)) s.nodes.length (k : Int) [] = z at *
    obtain ⟨z1, z2⟩ := z
    dsimp only at i3 ⊢
    repeat (first | exact endA | refine wkP ?_ | refine opB (fun b => ?_) | refine opA (fun a' c' hc1 hc2 => ?_) | (apply GJ.and; exact rfl; intro hg) | (apply GJ.or; exact rfl; intro hg))
    by_cases hz : z1 ≠ 0
    · rw [if_pos hz] at i3
      have hk2 := hk4 ro4 (Le.refl _)
      rw [i3, if_pos hz] at hk2
      dsimp only [flV] at hk2
      refine Br.t hz ?_
      repeat (first | exact endA | refine wkP ?_ | refine opB (fun b => ?_) | refine opA (fun a' c' hc1 hc2 => ?_) | (apply GJ.and; exact rfl; intro hg) | (apply GJ.or; exact rfl; intro hg))
      exact Wk.outS Sup.auto (.refl _) hk2
    · rw [if_neg hz] at i3
      have hL4 : Leq ro3 ro4 := ⟨hl4.1⟩
      refine Br.f hz ?_
      repeat (first | exact endA | refine wkP ?_ | refine opB (fun b => ?_) | refine opA (fun a' c' hc1 hc2 => ?_) | (apply GJ.and; exact rfl; intro hg) | (apply GJ.or; exact rfl; intro hg))
      refine OpOk.mapUpdateG (kt := 9) (et := 3) (kv := str) (vv := Value.int .i64) (k := d.name) (v := d.type) rfl rfl rfl Tryz.underlying91 (KeyEnc.text Tryz.underlying9) i2.map (by unfold maxLen; omega) (fun cM2 => ?_)
      have hput := i2.put (x := d.name) (by unfold maxLen; omega) cM d.type
      rw [← htk] at hput i3
      generalize putG M cM d.name d.type = M2 at *
      repeat (first | exact endA | refine wkP ?_ | refine opB (fun b => ?_) | refine opA (fun a' c' hc1 hc2 => ?_) | (apply GJ.and; exact rfl; intro hg) | (apply GJ.or; exact rfl; intro hg))
      refine Wk.id ⟨(j + 1, M2, cM2), ?_, ?_, Sub.auto, Sup.auto⟩
      all_goals try dsimp only
      · exact ⟨by omega, hput, i3⟩
      · omega
  · obtain rfl : j = s.defs.length := by omega
    rw [List.drop_length, defsS] at i3
    rw [i3, if_neg (fun h => h rfl)] at hk
    have RK := rank_ok hc0 (by rw [i3])
    repeat (first | exact endA | refine wkP ?_ | refine opB (fun b => ?_) | refine opA (fun a' c' hc1 hc2 => ?_) | (apply GJ.and; exact rfl; intro hg) | (apply GJ.or; exact rfl; intro hg))
    refine deep_ok ho2 hc0 RK ?_
    have hk2 := hk ro2 hl2
    obtain ⟨x, hx⟩ : ∃ x, x = depI s (rootD s) := ⟨_, rfl⟩
    rw [← hx] at hk2 ⊢
    repeat (first | exact endA | refine wkP ?_ | refine opB (fun b => ?_) | refine opA (fun a' c' hc1 hc2 => ?_) | (apply GJ.and; exact rfl; intro hg) | (apply GJ.or; exact rfl; intro hg))
    by_cases h200 : 200 < x
    · rw [if_pos h200] at hk2
      dsimp only [flV] at hk2
      refine Br.t (by omega) ?_
      repeat (first | exact endA | refine wkP ?_ | refine opB (fun b => ?_) | refine opA (fun a' c' hc1 hc2 => ?_) | (apply GJ.and; exact rfl; intro hg) | (apply GJ.or; exact rfl; intro hg))
      refine root_ok ho2 ?_
      repeat (first | exact endA | refine wkP ?_ | refine opB (fun b => ?_) | refine opA (fun a' c' hc1 hc2 => ?_) | (apply GJ.and; exact rfl; intro hg) | (apply GJ.or; exact rfl; intro hg))
      exact Wk.outS Sup.auto (.refl _) hk2
    · rw [if_neg h200] at hk2
      dsimp only [flV] at hk2
      refine Br.f (by omega) ?_
      repeat (first | exact endA | refine wkP ?_ | refine opB (fun b => ?_) | refine opA (fun a' c' hc1 hc2 => ?_) | (apply GJ.and; exact rfl; intro hg) | (apply GJ.or; exact rfl; intro hg))
      exact Wk.outS Sup.auto (.refl _) hk2
end
end Go.Proofs.YtefipginoakecaaGreatDoor
end
section
/- The laws' small; scope: Used, Needed; the law's depth. -/
namespace Go.Proofs.YtefipginoakecaaGreatDoor
open Go Go.E
set_option linter.unusedVariables false
set_option linter.unusedSectionVars false
set_option linter.unusedSimpArgs false
set_option maxRecDepth 10000
def FewT (d : NodeD) : Prop := d.text.length ≤ 300 ∧ d.fields.length ≤ 60 ∧ d.cases.length ≤ 60
def SmallT (s : SpecD) : Prop := (∀ d ∈ s.nodes, FewT d) ∧ s.nodes.length ≤ 300 ∧ s.defs.length ≤ 64
section
variable {ro : Ro} {own : Chs} {K : Value → Ro → Chs → Prop}
set_option maxHeartbeats 2000000 in
theorem small14_ok {s : SpecD} {a : SpecA} (ho : SpecOk ro s a) (h1 : ¬ SmallT s → K (.bool false) ro own) (h2 : SmallT s → K (.bool true) ro own) : CallOk Tryz.prog 14 #[.agg (specV s a).toArray] ro own K := by
  have hr1 := ho.nodes
  have hm1 := hr1.max
  have hle1 := hr1.le
  have hr2 := ho.defs
  have hm2 := hr2.max
  have hle2 := hr2.le
  unfold maxLen at hm1 hm2
  refine CallOk.intro (args := [_]) (rs := [_]) T_ok Tryz.func14 Tryz.call14 rfl rfl (by kernel_rfl) rfl rfl ?_
  repeat (first | exact endA | refine wkP ?_ | refine opB (fun b => ?_) | refine opA (fun a' c' hc1 hc2 => ?_) | (apply GJ.and; exact rfl; intro hg) | (apply GJ.or; exact rfl; intro hg))
  refine LoopOk.at (ι := Nat) Keep.auto (fun i => [(8, .int .i64 (i : Int))]) (fun i => .blk b 25 (specV s a) :: own) (fun i => i ≤ s.nodes.length ∧ ∀ d ∈ s.nodes.take i, FewT d) (fun i => s.nodes.length - i) 0 ?_ Sub.auto Sup.auto ?_
  · exact ⟨Nat.zero_le _, fun d hd => by simp at hd⟩
  rintro i ⟨i1, i2⟩
  dsimp only [List.cons_append, List.nil_append] at i1 i2 ⊢
  by_cases hi : i < s.nodes.length
  · obtain ⟨d, hd⟩ : ∃ d, s.nodes[i]? = some d := ⟨_, List.getElem?_eq_getElem hi⟩
    obtain ⟨x, hx⟩ : ∃ x, a.xs[i]? = some x := ⟨_, List.getElem?_eq_getElem (by rw [ho.len]; exact hi)⟩
    have hdr := nodesV_drop _ _ _ _ _ hd hx
    have ht : s.nodes.take (i + 1) = s.nodes.take i ++ [d] := by rw [List.take_add_one, hd]; rfl
    repeat (first | exact endA | refine wkP ?_ | refine opB (fun b => ?_) | refine opA (fun a' c' hc1 hc2 => ?_) | (apply GJ.and; exact rfl; intro hg) | (apply GJ.or; exact rfl; intro hg))
    rw [Int.toNat_natCast]
    refine OpOk.loadRow rfl rfl (LdN.at hr1 hdr) rfl ?_
    repeat (first | exact endA | refine wkP ?_ | refine opB (fun b => ?_) | refine opA (fun a' c' hc1 hc2 => ?_) | (apply GJ.and; exact rfl; intro hg) | (apply GJ.or; exact rfl; intro hg))
    refine Br.cases (fun hw => ?_) (fun hw => ?_)
    · repeat (first | exact endA | refine wkP ?_ | refine opB (fun b => ?_) | refine opA (fun a' c' hc1 hc2 => ?_) | (apply GJ.and; exact rfl; intro hg) | (apply GJ.or; exact rfl; intro hg))
      refine Wk.outS Sup.auto (.refl _) (h1 fun hs => ?_)
      have := hs.1 d (List.mem_of_getElem? hd)
      unfold FewT at this
      omega
    · repeat (first | exact endA | refine wkP ?_ | refine opB (fun b => ?_) | refine opA (fun a' c' hc1 hc2 => ?_) | (apply GJ.and; exact rfl; intro hg) | (apply GJ.or; exact rfl; intro hg))
      refine Wk.id ⟨i + 1, ⟨rfl, ?_⟩, ?_, Sub.auto, Sup.auto⟩
      all_goals try dsimp only
      · refine ⟨by omega, fun d' hd' => ?_⟩
        rw [ht] at hd'
        rcases List.mem_append.1 hd' with h | h
        · exact i2 d' h
        · rw [List.mem_singleton.1 h]; unfold FewT; omega
      · omega
  · obtain rfl : i = s.nodes.length := by omega
    rw [List.take_length] at i2
    by_cases hs1 : s.nodes.length ≤ 300
    · by_cases hs2 : s.defs.length ≤ 64
      · have hk2 := h2 ⟨i2, hs1, hs2⟩
        repeat (first | exact endA | refine wkP ?_ | refine opB (fun b => ?_) | refine opA (fun a' c' hc1 hc2 => ?_) | (apply GJ.and; exact rfl; intro hg) | (apply GJ.or; exact rfl; intro hg))
        exact Wk.outV Sup.auto hk2 (congrArg Value.bool (by simp <;> omega))
      · have hk2 := h1 (fun h => hs2 h.2.2)
        repeat (first | exact endA | refine wkP ?_ | refine opB (fun b => ?_) | refine opA (fun a' c' hc1 hc2 => ?_) | (apply GJ.and; exact rfl; intro hg) | (apply GJ.or; exact rfl; intro hg))
        exact Wk.outV Sup.auto hk2 (congrArg Value.bool (by simp <;> omega))
    · have hk2 := h1 (fun h => hs1 h.2.1)
      repeat (first | exact endA | refine wkP ?_ | refine opB (fun b => ?_) | refine opA (fun a' c' hc1 hc2 => ?_) | (apply GJ.and; exact rfl; intro hg) | (apply GJ.or; exact rfl; intro hg))
      exact Wk.outV Sup.auto hk2 (congrArg Value.bool (by simp <;> omega))
end
section
variable {ro : Ro} {s : SpecD} {a : SpecA} {rk : Nat → Nat}
set_option maxHeartbeats 4000000 in
theorem depth_ok (ho : SpecOk ro s a) (hc : checkD s = 0) (RK : RkOk s rk) : ∀ (r i : Nat), rk i < r → i < s.nodes.length → ∀ (own : Chs) (K : Value → Ro → Chs → Prop), K (.int .i64 (depI s (i : Int))) ro own →
    CallOk Tryz.prog 18 #[.agg (specV s a).toArray, .int .i64 (i : Int)] ro own K := by
  intro r
  induction r with
  | zero => intro i h; omega
  | succ r ih =>
    intro i hri hi own K hk
    have hr1 := ho.nodes
    have hm := hr1.max
    have hnc := hr1.le
    unfold maxLen at hm
    obtain ⟨d, hd⟩ : ∃ d, s.nodes[i]? = some d := ⟨_, List.getElem?_eq_getElem hi⟩
    obtain ⟨x, hx⟩ : ∃ x, a.xs[i]? = some x := ⟨_, List.getElem?_eq_getElem (by rw [ho.len]; exact hi)⟩
    have hn1 := ho.each i d x hd hx
    have hdr1 := nodesV_drop _ _ _ _ _ hd hx
    obtain ⟨hf, hks⟩ := Ahead.of hc i d hd
    have hsm := form_small hf
    have hdep := depI_le hc (i : Int)
    have heq := dep_eq RK hd
    refine CallOk.intro (args := [_, _]) (rs := [_]) T_ok Tryz.func18 Tryz.call18 rfl rfl (by kernel_rfl) rfl rfl ?_
    repeat (first | exact endA | refine wkP ?_ | refine opB (fun b => ?_) | refine opA (fun a' c' hc1 hc2 => ?_) | (apply GJ.and; exact rfl; intro hg) | (apply GJ.or; exact rfl; intro hg))
    rw [Int.toNat_natCast]
    refine OpOk.loadRow rfl rfl (LdN.at hr1 hdr1) rfl ?_
    by_cases hk13 : d.kind = 13
    · rw [if_pos hk13] at heq
      obtain ⟨u1, u2, u3⟩ := RK.use i d hd hk13
      obtain ⟨u, hu⟩ := Int.eq_ofNat_of_zero_le u1
      rw [hu] at u2 u3 heq
      rw [Int.toNat_natCast] at u3
      rw [heq] at hk
      repeat (first | exact endA | refine wkP ?_ | refine opB (fun b => ?_) | refine opA (fun a' c' hc1 hc2 => ?_) | (apply GJ.and; exact rfl; intro hg) | (apply GJ.or; exact rfl; intro hg))
      refine def_ok ho ?_
      rw [hu]
      repeat (first | exact endA | refine wkP ?_ | refine opB (fun b => ?_) | refine opA (fun a' c' hc1 hc2 => ?_) | (apply GJ.and; exact rfl; intro hg) | (apply GJ.or; exact rfl; intro hg))
      refine ih u (by omega) (by omega) _ _ ?_
      repeat (first | exact endA | refine wkP ?_ | refine opB (fun b => ?_) | refine opA (fun a' c' hc1 hc2 => ?_) | (apply GJ.and; exact rfl; intro hg) | (apply GJ.or; exact rfl; intro hg))
      exact Wk.outS Sup.auto (.refl _) hk
    · rw [if_neg hk13] at heq
      repeat (first | exact endA | refine wkP ?_ | refine opB (fun b => ?_) | refine opA (fun a' c' hc1 hc2 => ?_) | (apply GJ.and; exact rfl; intro hg) | (apply GJ.or; exact rfl; intro hg))
      refine kids_ok hn1 (by omega) (fun a1 n1 c1 h1 h2 h3 => ?_)
      subst h1
      have hkl : (kidsD d).length ≤ 1000 := by unfold kidsD; split <;> simp <;> omega
      rename_i bS
      obtain ⟨bN, hbN⟩ : ∃ z : Nat, z = b := ⟨_, rfl⟩
      subst hbN
      repeat (first | exact endA | refine wkP ?_ | refine opB (fun b => ?_) | refine opA (fun a' c' hc1 hc2 => ?_) | (apply GJ.and; exact rfl; intro hg) | (apply GJ.or; exact rfl; intro hg))
      refine LoopOk.at (ι := Nat × Int) Keep.auto (fun (j, z) => [(26, .int .i64 (j : Int)), (6, .int .i64 z)]) (fun (j, z) => .sl a1 (kidsD d).length c1 3 1 (kidsV (kidsD d)) :: .blk bN 41 (nodeV d x) :: .blk bS 25 (specV s a) :: own) (fun (j, z) => j ≤ (kidsD d).length ∧ z = maxL (((kidsD d).take j).map (depI s)) ∧ 0 ≤ z ∧ z ≤ 266370) (fun (j, z) => (kidsD d).length - j) (0, 0) ?_ Sub.auto Sup.auto ?_
      · exact ⟨Nat.zero_le _, rfl, by omega, by omega⟩
      rintro ⟨j, z⟩ ⟨i1, i3, i4, i5⟩
      dsimp only [List.cons_append, List.nil_append] at i1 i3 i4 i5 ⊢
      by_cases hj : j < (kidsD d).length
      · obtain ⟨y, hy⟩ : ∃ y, (kidsD d)[j]? = some y := ⟨_, List.getElem?_eq_getElem hj⟩
        have hyb : (kidsD d)[((j : Nat) : Int).toNat]! = y := by rw [Int.toNat_natCast, List.getElem!_eq_getElem?_getD, hy]; rfl
        have htk : ((kidsD d).take (j + 1)).map (depI s) = ((kidsD d).take j).map (depI s) ++ [depI s y] := by rw [List.take_add_one, hy, List.map_append]; rfl
        obtain ⟨q1, q2, q3⟩ := RK.kids i d hd y (List.mem_of_getElem? hy)
        obtain ⟨k, rfl⟩ := Int.eq_ofNat_of_zero_le q1
        rw [Int.toNat_natCast] at q3
        have hdk := depI_le hc (k : Int)
        repeat (first | exact endA | refine wkP ?_ | refine opB (fun b => ?_) | refine opA (fun a' c' hc1 hc2 => ?_) | (apply GJ.and; exact rfl; intro hg) | (apply GJ.or; exact rfl; intro hg))
        rw [hyb]
        refine ih k (by omega) (by omega) _ _ ?_
        repeat (first | exact endA | refine wkP ?_ | refine opB (fun b => ?_) | refine opA (fun a' c' hc1 hc2 => ?_) | (apply GJ.and; exact rfl; intro hg) | (apply GJ.or; exact rfl; intro hg))
        refine Wk.id ⟨(j + 1, max z (depI s (k : Int))), ⟨rfl, ?_⟩, ?_, Sub.auto, Sup.auto⟩
        all_goals try dsimp only
        · exact ⟨by omega, by rw [htk, maxL_snoc, ← i3]; omega, by omega, by omega⟩
        · omega
      · obtain rfl : j = (kidsD d).length := by omega
        rw [List.take_length] at i3
        rw [← i3] at heq
        rw [heq] at hk
        by_cases h11 : d.kind = 11
        · rw [if_pos h11] at hk
          repeat (first | exact endA | refine wkP ?_ | refine opB (fun b => ?_) | refine opA (fun a' c' hc1 hc2 => ?_) | (apply GJ.and; exact rfl; intro hg) | (apply GJ.or; exact rfl; intro hg))
          exact Wk.outV Sup.auto hk (congrArg (Value.int .i64) (by omega))
        · rw [if_neg h11] at hk
          repeat (first | exact endA | refine wkP ?_ | refine opB (fun b => ?_) | refine opA (fun a' c' hc1 hc2 => ?_) | (apply GJ.and; exact rfl; intro hg) | (apply GJ.or; exact rfl; intro hg))
          exact Wk.outS Sup.auto (.refl _) hk
end
/-- A map that marks these texts. -/
structure MarkK (kn : List (List UInt8)) (M : List (List UInt8 × Bool × Nat)) : Prop where
  map : MapOk (fun l : List UInt8 => l.length ≤ maxLen) M
  is : ∀ x, getG M x = if x ∈ kn then some true else none
theorem MarkK.nil : MarkK [] [] := ⟨MapOk.nil, fun x => by simp [getG]⟩
theorem MarkK.put {kn : List (List UInt8)} {M : List (List UInt8 × Bool × Nat)} (h : MarkK kn M) {x : List UInt8} (hx : x.length ≤ maxLen) (c : Nat) : MarkK (kn ++ [x]) (putG M c x true) := by
  refine ⟨h.map.put hx c true, fun y => ?_⟩
  rw [getG_putG]
  by_cases hy : y = x
  · subst hy; simp
  · rw [if_neg hy, h.is]
    simp [hy]
theorem MarkK.get {kn : List (List UInt8)} {M : List (List UInt8 × Bool × Nat)} (h : MarkK kn M) (x : List UInt8) : ((getG M x).map Value.bool).getD (.bool false) = .bool (decide (x ∈ kn)) := by
  rw [h.is]
  by_cases hx : x ∈ kn
  · rw [if_pos hx, decide_eq_true hx]; rfl
  · rw [if_neg hx, decide_eq_false hx]; rfl
theorem useS_len (s : SpecD) (out : List (List UInt8)) (k : Int) : (useS s out k).length ≤ out.length + 1 := by
  unfold useS
  split
  · omega
  · split
    · rw [List.length_append]; exact Nat.le_refl _
    · omega
theorem flat_le {α β : Type} {f : α → List β} : ∀ {l : List α} {x : α}, x ∈ l → (f x).length ≤ (l.flatMap f).length
  | [], x, h => by cases h
  | y :: l, x, h => by
    rw [List.flatMap_cons, List.length_append]
    rcases List.mem_cons.1 h with rfl | h
    · omega
    · have := flat_le (f := f) h; omega
theorem pre_len {s : SpecD} (hc : checkD s = 0) {d : DefD} (hd : d ∈ s.defs) : (preI (kidsAt s) s.nodes.length d.type).length ≤ s.nodes.length := by
  have h1 := allT_len hc
  have h2 := flat_le (f := preI (kidsAt s) s.nodes.length) (l := s.defs.map (·.type)) (x := d.type) (List.mem_map.2 ⟨d, hd, rfl⟩)
  unfold allT at h1
  omega
theorem pre_in {s : SpecD} (hv : Ahead s) : ∀ (n a : Nat), a < n → a < s.nodes.length → ∀ k ∈ preI (kidsAt s) s.nodes.length a, 0 ≤ k ∧ k ≤ (a : Int)
  | 0, a, h, _ => by omega
  | n + 1, a, hn, ha => by
    intro k hk
    rw [preI_eq hv.kidsAt ha] at hk
    rcases List.mem_cons.1 hk with rfl | hk
    · omega
    · obtain ⟨x, hx, hkx⟩ := List.mem_flatMap.1 hk
      have := hv.kidsAt a x hx
      obtain ⟨y, rfl⟩ := Int.eq_ofNat_of_zero_le this.1
      have := pre_in hv n y (by omega) (by omega) k hkx
      omega
theorem usesS_len (s : SpecD) : ∀ (p : List Int) (out : List (List UInt8)), (p.foldl (useS s) out).length ≤ out.length + p.length
  | [], out => Nat.le_refl _
  | k :: p, out => by
    have h1 := usesS_len s p (useS s out k)
    have h2 := useS_len s out k
    rw [List.foldl_cons, List.length_cons]
    omega
section
variable {ro : Ro} {K : Value → Ro → Chs → Prop} {s : SpecD} {a : SpecA} {rk : Nat → Nat}
set_option maxHeartbeats 4000000 in
theorem used1_ok (ho : SpecOk ro s a) (hT : TextIn s) {i : Nat} (hi : i < s.nodes.length) {bS bM bO bm : Nat} {oa : Option Addr} {oc cM : Nat} {out : List (List UInt8)} {M : List (List UInt8 × Bool × Nat)} {G R : Chs} (hM : MarkK out M) (ho1 : out.length ≤ oc ∧ oc ≤ maxLen) (ho2 : out.length ≤ 100000)
    (hk : ∀ M' cM' oa' oc', MarkK (useS s out (i : Int)) M' → (useS s out (i : Int)).length ≤ oc' ∧ oc' ≤ maxLen → K (.bool true) ro (G ++ (.obj bm (mapG str Value.bool M' cM') :: .blk bO 43 [.slice oa' (useS s out (i : Int)).length oc'] :: .sl oa' (useS s out (i : Int)).length oc' 9 1 ((useS s out (i : Int)).map str) :: .blk bM 98 [.map (some bm)] :: .blk bS 25 (specV s a) :: R))) :
    CallOk Tryz.prog 60 #[.int .i64 (i : Int), ptr' bS, ptr' bM, ptr' bO] ro (G ++ (.obj bm (mapG str Value.bool M cM) :: .blk bO 43 [.slice oa out.length oc] :: .sl oa out.length oc 9 1 (out.map str) :: .blk bM 98 [.map (some bm)] :: .blk bS 25 (specV s a) :: R)) K := by
  have hr1 := ho.nodes
  have hm := hr1.max
  have hnc := hr1.le
  unfold maxLen at hm
  obtain ⟨o1, o2⟩ := ho1
  have o3 := o2
  unfold maxLen at o3
  obtain ⟨d, hd⟩ : ∃ d, s.nodes[i]? = some d := ⟨_, List.getElem?_eq_getElem hi⟩
  obtain ⟨x, hx⟩ : ∃ x, a.xs[i]? = some x := ⟨_, List.getElem?_eq_getElem (by rw [ho.len]; exact hi)⟩
  have hdr1 := nodesV_drop _ _ _ _ _ hd hx
  have htx := hT.texts d (List.mem_of_getElem? hd)
  have hu : useS s out (i : Int) = if d.kind = 13 ∧ d.text ∉ out then out ++ [d.text] else out := by unfold useS; rw [Int.toNat_natCast, hd]
  rw [hu] at hk
  refine CallOk.intro (args := [_, _, _, _]) (rs := [_]) T_ok Tryz.func60 Tryz.call60 rfl rfl (by kernel_rfl) rfl rfl ?_
  repeat (first | exact endA | refine wkP ?_ | refine opB (fun b => ?_) | refine opA (fun a' c' hc1 hc2 => ?_) | (apply GJ.and; exact rfl; intro hg) | (apply GJ.or; exact rfl; intro hg))
  rw [Int.toNat_natCast]
  refine OpOk.loadRow rfl rfl (LdN.at hr1 hdr1) rfl ?_
  by_cases hk13 : d.kind = 13
  · repeat (first | exact endA | refine wkP ?_ | refine opB (fun b => ?_) | refine opA (fun a' c' hc1 hc2 => ?_) | (apply GJ.and; exact rfl; intro hg) | (apply GJ.or; exact rfl; intro hg))
    refine OpOk.lookupG (kt := 9) (et := 4) (kv := str) (vv := Value.bool) (k := d.text) (z := .bool false) rfl rfl Tryz.underlying98 (KeyEnc.text Tryz.underlying9) hM.map (by unfold maxLen; omega) (by kernel_rfl) ?_
    rw [hM.get]
    by_cases hin : d.text ∈ out
    · rw [if_neg (fun h => h.2 hin)] at hk
      have hk2 := hk M cM oa oc hM ⟨o1, o2⟩
      rw [decide_eq_true hin]
      repeat (first | exact endA | refine wkP ?_ | refine opB (fun b => ?_) | refine opA (fun a' c' hc1 hc2 => ?_) | (apply GJ.and; exact rfl; intro hg) | (apply GJ.or; exact rfl; intro hg))
      exact Wk.outS Sup.auto (.refl _) hk2
    · rw [if_pos ⟨hk13, hin⟩] at hk
      rw [decide_eq_false hin]
      have hcl : out.map str ++ [str d.text] = (out ++ [d.text]).map str := by simp
      have hnl : out.length + 1 = (out ++ [d.text]).length := by simp
      repeat (first | exact endA | refine wkP ?_ | refine opB (fun b => ?_) | refine opA (fun a' c' hc1 hc2 => ?_) | (apply GJ.and; exact rfl; intro hg) | (apply GJ.or; exact rfl; intro hg))
      refine OpOk.mapUpdateG (kt := 9) (et := 4) (kv := str) (vv := Value.bool) (k := d.text) (v := true) rfl rfl rfl Tryz.underlying98 (KeyEnc.text Tryz.underlying9) hM.map (by unfold maxLen; omega) (fun cM2 => ?_)
      have hput := hM.put (x := d.text) (by unfold maxLen; omega) cM
      generalize putG M cM d.text true = M2 at *
      repeat (first | exact endA | refine wkP ?_ | refine opB (fun b => ?_) | refine opA (fun a' c' hc1 hc2 => ?_) | (apply GJ.and; exact rfl; intro hg) | (apply GJ.or; exact rfl; intro hg))
      rw [hcl]
      rw [hnl] at hc1 ⊢
      have hk2 := hk M2 cM2 a' c' hput ⟨hc1, hc2⟩
      repeat (first | exact endA | refine wkP ?_ | refine opB (fun b => ?_) | refine opA (fun a' c' hc1 hc2 => ?_) | (apply GJ.and; exact rfl; intro hg) | (apply GJ.or; exact rfl; intro hg))
      exact Wk.outS Sup.auto (.refl _) hk2
  · rw [if_neg (fun h => hk13 h.1)] at hk
    have hk2 := hk M cM oa oc hM ⟨o1, o2⟩
    repeat (first | exact endA | refine wkP ?_ | refine opB (fun b => ?_) | refine opA (fun a' c' hc1 hc2 => ?_) | (apply GJ.and; exact rfl; intro hg) | (apply GJ.or; exact rfl; intro hg))
    exact Wk.outS Sup.auto (.refl _) hk2
set_option maxHeartbeats 4000000 in
theorem used_ok {own : Chs} (ho : SpecOk ro s a) (hc : checkD s = 0) (hT : TextIn s) {i : Nat} (hi : i < s.nodes.length) (hlen : (preI (kidsAt s) s.nodes.length (i : Int)).length ≤ 100000)
    (hk : ∀ oa oc, (usedS s (i : Int)).length ≤ oc → oc ≤ maxLen → K (.slice oa (usedS s (i : Int)).length oc) ro (.sl oa (usedS s (i : Int)).length oc 9 1 ((usedS s (i : Int)).map str) :: own)) :
    CallOk Tryz.prog 22 #[.agg (specV s a).toArray, .int .i64 (i : Int)] ro own K := by
  have hr1 := ho.nodes
  have hm := hr1.max
  have hnc := hr1.le
  unfold maxLen at hm
  obtain ⟨hnn, hnd⟩ : s.nodes.length ≤ 2048 ∧ s.defs.length ≤ 64 := by
    obtain ⟨_, _, _, _, h1, h2, _, _⟩ := checkD_ok hc
    exact ⟨h1, h2⟩
  have hcl : (Value.agg (specV s a).toArray).cells.toList = specV s a := rfl
  refine CallOk.intro (args := [_, _]) (rs := [_]) T_ok Tryz.func22 Tryz.call22 rfl rfl (by kernel_rfl) rfl rfl ?_
  repeat (first | exact endA | refine wkP ?_ | refine opB (fun b => ?_) | refine opA (fun a' c' hc1 hc2 => ?_) | (apply GJ.and; exact rfl; intro hg) | (apply GJ.or; exact rfl; intro hg))
  rw [hcl]
  rename_i bS
  obtain ⟨bO, hbO⟩ : ∃ z : Nat, z = b := ⟨_, rfl⟩
  subst hbO
  refine OpOk.makeMapG (kv := str) (vv := Value.bool) (fun bm => ?_)
  repeat (first | exact endA | refine wkP ?_ | refine opB (fun b => ?_) | refine opA (fun a' c' hc1 hc2 => ?_) | (apply GJ.and; exact rfl; intro hg) | (apply GJ.or; exact rfl; intro hg))
  obtain ⟨bM, hbM⟩ : ∃ z : Nat, z = b := ⟨_, rfl⟩
  subst hbM
  have hv := Ahead.of hc
  refine CallOk.sup (own0 := .obj bm (mapG str Value.bool ([] : List (List UInt8 × Bool × Nat)) 0) :: .blk bO 43 [.slice none (usesS s []).length 0] :: .sl none (usesS s []).length 0 9 1 ((usesS s []).map str) :: .blk bM 98 [.map (some bm)] :: .blk bS 25 (specV s a) :: own) Sup.auto ?_
  refine each_ok ho hv (fy := 60) (cap := #[ptr' bS, ptr' bM, ptr' bO]) (go := fun _ => true) (T := preI (kidsAt s) s.nodes.length (i : Int)) (fun p (w : List (List UInt8 × Bool × Nat) × Nat × Option Addr × Nat) => .obj bm (mapG str Value.bool w.1 w.2.1) :: .blk bO 43 [.slice w.2.2.1 (usesS s p).length w.2.2.2] :: .sl w.2.2.1 (usesS s p).length w.2.2.2 9 1 ((usesS s p).map str) :: .blk bM 98 [.map (some bm)] :: .blk bS 25 (specV s a) :: own) (fun p w => MarkK (usesS s p) w.1 ∧ (usesS s p).length ≤ w.2.2.2 ∧ w.2.2.2 ≤ maxLen) ?_ (i + 1) i (by omega) hi [] [] (by simp) ([], 0, none, 0) ⟨MarkK.nil, Nat.le_refl _, Nat.zero_le _⟩ ro [] _ ?_
  · rintro p k r hTp ⟨M, cM, oa, oc⟩ ⟨w1, w2⟩ ro2 G K2 hle2 hk2
    dsimp only at w1 w2 hk2 ⊢
    have hkm : k ∈ preI (kidsAt s) s.nodes.length (i : Int) := by rw [hTp]; simp
    obtain ⟨q1, q2⟩ := pre_in hv (i + 1) i (by omega) hi k hkm
    obtain ⟨y, rfl⟩ := Int.eq_ofNat_of_zero_le q1
    have hpl := congrArg List.length hTp
    rw [List.length_append, List.length_cons] at hpl
    have hul := usesS_len s p []
    refine used1_ok (ho.lift ⟨hle2.1⟩) hT (i := y) (by omega) w1 w2 (by show (usesS s p).length ≤ 100000; unfold usesS; simp at hul; omega) (fun M' cM' oa' oc' g1 g2 => ?_)
    have := hk2 (M', cM', oa', oc')
    dsimp only at this
    rw [usesS_snoc] at this
    exact this ⟨g1, g2⟩
  · rintro ⟨M, cM, oa, oc⟩
    rw [runG_all (fun _ => rfl)]
    dsimp only [List.nil_append]
    rintro ⟨w1, w2, w3⟩
    have hk2 := hk oa oc w2 w3
    unfold usedS at hk2
    repeat (first | exact endA | refine wkP ?_ | refine opB (fun b => ?_) | refine opA (fun a' c' hc1 hc2 => ?_) | (apply GJ.and; exact rfl; intro hg) | (apply GJ.or; exact rfl; intro hg))
    exact Wk.outS Sup.auto (.refl _) hk2
end
theorem useS_mem {s : SpecD} {out : List (List UInt8)} {k : Int} {x : List UInt8} : x ∈ useS s out k ↔ x ∈ out ∨ ∃ d, s.nodes[k.toNat]? = some d ∧ d.kind = 13 ∧ d.text = x := by
  unfold useS
  cases hd : s.nodes[k.toNat]? with
  | none => simp
  | some d =>
    dsimp only
    split
    · rename_i h
      rw [List.mem_append, List.mem_singleton]
      refine ⟨fun h2 => h2.imp id (fun e => ⟨d, rfl, h.1, e.symm⟩), fun h2 => h2.imp id (fun ⟨e, he, _, e3⟩ => by cases he; exact e3.symm)⟩
    · rename_i h
      refine ⟨.inl, fun h2 => h2.elim id (fun ⟨e, he, e2, e3⟩ => ?_)⟩
      cases he
      exact Classical.byContradiction fun hn => h ⟨e2, by rw [e3]; exact hn⟩
theorem usesS_mem' {s : SpecD} {x : List UInt8} : ∀ (p : List Int) (out : List (List UInt8)), x ∈ p.foldl (useS s) out ↔ x ∈ out ∨ ∃ k ∈ p, ∃ d, s.nodes[k.toNat]? = some d ∧ d.kind = 13 ∧ d.text = x
  | [], out => by simp
  | k :: p, out => by
    rw [List.foldl_cons, usesS_mem' p, useS_mem, or_assoc]
    refine or_congr Iff.rfl ⟨?_, ?_⟩
    · rintro (h | ⟨j, hj, h⟩)
      · exact ⟨k, List.mem_cons_self .., h⟩
      · exact ⟨j, List.mem_cons_of_mem _ hj, h⟩
    · rintro ⟨j, hj, h⟩
      rcases List.mem_cons.1 hj with rfl | hj
      · exact .inl h
      · exact .inr ⟨j, hj, h⟩
theorem usedS_mem {s : SpecD} {x : List UInt8} {a : Int} : x ∈ usedS s a ↔ ∃ k ∈ preI (kidsAt s) s.nodes.length a, ∃ d, s.nodes[k.toNat]? = some d ∧ d.kind = 13 ∧ d.text = x := by
  unfold usedS usesS
  rw [usesS_mem']
  simp
theorem usedS_len {s : SpecD} {x : List UInt8} {a : Int} (hT : TextIn s) (h : x ∈ usedS s a) : x.length ≤ 4611686018427387904 := by
  obtain ⟨k, _, d, hd, _, rfl⟩ := usedS_mem.1 h
  exact hT.texts d (List.mem_of_getElem? hd)
/-- What is needed, from the last name on. -/
def stepN (s : SpecD) (last : Bool) (nd : List (List UInt8)) (d : DefD) : List (List UInt8) := if last = true ∨ d.name ∈ nd then nd ++ [d.name] ++ usedS s d.type else nd
def ndS (s : SpecD) : Nat → List (List UInt8)
  | 0 => []
  | k + 1 => match s.defs[s.defs.length - (k + 1)]? with
    | none => ndS s k
    | some d => stepN s (decide (k = 0)) (ndS s k) d
def outN (s : SpecD) (j : Nat) : List (List UInt8) := ((s.defs.take j).filter (fun d => decide (d.name ∈ ndS s s.defs.length))).map (·.name)
def neededS (s : SpecD) : List (List UInt8) := (s.defs.filter (fun d => decide (d.name ∈ ndS s s.defs.length))).map (·.name)
section
variable {ro : Ro} {K : Value → Ro → Chs → Prop} {s : SpecD} {a : SpecA} {rk : Nat → Nat}
set_option maxHeartbeats 8000000 in
theorem needed_ok {own : Chs} (ho : SpecOk ro s a) (hc : checkD s = 0) (hT : TextIn s)
    (hk : ∀ oa oc, (neededS s).length ≤ oc → oc ≤ maxLen → K (.slice oa (neededS s).length oc) ro (.sl oa (neededS s).length oc 9 1 ((neededS s).map str) :: own)) :
    CallOk Tryz.prog 20 #[.agg (specV s a).toArray] ro own K := by
  have hr2 := ho.defs
  have hm := hr2.max
  have hnc := hr2.le
  unfold maxLen at hm
  obtain ⟨hnn, hnd⟩ : s.nodes.length ≤ 2048 ∧ s.defs.length ≤ 64 := by
    obtain ⟨_, _, _, _, h1, h2, _, _⟩ := checkD_ok hc
    exact ⟨h1, h2⟩
  have hdi := defs_inS hc
  have hcl : (Value.agg (specV s a).toArray).cells.toList = specV s a := rfl
  refine CallOk.intro (args := [_]) (rs := [_]) T_ok Tryz.func20 Tryz.call20 rfl rfl (by kernel_rfl) rfl rfl ?_
  repeat (first | exact endA | refine wkP ?_ | refine opB (fun b => ?_) | refine opA (fun a' c' hc1 hc2 => ?_) | (apply GJ.and; exact rfl; intro hg) | (apply GJ.or; exact rfl; intro hg))
  rw [hcl]
  obtain ⟨bS, hbS⟩ : ∃ z : Nat, z = b := ⟨_, rfl⟩
  subst hbS
  refine OpOk.makeMapG (kv := str) (vv := Value.bool) (fun bm => ?_)
  repeat (first | exact endA | refine wkP ?_ | refine opB (fun b => ?_) | refine opA (fun a' c' hc1 hc2 => ?_) | (apply GJ.and; exact rfl; intro hg) | (apply GJ.or; exact rfl; intro hg))
  rw [show ((s.defs.length : Nat) : Int) - 1 = (s.defs.length : Int) - 1 - ((0 : Nat) : Int) by omega]
  refine LoopOk.at (ι := Nat × List (List UInt8 × Bool × Nat) × Nat) Keep.auto (fun (k, M, cM) => [(5, .int .i64 ((s.defs.length : Int) - 1 - (k : Int)))]) (fun (k, M, cM) => .obj bm (mapG str Value.bool M cM) :: .blk bS 25 (specV s a) :: own) (fun (k, M, cM) => k ≤ s.defs.length ∧ MarkK (ndS s k) M) (fun (k, M, cM) => s.defs.length - k) (0, [], 0) ?_ Sub.auto Sup.auto ?_
  · exact ⟨Nat.zero_le _, MarkK.nil⟩
  rintro ⟨k, M, cM⟩ ⟨i1, i2⟩
  dsimp only [List.cons_append, List.nil_append] at i1 i2 ⊢
  by_cases hlt : k < s.defs.length
  · have hidx : ((s.defs.length : Int) - 1 - (k : Int)).toNat = s.defs.length - (k + 1) := by omega
    obtain ⟨d, hd⟩ : ∃ d, s.defs[s.defs.length - (k + 1)]? = some d := ⟨_, List.getElem?_eq_getElem (by omega)⟩
    have hde : s.defs[s.defs.length - (k + 1)] = d := Option.some.inj ((List.getElem?_eq_getElem (by omega)).symm.trans hd)
    have hdd := defsV_drop s.defs (i := s.defs.length - (k + 1)) (by omega)
    rw [hde] at hdd
    have hmem := List.mem_of_getElem? hd
    have hdn := hT.defs d hmem
    obtain ⟨q1, q2⟩ := hdi d hmem
    obtain ⟨y, hy0⟩ := Int.eq_ofNat_of_zero_le q1
    have hpl := pre_len hc hmem
    have hst : ndS s (k + 1) = stepN s (decide (k = 0)) (ndS s k) d := by rw [ndS, hd]
    have hul : ∀ x ∈ usedS s d.type, x.length ≤ 4611686018427387904 := fun x hx => usedS_len hT hx
    repeat (first | exact endA | refine wkP ?_ | refine opB (fun b => ?_) | refine opA (fun a' c' hc1 hc2 => ?_) | (apply GJ.and; exact rfl; intro hg) | (apply GJ.or; exact rfl; intro hg))
    rw [hidx]
    refine OpOk.loadRow rfl rfl (LdN.at hr2 hdd) rfl ?_
    by_cases hk0 : k = 0
    · have hst2 : ndS s (k + 1) = ndS s k ++ [d.name] ++ usedS s d.type := by rw [hst, stepN, if_pos (.inl (decide_eq_true hk0))]
      have hput := i2.put (x := d.name) (by unfold maxLen; omega) cM
      repeat (first | exact endA | refine wkP ?_ | refine opB (fun b => ?_) | refine opA (fun a' c' hc1 hc2 => ?_) | (apply GJ.and; exact rfl; intro hg) | (apply GJ.or; exact rfl; intro hg))
      refine OpOk.mapUpdateG (kt := 9) (et := 4) (kv := str) (vv := Value.bool) (k := d.name) (v := true) rfl rfl rfl Tryz.underlying98 (KeyEnc.text Tryz.underlying9) i2.map (by unfold maxLen; omega) (fun cM2 => ?_)
      generalize putG M cM d.name true = M2 at *
      repeat (first | exact endA | refine wkP ?_ | refine opB (fun b => ?_) | refine opA (fun a' c' hc1 hc2 => ?_) | (apply GJ.and; exact rfl; intro hg) | (apply GJ.or; exact rfl; intro hg))
      rw [hy0]
      rw [hy0] at hst2 hul hpl
      obtain ⟨bD, hbD⟩ : ∃ z : Nat, z = b := ⟨_, rfl⟩
      subst hbD
      refine used_ok ho hc hT (i := y) (by omega) (by omega) (fun oa oc h1 h2 => ?_)
      have h3 := h2
      unfold maxLen at h3
      have hull : ((usedS s (y : Int)).map str).length = (usedS s (y : Int)).length := List.length_map ..
      generalize usedS s (y : Int) = us at *
      repeat (first | exact endA | refine wkP ?_ | refine opB (fun b => ?_) | refine opA (fun a' c' hc1 hc2 => ?_) | (apply GJ.and; exact rfl; intro hg) | (apply GJ.or; exact rfl; intro hg))
      refine LoopOk.at (ι := Nat × List (List UInt8 × Bool × Nat) × Nat) Keep.auto (fun (e, M, cM) => [(45, .int .i64 (e : Int))]) (fun (e, M, cM) => .sl oa us.length oc 9 1 (us.map str) :: .blk bD 46 (defV d) :: .obj bm (mapG str Value.bool M cM) :: .blk bS 25 (specV s a) :: own) (fun (e, M, cM) => e ≤ us.length ∧ MarkK (ndS s k ++ [d.name] ++ us.take e) M) (fun (e, M, cM) => us.length - e) (0, M2, cM2) ?_ Sub.auto Sup.auto ?_
      · exact ⟨Nat.zero_le _, by simpa using hput⟩
      clear hput
      rintro ⟨e, M, cM⟩ ⟨j1, j2⟩
      dsimp only [List.cons_append, List.nil_append] at j1 j2 ⊢
      by_cases he : e < us.length
      · obtain ⟨x, hx⟩ : ∃ x, us[e]? = some x := ⟨_, List.getElem?_eq_getElem he⟩
        have hxb : us[((e : Nat) : Int).toNat]! = x := by rw [Int.toNat_natCast, List.getElem!_eq_getElem?_getD, hx]; rfl
        have htk : us.take (e + 1) = us.take e ++ [x] := by rw [List.take_add_one, hx]; rfl
        have hxl := hul x (List.mem_of_getElem? hx)
        have hput := j2.put (x := x) (by unfold maxLen; omega) cM
        rw [List.append_assoc _ (us.take e), ← htk] at hput
        repeat (first | exact endA | refine wkP ?_ | refine opB (fun b => ?_) | refine opA (fun a' c' hc1 hc2 => ?_) | (apply GJ.and; exact rfl; intro hg) | (apply GJ.or; exact rfl; intro hg))
        rw [hxb]
        refine OpOk.mapUpdateG (kt := 9) (et := 4) (kv := str) (vv := Value.bool) (k := x) (v := true) rfl rfl rfl Tryz.underlying98 (KeyEnc.text Tryz.underlying9) j2.map (by unfold maxLen; omega) (fun cM2 => ?_)
        generalize putG M cM x true = M3 at *
        repeat (first | exact endA | refine wkP ?_ | refine opB (fun b => ?_) | refine opA (fun a' c' hc1 hc2 => ?_) | (apply GJ.and; exact rfl; intro hg) | (apply GJ.or; exact rfl; intro hg))
        refine Wk.id ⟨(e + 1, M3, cM2), ⟨rfl, ?_⟩, ?_, Sub.auto, Sup.auto⟩
        all_goals try dsimp only
        · exact ⟨by omega, hput⟩
        · omega
      · obtain rfl : e = us.length := by omega
        rw [List.take_length] at j2
        rw [← hst2] at j2
        repeat (first | exact endA | refine wkP ?_ | refine opB (fun b => ?_) | refine opA (fun a' c' hc1 hc2 => ?_) | (apply GJ.and; exact rfl; intro hg) | (apply GJ.or; exact rfl; intro hg))
        rw [show (s.defs.length : Int) - 1 - (k : Int) - 1 = (s.defs.length : Int) - 1 - ((k + 1 : Nat) : Int) by omega]
        refine Wk.id ⟨(k + 1, M, cM), ⟨rfl, ?_⟩, ?_, Sub.auto, Sup.auto⟩
        all_goals try dsimp only
        · exact ⟨by omega, j2⟩
        · omega
    · repeat (first | exact endA | refine wkP ?_ | refine opB (fun b => ?_) | refine opA (fun a' c' hc1 hc2 => ?_) | (apply GJ.and; exact rfl; intro hg) | (apply GJ.or; exact rfl; intro hg))
      refine OpOk.lookupG (kt := 9) (et := 4) (kv := str) (vv := Value.bool) (k := d.name) (z := .bool false) rfl rfl Tryz.underlying98 (KeyEnc.text Tryz.underlying9) i2.map (by unfold maxLen; omega) (by kernel_rfl) ?_
      rw [i2.get]
      by_cases hin : d.name ∈ ndS s k
      · have hst2 : ndS s (k + 1) = ndS s k ++ [d.name] ++ usedS s d.type := by rw [hst, stepN, if_pos (.inr hin)]
        rw [decide_eq_true hin]
        have hput := i2.put (x := d.name) (by unfold maxLen; omega) cM
        repeat (first | exact endA | refine wkP ?_ | refine opB (fun b => ?_) | refine opA (fun a' c' hc1 hc2 => ?_) | (apply GJ.and; exact rfl; intro hg) | (apply GJ.or; exact rfl; intro hg))
        refine OpOk.mapUpdateG (kt := 9) (et := 4) (kv := str) (vv := Value.bool) (k := d.name) (v := true) rfl rfl rfl Tryz.underlying98 (KeyEnc.text Tryz.underlying9) i2.map (by unfold maxLen; omega) (fun cM2 => ?_)
        generalize putG M cM d.name true = M2 at *
        repeat (first | exact endA | refine wkP ?_ | refine opB (fun b => ?_) | refine opA (fun a' c' hc1 hc2 => ?_) | (apply GJ.and; exact rfl; intro hg) | (apply GJ.or; exact rfl; intro hg))
        rw [hy0]
        rw [hy0] at hst2 hul hpl
        obtain ⟨bD, hbD⟩ : ∃ z : Nat, z = b := ⟨_, rfl⟩
        subst hbD
        refine used_ok ho hc hT (i := y) (by omega) (by omega) (fun oa oc h1 h2 => ?_)
        have h3 := h2
        unfold maxLen at h3
        have hull : ((usedS s (y : Int)).map str).length = (usedS s (y : Int)).length := List.length_map ..
        generalize usedS s (y : Int) = us at *
        repeat (first | exact endA | refine wkP ?_ | refine opB (fun b => ?_) | refine opA (fun a' c' hc1 hc2 => ?_) | (apply GJ.and; exact rfl; intro hg) | (apply GJ.or; exact rfl; intro hg))
        refine LoopOk.at (ι := Nat × List (List UInt8 × Bool × Nat) × Nat) Keep.auto (fun (e, M, cM) => [(45, .int .i64 (e : Int))]) (fun (e, M, cM) => .sl oa us.length oc 9 1 (us.map str) :: .blk bD 46 (defV d) :: .obj bm (mapG str Value.bool M cM) :: .blk bS 25 (specV s a) :: own) (fun (e, M, cM) => e ≤ us.length ∧ MarkK (ndS s k ++ [d.name] ++ us.take e) M) (fun (e, M, cM) => us.length - e) (0, M2, cM2) ?_ Sub.auto Sup.auto ?_
        · exact ⟨Nat.zero_le _, by simpa using hput⟩
        clear hput
        rintro ⟨e, M, cM⟩ ⟨j1, j2⟩
        dsimp only [List.cons_append, List.nil_append] at j1 j2 ⊢
        by_cases he : e < us.length
        · obtain ⟨x, hx⟩ : ∃ x, us[e]? = some x := ⟨_, List.getElem?_eq_getElem he⟩
          have hxb : us[((e : Nat) : Int).toNat]! = x := by rw [Int.toNat_natCast, List.getElem!_eq_getElem?_getD, hx]; rfl
          have htk : us.take (e + 1) = us.take e ++ [x] := by rw [List.take_add_one, hx]; rfl
          have hxl := hul x (List.mem_of_getElem? hx)
          have hput := j2.put (x := x) (by unfold maxLen; omega) cM
          rw [List.append_assoc _ (us.take e), ← htk] at hput
          repeat (first | exact endA | refine wkP ?_ | refine opB (fun b => ?_) | refine opA (fun a' c' hc1 hc2 => ?_) | (apply GJ.and; exact rfl; intro hg) | (apply GJ.or; exact rfl; intro hg))
          rw [hxb]
          refine OpOk.mapUpdateG (kt := 9) (et := 4) (kv := str) (vv := Value.bool) (k := x) (v := true) rfl rfl rfl Tryz.underlying98 (KeyEnc.text Tryz.underlying9) j2.map (by unfold maxLen; omega) (fun cM2 => ?_)
          generalize putG M cM x true = M3 at *
          repeat (first | exact endA | refine wkP ?_ | refine opB (fun b => ?_) | refine opA (fun a' c' hc1 hc2 => ?_) | (apply GJ.and; exact rfl; intro hg) | (apply GJ.or; exact rfl; intro hg))
          refine Wk.id ⟨(e + 1, M3, cM2), ⟨rfl, ?_⟩, ?_, Sub.auto, Sup.auto⟩
          all_goals try dsimp only
          · exact ⟨by omega, hput⟩
          · omega
        · obtain rfl : e = us.length := by omega
          rw [List.take_length] at j2
          rw [← hst2] at j2
          repeat (first | exact endA | refine wkP ?_ | refine opB (fun b => ?_) | refine opA (fun a' c' hc1 hc2 => ?_) | (apply GJ.and; exact rfl; intro hg) | (apply GJ.or; exact rfl; intro hg))
          rw [show (s.defs.length : Int) - 1 - (k : Int) - 1 = (s.defs.length : Int) - 1 - ((k + 1 : Nat) : Int) by omega]
          refine Wk.id ⟨(k + 1, M, cM), ⟨rfl, ?_⟩, ?_, Sub.auto, Sup.auto⟩
          all_goals try dsimp only
          · exact ⟨by omega, j2⟩
          · omega
      · have hst2 : ndS s (k + 1) = ndS s k := by rw [hst, stepN, if_neg (fun h => h.elim (fun h => hk0 (of_decide_eq_true h)) hin)]
        rw [decide_eq_false hin]
        rw [← hst2] at i2
        repeat (first | exact endA | refine wkP ?_ | refine opB (fun b => ?_) | refine opA (fun a' c' hc1 hc2 => ?_) | (apply GJ.and; exact rfl; intro hg) | (apply GJ.or; exact rfl; intro hg))
        rw [show (s.defs.length : Int) - 1 - (k : Int) - 1 = (s.defs.length : Int) - 1 - ((k + 1 : Nat) : Int) by omega]
        refine Wk.id ⟨(k + 1, M, cM), ⟨rfl, ?_⟩, ?_, Sub.auto, Sup.auto⟩
        all_goals try dsimp only
        · exact ⟨by omega, i2⟩
        · omega
  · obtain rfl : k = s.defs.length := by omega
    have hkn : K = K := rfl
    repeat (first | exact endA | refine wkP ?_ | refine opB (fun b => ?_) | refine opA (fun a' c' hc1 hc2 => ?_) | (apply GJ.and; exact rfl; intro hg) | (apply GJ.or; exact rfl; intro hg))
    refine LoopOk.at (ι := Nat × Option Addr × Nat) Keep.auto (fun (j, oa, oc) => [(55, .int .i64 (j : Int)), (4, .slice oa (outN s j).length oc)]) (fun (j, oa, oc) => .sl oa (outN s j).length oc 9 1 ((outN s j).map str) :: .obj bm (mapG str Value.bool M cM) :: .blk bS 25 (specV s a) :: own) (fun (j, oa, oc) => j ≤ s.defs.length ∧ (outN s j).length ≤ oc ∧ oc ≤ maxLen ∧ (outN s j).length ≤ j) (fun (j, oa, oc) => s.defs.length - j) (0, none, 0) ?_ Sub.auto Sup.auto ?_
    · exact ⟨Nat.zero_le _, Nat.le_refl _, Nat.zero_le _, Nat.le_refl _⟩
    rintro ⟨j, oa, oc⟩ ⟨j1, j2, j3, j4⟩
    dsimp only [List.cons_append, List.nil_append] at j1 j2 j3 j4 ⊢
    have j5 := j3
    unfold maxLen at j5
    by_cases hj : j < s.defs.length
    · obtain ⟨d, hd⟩ : ∃ d, s.defs[j]? = some d := ⟨_, List.getElem?_eq_getElem hj⟩
      have hde : s.defs[j] = d := Option.some.inj ((List.getElem?_eq_getElem hj).symm.trans hd)
      have hdd := defsV_drop s.defs hj
      rw [hde] at hdd
      have hdn := hT.defs d (List.mem_of_getElem? hd)
      have hsn : outN s (j + 1) = outN s j ++ (if d.name ∈ ndS s s.defs.length then [d.name] else []) := by
        unfold outN
        rw [List.take_add_one, hd, List.filter_append, List.map_append]
        congr 1
        by_cases h : d.name ∈ ndS s s.defs.length
        · rw [if_pos h]; simp [h]
        · rw [if_neg h]; simp [h]
      repeat (first | exact endA | refine wkP ?_ | refine opB (fun b => ?_) | refine opA (fun a' c' hc1 hc2 => ?_) | (apply GJ.and; exact rfl; intro hg) | (apply GJ.or; exact rfl; intro hg))
      rw [Int.toNat_natCast]
      refine OpOk.loadRow rfl rfl (LdN.at hr2 hdd) rfl ?_
      repeat (first | exact endA | refine wkP ?_ | refine opB (fun b => ?_) | refine opA (fun a' c' hc1 hc2 => ?_) | (apply GJ.and; exact rfl; intro hg) | (apply GJ.or; exact rfl; intro hg))
      refine OpOk.lookupG (kt := 9) (et := 4) (kv := str) (vv := Value.bool) (k := d.name) (z := .bool false) rfl rfl Tryz.underlying98 (KeyEnc.text Tryz.underlying9) i2.map (by unfold maxLen; omega) (by kernel_rfl) ?_
      rw [i2.get]
      by_cases hin : d.name ∈ ndS s s.defs.length
      · rw [if_pos hin] at hsn
        rw [decide_eq_true hin]
        have hcl2 : (outN s j).map str ++ [str d.name] = (outN s (j + 1)).map str := by rw [hsn]; simp
        have hnl : (outN s j).length + 1 = (outN s (j + 1)).length := by rw [hsn]; simp
        repeat (first | exact endA | refine wkP ?_ | refine opB (fun b => ?_) | refine opA (fun a' c' hc1 hc2 => ?_) | (apply GJ.and; exact rfl; intro hg) | (apply GJ.or; exact rfl; intro hg))
        rw [hcl2]
        rw [hnl] at hc1 ⊢
        refine Wk.id ⟨(j + 1, a', c'), ⟨rfl, ?_⟩, ?_, Sub.auto, Sup.auto⟩
        all_goals try dsimp only
        · exact ⟨by omega, hc1, hc2, by omega⟩
        · omega
      · rw [if_neg hin, List.append_nil] at hsn
        rw [decide_eq_false hin]
        rw [← hsn] at j2 j4 ⊢
        repeat (first | exact endA | refine wkP ?_ | refine opB (fun b => ?_) | refine opA (fun a' c' hc1 hc2 => ?_) | (apply GJ.and; exact rfl; intro hg) | (apply GJ.or; exact rfl; intro hg))
        refine Wk.id ⟨(j + 1, oa, oc), ⟨rfl, ?_⟩, ?_, Sub.auto, Sup.auto⟩
        all_goals try dsimp only
        · exact ⟨by omega, j2, j3, by omega⟩
        · omega
    · obtain rfl : j = s.defs.length := by omega
      have hfin : outN s s.defs.length = neededS s := by unfold outN neededS; rw [List.take_length]
      rw [hfin] at j2 j4 ⊢
      have hk2 := hk oa oc j2 j3
      repeat (first | exact endA | refine wkP ?_ | refine opB (fun b => ?_) | refine opA (fun a' c' hc1 hc2 => ?_) | (apply GJ.and; exact rfl; intro hg) | (apply GJ.or; exact rfl; intro hg))
      exact Wk.outS Sup.auto (.refl _) hk2
end
end Go.Proofs.YtefipginoakecaaGreatDoor
end
section
/- Law 14: what its laws ask first. -/
namespace Go.Proofs.YtefipginoakecaaGreatDoor
open Go Go.E
set_option linter.unusedVariables false
set_option linter.unusedSectionVars false
set_option linter.unusedSimpArgs false
set_option maxRecDepth 10000
def textA4 : List UInt8 := [97, 32, 61, 32, 117, 56, 59, 32, 98, 32, 61, 32, 123, 32, 120, 58, 32, 97, 59, 32, 121, 58, 32, 123, 32, 122, 58, 32, 117, 56, 59, 32, 125, 59, 32, 125, 59, 32, 109, 97, 105, 110, 32, 61, 32, 109, 97, 110, 121, 32, 98, 59]
def textB4 : List UInt8 := [109, 97, 105, 110, 32, 61, 32, 123, 32, 120, 58, 32, 117, 56, 59, 32, 121, 58, 32, 123, 32, 120, 58, 32, 117, 56, 59, 32, 125, 59, 32, 125, 59]
def textC4 : List UInt8 := [109, 97, 105, 110, 32, 61, 32, 97, 59, 32, 97, 32, 61, 32, 117, 56, 59]
def specA4 : SpecD := ⟨[⟨1, 1, false, false, false, 0, 255, [], [], 0, 0, [], [], [], [], 0, [], 0⟩,
  ⟨13, 0, false, false, false, 0, 0, [97], [], 0, 0, [], [], [], [], 0, [], 0⟩,
  ⟨1, 1, false, false, false, 0, 255, [], [], 0, 0, [], [], [], [], 0, [], 0⟩,
  ⟨5, 0, false, false, false, 0, 0, [], [], 0, 0, [], [], [⟨[122], 2, 0, [], []⟩], [], 0, [], 0⟩,
  ⟨5, 0, false, false, false, 0, 0, [], [], 0, 0, [], [], [⟨[120], 1, 0, [], []⟩, ⟨[121], 3, 0, [], []⟩], [], 0, [], 0⟩,
  ⟨13, 0, false, false, false, 0, 0, [98], [], 0, 0, [], [], [], [], 0, [], 0⟩,
  ⟨7, 0, false, false, false, 0, 0, [], [], 0, 0, [5], [], [], [], 0, [], 0⟩], [⟨[97], 0⟩, ⟨[98], 4⟩, ⟨[109, 97, 105, 110], 6⟩]⟩
def specB4 : SpecD := ⟨[⟨1, 1, false, false, false, 0, 255, [], [], 0, 0, [], [], [], [], 0, [], 0⟩,
  ⟨1, 1, false, false, false, 0, 255, [], [], 0, 0, [], [], [], [], 0, [], 0⟩,
  ⟨5, 0, false, false, false, 0, 0, [], [], 0, 0, [], [], [⟨[120], 1, 0, [], []⟩], [], 0, [], 0⟩,
  ⟨5, 0, false, false, false, 0, 0, [], [], 0, 0, [], [], [⟨[120], 0, 0, [], []⟩, ⟨[121], 2, 0, [], []⟩], [], 0, [], 0⟩], [⟨[109, 97, 105, 110], 3⟩]⟩
def specC4 : SpecD := ⟨[⟨13, 0, false, false, false, 0, 0, [97], [], 0, 0, [], [], [], [], 0, [], 0⟩,
  ⟨1, 1, false, false, false, 0, 255, [], [], 0, 0, [], [], [], [], 0, [], 0⟩], [⟨[109, 97, 105, 110], 0⟩, ⟨[97], 1⟩]⟩
theorem read_A4 : parseD textA4 = (specA4, 0, 0) := by kernel_rfl
theorem read_B4 : parseD textB4 = (specB4, 0, 0) := by kernel_rfl
theorem read_C4 : parseD textC4 = (specC4, 0, 0) := by kernel_rfl
theorem scope_A4 : scopeS specA4 = (0, 0) := by kernel_rfl
theorem scope_B4 : scopeS specB4 = (4, 2) := by kernel_rfl
theorem scope_C4 : scopeS specC4 = (140, 0) := by kernel_rfl
theorem checkd_A4 : checkD specA4 = 0 := by kernel_rfl
theorem defs_A4 : (defsS specA4 [] specA4.defs).1 = 0 := by kernel_rfl
theorem dep_A4 : depI specA4 (rootD specA4) = 4 := by kernel_rfl
theorem need_A4 : neededS specA4 = [[97], [98], [109, 97, 105, 110]] := by kernel_rfl
theorem used_A4 : usedS specA4 ((6 : Nat) : Int) = [[98]] := by kernel_rfl
theorem root_A4 : rootD specA4 = 6 := by kernel_rfl
theorem def_A4 : defD specA4.defs [97] = 0 := by kernel_rfl
theorem tgt_A4 : tgtS specA4 (fuelS specA4) ((0 : Nat) : Int) = 0 := by kernel_rfl
theorem text_in {s : SpecD} (h : (s.nodes.all (fun d => decide (d.text.length ≤ 300) && d.fields.all (fun f => decide (f.name.length ≤ 300))) && s.defs.all (fun d => decide (d.name.length ≤ 300))) = true) : TextIn s := by
  rw [Bool.and_eq_true, List.all_eq_true, List.all_eq_true] at h
  refine ⟨fun d hd f hf => ?_, fun d hd => ?_, fun d hd => ?_⟩
  · have h1 := h.1 d hd
    rw [Bool.and_eq_true, List.all_eq_true] at h1
    have := of_decide_eq_true (h1.2 f hf)
    omega
  · have h1 := h.1 d hd
    rw [Bool.and_eq_true] at h1
    have := of_decide_eq_true h1.1
    omega
  · have := of_decide_eq_true (h.2 d hd)
    omega
section
variable {ro : Ro} {own : Chs} {K : Value → Ro → Chs → Prop}
theorem indexT_ok {a : Option Addr} {n c : Nat} {l : List (List UInt8)} {x : List UInt8} (hr : Rds ro own a n c 1 (l.map str)) (hl : l.length = n) (h1 : x ∈ l → ∀ z : Nat, z < n → K (.int .i64 (z : Int)) ro own) (h2 : x ∉ l → K (.int .i64 (-1)) ro own) : CallOk Tryz.prog 59 #[.slice a n c, str x] ro own K := by
  subst hl
  have hm := hr.max
  have hle := hr.le
  unfold maxLen at hm
  refine CallOk.intro (args := [_, _]) (rs := [_]) T_ok Tryz.func59 Tryz.call59 rfl rfl (by kernel_rfl) rfl rfl ?_
  repeat (first | exact endA | refine wkP ?_ | refine opB (fun b => ?_) | refine opA (fun a' c' hc1 hc2 => ?_) | (apply GJ.and; exact rfl; intro hg) | (apply GJ.or; exact rfl; intro hg))
  refine LoopOk.at (ι := Nat) Keep.auto (fun i => [(8, .int .i64 (i : Int))]) (fun i => own) (fun i => i ≤ l.length ∧ x ∉ l.take i) (fun i => l.length - i) 0 ?_ Sub.auto Sup.auto ?_
  · exact ⟨Nat.zero_le _, by simp⟩
  rintro i ⟨i1, i2⟩
  dsimp only [List.cons_append, List.nil_append] at i1 i2 ⊢
  by_cases hi : i < l.length
  · obtain ⟨y, hy⟩ : ∃ y, l[i]? = some y := ⟨_, List.getElem?_eq_getElem hi⟩
    have hyb : l[((i : Nat) : Int).toNat]! = y := by rw [Int.toNat_natCast, List.getElem!_eq_getElem?_getD, hy]; rfl
    have htk : l.take (i + 1) = l.take i ++ [y] := by rw [List.take_add_one, hy]; rfl
    repeat (first | exact endA | refine wkP ?_ | refine opB (fun b => ?_) | refine opA (fun a' c' hc1 hc2 => ?_) | (apply GJ.and; exact rfl; intro hg) | (apply GJ.or; exact rfl; intro hg))
    rw [hyb]
    by_cases he : x = y
    · have hmem : x ∈ l := he ▸ List.mem_of_getElem? hy
      have hk2 := h1 hmem i hi
      refine Br.t he ?_
      repeat (first | exact endA | refine wkP ?_ | refine opB (fun b => ?_) | refine opA (fun a' c' hc1 hc2 => ?_) | (apply GJ.and; exact rfl; intro hg) | (apply GJ.or; exact rfl; intro hg))
      exact Wk.outS Sup.auto (.refl _) hk2
    · refine Br.f he ?_
      repeat (first | exact endA | refine wkP ?_ | refine opB (fun b => ?_) | refine opA (fun a' c' hc1 hc2 => ?_) | (apply GJ.and; exact rfl; intro hg) | (apply GJ.or; exact rfl; intro hg))
      refine Wk.id ⟨i + 1, ⟨rfl, ?_⟩, ?_, Sub.auto, Sup.auto⟩
      all_goals try dsimp only
      · refine ⟨by omega, ?_⟩
        rw [htk, List.mem_append, List.mem_singleton]
        exact fun h => h.elim i2 he
      · omega
  · obtain rfl : i = l.length := by omega
    rw [List.take_length] at i2
    have hk2 := h2 i2
    repeat (first | exact endA | refine wkP ?_ | refine opB (fun b => ?_) | refine opA (fun a' c' hc1 hc2 => ?_) | (apply GJ.and; exact rfl; intro hg) | (apply GJ.or; exact rfl; intro hg))
    exact Wk.outS Sup.auto (.refl _) hk2
theorem containsT_ok {a : Option Addr} {n c : Nat} {l : List (List UInt8)} {x : List UInt8} (hr : Rds ro own a n c 1 (l.map str)) (hl : l.length = n) (hk : K (.bool (decide (x ∈ l))) ro own) : CallOk Tryz.prog 21 #[.slice a n c, str x] ro own K := by
  refine CallOk.intro (args := [_, _]) (rs := [_]) T_ok Tryz.func21 Tryz.call21 rfl rfl (by kernel_rfl) rfl rfl ?_
  repeat (first | exact endA | refine wkP ?_ | refine opB (fun b => ?_) | refine opA (fun a' c' hc1 hc2 => ?_) | (apply GJ.and; exact rfl; intro hg) | (apply GJ.or; exact rfl; intro hg))
  refine indexT_ok hr hl (fun hx z hz => ?_) (fun hx => ?_)
  · rw [decide_eq_true hx] at hk
    repeat (first | exact endA | refine wkP ?_ | refine opB (fun b => ?_) | refine opA (fun a' c' hc1 hc2 => ?_) | (apply GJ.and; exact rfl; intro hg) | (apply GJ.or; exact rfl; intro hg))
    exact Wk.outV Sup.auto hk (congrArg Value.bool (show true = decide ((z : Int) ≥ 0) by simp))
  · rw [decide_eq_false hx] at hk
    repeat (first | exact endA | refine wkP ?_ | refine opB (fun b => ?_) | refine opA (fun a' c' hc1 hc2 => ?_) | (apply GJ.and; exact rfl; intro hg) | (apply GJ.or; exact rfl; intro hg))
    exact Wk.outS Sup.auto (.refl _) hk
set_option maxHeartbeats 8000000 in
theorem checks14_ok (hS : SpOk ro) (hM : MaxOk ro) (hk : ∀ ro', Le ro ro' → K (.bool true) ro' own) : CallOk Tryz.prog 13 #[] ro own K := by
  refine CallOk.intro (args := []) (rs := [_]) T_ok Tryz.func13 Tryz.call13 rfl rfl (by kernel_rfl) rfl rfl ?_
  repeat (first | exact endA | refine wkP ?_ | refine opB (fun b => ?_) | refine opA (fun a' c' hc1 hc2 => ?_) | (apply GJ.and; exact rfl; intro hg) | (apply GJ.or; exact rfl; intro hg))
  refine args_eq (bs := #[str textA4]) (by kernel_rfl) ?_
  refine parse_ok hS hM (by decide) (fun ro1 a1 hl1 h1 => ?_)
  rw [read_A4] at h1 ⊢
  dsimp only at h1 ⊢
  have hS1 := hS.le hl1
  have hM1 := hM.le hl1
  repeat (first | exact endA | refine wkP ?_ | refine opB (fun b => ?_) | refine opA (fun a' c' hc1 hc2 => ?_) | (apply GJ.and; exact rfl; intro hg) | (apply GJ.or; exact rfl; intro hg))
  refine args_eq (bs := #[str textB4]) (by kernel_rfl) ?_
  refine parse_ok hS1 hM1 (by decide) (fun ro2 a2 hl2 h2 => ?_)
  rw [read_B4] at h2 ⊢
  dsimp only at h2 ⊢
  have hS2 := hS1.le hl2
  have hM2 := hM1.le hl2
  repeat (first | exact endA | refine wkP ?_ | refine opB (fun b => ?_) | refine opA (fun a' c' hc1 hc2 => ?_) | (apply GJ.and; exact rfl; intro hg) | (apply GJ.or; exact rfl; intro hg))
  refine args_eq (bs := #[str textC4]) (by kernel_rfl) ?_
  refine parse_ok hS2 hM2 (by decide) (fun ro3 a3 hl3 h3 => ?_)
  rw [read_C4] at h3 ⊢
  dsimp only at h3 ⊢
  have hM3 := hM2.le hl3
  have h13 := (h1.lift hl2).lift hl3
  have h23 := h2.lift hl3
  repeat (first | exact endA | refine wkP ?_ | refine opB (fun b => ?_) | refine opA (fun a' c' hc1 hc2 => ?_) | (apply GJ.and; exact rfl; intro hg) | (apply GJ.or; exact rfl; intro hg))
  refine scheck_ok h13 hM3 (text_in (by kernel_rfl)) (fun ro4 hl4 => ?_)
  rw [scope_A4]
  dsimp only [flV]
  have h14 := h13.lift hl4
  have h24 := h23.lift hl4
  have h34 := h3.lift hl4
  have hM4 := hM3.le hl4
  repeat (first | exact endA | refine wkP ?_ | refine opB (fun b => ?_) | refine opA (fun a' c' hc1 hc2 => ?_) | (apply GJ.and; exact rfl; intro hg) | (apply GJ.or; exact rfl; intro hg))
  refine OpOk.neqStruct (q := true) rfl rfl rfl (by rfl) (by kernel_rfl) (by kernel_rfl) (by kernel_rfl) ?_
  repeat (first | exact endA | refine wkP ?_ | refine opB (fun b => ?_) | refine opA (fun a' c' hc1 hc2 => ?_) | (apply GJ.and; exact rfl; intro hg) | (apply GJ.or; exact rfl; intro hg))
  refine scheck_ok h24 hM4 (text_in (by kernel_rfl)) (fun ro5 hl5 => ?_)
  rw [scope_B4]
  dsimp only [flV]
  have hM5 := hM4.le hl5
  repeat (first | exact endA | refine wkP ?_ | refine opB (fun b => ?_) | refine opA (fun a' c' hc1 hc2 => ?_) | (apply GJ.and; exact rfl; intro hg) | (apply GJ.or; exact rfl; intro hg))
  refine scheck_ok (h34.lift hl5) hM5 (text_in (by kernel_rfl)) (fun ro6 hl6 => ?_)
  rw [scope_C4]
  dsimp only [flV]
  have h16 := (h14.lift hl5).lift hl6
  have RK := rank_ok checkd_A4 defs_A4
  have hTA : TextIn specA4 := text_in (by kernel_rfl)
  have hk6 := hk ro6 (((((hl1.trans hl2).trans hl3).trans hl4).trans hl5).trans hl6)
  repeat (first | exact endA | refine wkP ?_ | refine opB (fun b => ?_) | refine opA (fun a' c' hc1 hc2 => ?_) | (apply GJ.and; exact rfl; intro hg) | (apply GJ.or; exact rfl; intro hg))
  refine deep_ok h16 checkd_A4 RK ?_
  rw [dep_A4]
  repeat (first | exact endA | refine wkP ?_ | refine opB (fun b => ?_) | refine opA (fun a' c' hc1 hc2 => ?_) | (apply GJ.and; exact rfl; intro hg) | (apply GJ.or; exact rfl; intro hg))
  refine needed_ok h16 checkd_A4 hTA (fun oa oc g1 g2 => ?_)
  rw [need_A4]
  repeat (first | exact endA | refine wkP ?_ | refine opB (fun b => ?_) | refine opA (fun a' c' hc1 hc2 => ?_) | (apply GJ.and; exact rfl; intro hg) | (apply GJ.or; exact rfl; intro hg))
  refine root_ok h16 ?_
  rw [root_A4]
  repeat (first | exact endA | refine wkP ?_ | refine opB (fun b => ?_) | refine opA (fun a' c' hc1 hc2 => ?_) | (apply GJ.and; exact rfl; intro hg) | (apply GJ.or; exact rfl; intro hg))
  refine used_ok h16 checkd_A4 hTA (i := 6) (by decide) (of_decide_eq_true (by kernel_rfl)) (fun oa2 oc2 g3 g4 => ?_)
  rw [used_A4]
  repeat (first | exact endA | refine wkP ?_ | refine opB (fun b => ?_) | refine opA (fun a' c' hc1 hc2 => ?_) | (apply GJ.and; exact rfl; intro hg) | (apply GJ.or; exact rfl; intro hg))
  refine def_ok h16 ?_
  rw [def_A4]
  repeat (first | exact endA | refine wkP ?_ | refine opB (fun b => ?_) | refine opA (fun a' c' hc1 hc2 => ?_) | (apply GJ.and; exact rfl; intro hg) | (apply GJ.or; exact rfl; intro hg))
  refine target_ok h16 RK (i := 0) (by decide) ?_
  rw [tgt_A4]
  repeat (first | exact endA | refine wkP ?_ | refine opB (fun b => ?_) | refine opA (fun a' c' hc1 hc2 => ?_) | (apply GJ.and; exact rfl; intro hg) | (apply GJ.or; exact rfl; intro hg))
  exact Wk.outS Sup.auto (.refl _) hk6
end
end Go.Proofs.YtefipginoakecaaGreatDoor
end
section
/- What a specification's parts read as. -/
namespace Go.Proofs.YtefipginoakecaaGreatDoor
open Go Go.E
set_option linter.unusedVariables false
set_option maxRecDepth 10000
section
variable {ro : Ro} {cs : List Value}
theorem flat_one {α : Type} (f : α → Value) (l : List α) : (l.map fun n => [f n]).flatten = l.map f := by
  induction l with
  | nil => rfl
  | cons a l ih => simp only [List.map_cons, List.flatten_cons, ih]; rfl
theorem read_field (h : Wf Tryz.prog ro 56 cs) : ∃ f : FieldD, cs = fieldV f ∧ (In64 f.type ∧ In64 f.derive) ∧ f.name.length ≤ reachBytes := by
  have hu := Tryz.underlying56
  have hl : cs.length = 5 := (Wf.struct_inv hu h).1.trans (by kernel_rfl)
  match cs, hl, h with
  | [v0, v1, v2, v3, v4], _, h =>
    obtain ⟨l0, rfl, hl0⟩ := Wf.str_inv Tryz.underlying9 (Wf.fld (i := 0) (off := 0) (k := 1) hu h rfl rfl rfl (by kernel_rfl))
    obtain ⟨n1, rfl, w1⟩ := Wf.int_inv Tryz.underlying3 (Wf.fld (i := 1) (off := 1) (k := 1) hu h rfl rfl rfl (by kernel_rfl))
    obtain ⟨n2, rfl, w2⟩ := Wf.int_inv Tryz.underlying3 (Wf.fld (i := 2) (off := 2) (k := 1) hu h rfl rfl rfl (by kernel_rfl))
    obtain ⟨l3, rfl, hl3⟩ := Wf.str_inv Tryz.underlying9 (Wf.fld (i := 3) (off := 3) (k := 1) hu h rfl rfl rfl (by kernel_rfl))
    obtain ⟨l4, rfl, hl4⟩ := Wf.str_inv Tryz.underlying9 (Wf.fld (i := 4) (off := 4) (k := 1) hu h rfl rfl rfl (by kernel_rfl))
    exact ⟨⟨l0, n1, n2, l3, l4⟩, rfl, ⟨wf_i64 w1, wf_i64 w2⟩, hl0⟩
theorem read_case (h : Wf Tryz.prog ro 113 cs) : ∃ f : CaseD, cs = caseV f ∧ In64 f.type ∧ f.value < 18446744073709551616 := by
  have hu := Tryz.underlying113
  have hl : cs.length = 2 := (Wf.struct_inv hu h).1.trans (by kernel_rfl)
  match cs, hl, h with
  | [v0, v1], _, h =>
    obtain ⟨n0, rfl, w0⟩ := Wf.int_inv Tryz.underlying33 (Wf.fld (i := 0) (off := 0) (k := 1) hu h rfl rfl rfl (by kernel_rfl))
    obtain ⟨n1, rfl, w1⟩ := Wf.int_inv Tryz.underlying3 (Wf.fld (i := 1) (off := 1) (k := 1) hu h rfl rfl rfl (by kernel_rfl))
    obtain ⟨m0, rfl, b0⟩ := wf_u64 w0
    exact ⟨⟨m0, n1⟩, rfl, wf_i64 w1, b0⟩
theorem read_int (h : Wf Tryz.prog ro 3 cs) : ∃ n : Int, cs = [.int .i64 n] ∧ In64 n := by
  cases h with
  | int h hw => rw [Tryz.underlying3] at h; cases h; exact ⟨_, rfl, wf_i64 hw⟩
  | bool h => rw [Tryz.underlying3] at h; cases h
  | str h => rw [Tryz.underlying3] at h; cases h
  | slice h => rw [Tryz.underlying3] at h; cases h
  | struct h hl hw => rw [Tryz.underlying3] at h; cases h
  | array h => rw [Tryz.underlying3] at h; cases h
  | nought h => rw [Tryz.underlying3] at h; cases h
  | other h => exact absurd rfl ((h _ Tryz.underlying3).1 .i64)
theorem read_bool (h : Wf Tryz.prog ro 4 cs) : ∃ b : Bool, cs = [.bool b] ∧ True := by
  cases h with
  | bool h => exact ⟨_, rfl, trivial⟩
  | int h hw => rw [Tryz.underlying4] at h; cases h
  | str h => rw [Tryz.underlying4] at h; cases h
  | slice h => rw [Tryz.underlying4] at h; cases h
  | struct h hl hw => rw [Tryz.underlying4] at h; cases h
  | array h => rw [Tryz.underlying4] at h; cases h
  | nought h => rw [Tryz.underlying4] at h; cases h
  | other h => exact absurd rfl (h _ Tryz.underlying4).2.1
theorem read_nodeT (h : Wf Tryz.prog ro 41 cs) : ∃ (d : NodeD) (x : NodeA), cs = nodeV d x ∧ NodeIn d ∧ NodeOk ro d x ∧ (∀ f ∈ d.fields, f.name.length ≤ reachBytes) ∧ d.text.length ≤ reachBytes ∧ d.ereg.length ≤ reachBytes ∧ d.reg.length ≤ reachBytes := by
  have hu := Tryz.underlying41
  have he := Tryz.underlying35
  have hl : cs.length = 18 := (Wf.struct_inv hu h).1.trans (by kernel_rfl)
  match cs, hl, h with
  | [v0, v1, v2, v3, v4, v5, v6, v7, v8, v9, v10, v11, v12, v13, v14, v15, v16, v17], _, h =>
    obtain ⟨n0, rfl, w0⟩ := Wf.int_inv Tryz.underlying3 (Wf.fld (i := 0) (off := 0) (k := 1) hu h rfl rfl rfl (by kernel_rfl))
    obtain ⟨n1, rfl, w1⟩ := Wf.int_inv Tryz.underlying3 (Wf.fld (i := 1) (off := 1) (k := 1) hu h rfl rfl rfl (by kernel_rfl))
    obtain ⟨b2, rfl⟩ := Wf.bool_inv Tryz.underlying4 (Wf.fld (i := 2) (off := 2) (k := 1) hu h rfl rfl rfl (by kernel_rfl))
    obtain ⟨b3, rfl⟩ := Wf.bool_inv Tryz.underlying4 (Wf.fld (i := 3) (off := 3) (k := 1) hu h rfl rfl rfl (by kernel_rfl))
    obtain ⟨b4, rfl⟩ := Wf.bool_inv Tryz.underlying4 (Wf.fld (i := 4) (off := 4) (k := 1) hu h rfl rfl rfl (by kernel_rfl))
    obtain ⟨n5, rfl, w5⟩ := Wf.int_inv Tryz.underlying33 (Wf.fld (i := 5) (off := 5) (k := 1) hu h rfl rfl rfl (by kernel_rfl))
    obtain ⟨n6, rfl, w6⟩ := Wf.int_inv Tryz.underlying33 (Wf.fld (i := 6) (off := 6) (k := 1) hu h rfl rfl rfl (by kernel_rfl))
    obtain ⟨l7, rfl, hl7⟩ := Wf.str_inv Tryz.underlying9 (Wf.fld (i := 7) (off := 7) (k := 1) hu h rfl rfl rfl (by kernel_rfl))
    have hx : Wf Tryz.prog ro 35 [v8, v9, v10] := Wf.fld (i := 8) (off := 8) (k := 3) hu h rfl rfl rfl (by kernel_rfl)
    obtain ⟨l8, rfl, hl8⟩ := Wf.str_inv Tryz.underlying9 (Wf.fld (i := 0) (off := 0) (k := 1) he hx rfl rfl rfl (by kernel_rfl))
    obtain ⟨n9, rfl, w9⟩ := Wf.int_inv Tryz.underlying33 (Wf.fld (i := 1) (off := 1) (k := 1) he hx rfl rfl rfl (by kernel_rfl))
    obtain ⟨n10, rfl, w10⟩ := Wf.int_inv Tryz.underlying33 (Wf.fld (i := 2) (off := 2) (k := 1) he hx rfl rfl rfl (by kernel_rfl))
    obtain ⟨ka, kn, kc, kcs, rfl, kr, kl, kw⟩ := Wf.slice_inv (s := 1) Tryz.underlying36 (by kernel_rfl) (by omega) (Wf.fld (i := 9) (off := 11) (k := 1) hu h rfl rfl rfl (by kernel_rfl))
    obtain ⟨la, ln, lc, lcs, rfl, lr, ll, lw⟩ := Wf.slice_inv (s := 1) Tryz.underlying37 (by kernel_rfl) (by omega) (Wf.fld (i := 10) (off := 12) (k := 1) hu h rfl rfl rfl (by kernel_rfl))
    obtain ⟨fa, fn, fc, fcs, rfl, fr, fl, fw⟩ := Wf.slice_inv (s := 5) Tryz.underlying38 (by kernel_rfl) (by omega) (Wf.fld (i := 11) (off := 13) (k := 1) hu h rfl rfl rfl (by kernel_rfl))
    obtain ⟨l14, rfl, hl14⟩ := Wf.str_inv Tryz.underlying9 (Wf.fld (i := 12) (off := 14) (k := 1) hu h rfl rfl rfl (by kernel_rfl))
    obtain ⟨n15, rfl, w15⟩ := Wf.int_inv Tryz.underlying33 (Wf.fld (i := 13) (off := 15) (k := 1) hu h rfl rfl rfl (by kernel_rfl))
    obtain ⟨ca, cn, cc, ccs, rfl, cr, cl, cw⟩ := Wf.slice_inv (s := 2) Tryz.underlying39 (by kernel_rfl) (by omega) (Wf.fld (i := 14) (off := 16) (k := 1) hu h rfl rfl rfl (by kernel_rfl))
    obtain ⟨n17, rfl, w17⟩ := Wf.int_inv Tryz.underlying3 (Wf.fld (i := 15) (off := 17) (k := 1) hu h rfl rfl rfl (by kernel_rfl))
    obtain ⟨m5, rfl, b5⟩ := wf_u64 w5
    obtain ⟨m6, rfl, b6⟩ := wf_u64 w6
    obtain ⟨m9, rfl, b9⟩ := wf_u64 w9
    obtain ⟨m10, rfl, b10⟩ := wf_u64 w10
    obtain ⟨m15, rfl, b15⟩ := wf_u64 w15
    obtain ⟨ks, rfl, hk⟩ := all_read (V := fun n : Int => [Value.int .i64 n]) (fun i x hx => read_int (kw i x hx))
    obtain ⟨ls, rfl, _⟩ := all_read (V := fun b : Bool => [Value.bool b]) (fun i x hx => read_bool (lw i x hx))
    obtain ⟨fs, rfl, hf⟩ := all_read (V := fieldV) (fun i x hx => read_field (fw i x hx))
    obtain ⟨cases, rfl, hc⟩ := all_read (V := caseV) (fun i x hx => read_case (cw i x hx))
    rw [List.length_map] at kl ll fl cl
    subst kl; subst ll; subst fl; subst cl
    have e1 : (ks.map fun n : Int => [Value.int .i64 n]).flatten = kidsV ks := flat_one _ _
    have e2 : (ls.map fun b : Bool => [Value.bool b]).flatten = lastV ls := flat_one _ _
    rw [e1] at kr
    rw [e2] at lr
    exact ⟨⟨n0, n1, b2, b3, b4, m5, m6, l7, l8, m9, m10, ks, ls, fs, l14, m15, cases, n17⟩, ⟨ka, kc, la, lc, fa, fc, ca, cc⟩, rfl,
      ⟨wf_i64 w0, wf_i64 w1, b5, b6, b9, b10, b15, wf_i64 w17, hk, fun f h => (hf f h).1, hc⟩, ⟨kr, lr, by rw [fieldsV, List.flatMap_def]; exact fr, by rw [casesV, List.flatMap_def]; exact cr⟩, fun f h => (hf f h).2, hl7, hl8, hl14⟩
end
end Go.Proofs.YtefipginoakecaaGreatDoor
end
