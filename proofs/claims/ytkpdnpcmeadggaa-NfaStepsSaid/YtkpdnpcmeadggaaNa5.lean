/- Contracts of nfa: Clone of numbers, what Reach finds. -/
import Derived.Test.YtkpdnpcmeadggaaNa4
import Derived.Test.YtkpdnpcmeadggaaSlS
namespace Go.E
open Go
theorem Ld.slAt' {ro : Ro} {own : Chs} {a : Option Addr} {n c s : Nat} {t : TypeId} {cs : List Value} {f : Chunk → Chs} {o k : Nat} {v : Value} [hb : HasSl own a n c t s cs f] (ho : o = ao a + k) (hv : cs[k]? = some v) : Ld ro own (ab a) o v := by subst ho; exact Ld.hasSl hv
theorem OpOk.storeSlAt' {P : Program} {T : TT} [hT : TTab P T] {ty : TypeId} {env : Env} {ro : Ro} {own : Chs} {K : Value → Ro → Chs → Prop} {t : TypeId} {x y : Operand} {a : Option Addr} {o k : Nat} {v : Value} {n c s : Nat} {t0 : TypeId} {cs : List Value} {f : Chunk → Chs} (hx : ev env x = some (.pointer (some ⟨ab a, o, none⟩))) (hy : ev env y = some v) (ht : cell1 T t = true) (h1 : v.oneCell' = true)
    [hb : HasSl own a n c t0 s cs f] (ho : o = ao a + k) (hlt : k < cs.length) (hk : K undef ro (f (.sl a n c t0 s (cs.set k v)))) : OpOk P (.store t x y) ty env ro own K := by
  subst ho; exact OpOk.storeSl hx hy ht h1 hlt hk
theorem Sub2.weak {e e' : Env} {t : Nat} {u : Value} (h : Sub2 e e') (hn : look e t = none) : Sub2 e ((t, u) :: e') := fun x v hx => by
  show (bif Nat.beq t x then some u else look e' x) = some v
  cases hb : Nat.beq t x with
  | false => exact h x v hx
  | true => rw [Nat.eq_of_beq_eq_true hb] at hn; rw [hn] at hx; cases hx
theorem Sub2.both {e e' : Env} {t : Nat} {u : Value} (h : Sub2 e e') : Sub2 ((t, u) :: e) ((t, u) :: e') := fun x v hx => by
  change (bif Nat.beq t x then some u else look e x) = some v at hx
  show (bif Nat.beq t x then some u else look e' x) = some v
  cases hb : Nat.beq t x with
  | false => rw [hb] at hx; exact h x v hx
  | true => rw [hb] at hx; exact hx
/-- Each of two slices is appended to, in whatever order. -/
def app2 (x y n m : Nat) (t : TypeId) (vs ws : List Value) (env : Env) (ro : Ro) (r : Chs) : Kt := fun env' ro' own' => ro' = ro ∧ ∃ (a : Option Addr) (c : Nat) (b : Option Addr) (d : Nat), (n ≤ c ∧ c ≤ maxLen) ∧ (m ≤ d ∧ d ≤ maxLen) ∧ Sub2 ((y, .slice b m d) :: (x, .slice a n c) :: env) env' ∧ Sup own' (.sl b m d t 1 ws :: .sl a n c t 1 vs :: r)
theorem app2.ok {P : Program} {T : TT} {all : List Oper} {B : Chs} {fo : Fo} {k : Kt} {env : Env} {ro : Ro} {own : Chs} (x y n m : Nat) (t : TypeId) (vs ws : List Value) (r : Chs)
    (h : vFo P T all B (app2 x y n m t vs ws env ro r) fo env ro own) (hk : ∀ (a : Option Addr) (c : Nat) (b : Option Addr) (d : Nat), (n ≤ c ∧ c ≤ maxLen) → (m ≤ d ∧ d ≤ maxLen) → k ((y, .slice b m d) :: (x, .slice a n c) :: env) ro (.sl b m d t 1 ws :: .sl a n c t 1 vs :: r)) : AllOk (fun Φ => vFo P T all B Φ fo env ro own) k ro :=
  ⟨_, h, fun env' ro' own' _ ⟨e, a, c, b, d, h1, h2, h3, h4⟩ => ⟨_, _, h3, h4, by rw [e]; exact hk a c b d h1 h2⟩⟩
theorem vOne.at {P : Program} {T : TT} {all : List Oper} {i : Nat} {k : Kt} {env : Env} {ro : Ro} {own : Chs} {d : Option Nat} {op : Op} {ty : TypeId} {pos : String} {af : Array Edge} (hi : all[i]? = some ⟨d, op, ty, pos, af, none⟩) (h : vOp P T op ty d k env ro own) : vOne P T all i k env ro own := by
  unfold vOne; rw [hi]; exact h
theorem vFo.cons {P : Program} {T : TT} {all : List Oper} {B : Chs} {Φ : Kt} {i : Nat} {s b : Fo} {env : Env} {ro : Ro} {own : Chs} (h1 : vOne P T all i (fun env' ro' own' => Stop (Sup own' B ∧ vFo P T all B Φ s env' ro' own')) env ro own) (h2 : vFo P T all B Φ b env ro own) : vFo P T all B Φ (.cons i s b) env ro own := ⟨h1, h2⟩
theorem vFo.nil {P : Program} {T : TT} {all : List Oper} {B : Chs} {Φ : Kt} {env : Env} {ro : Ro} {own : Chs} : vFo P T all B Φ .nil env ro own := trivial
theorem vFo.stop {own B : Chs} {p : Prop} (h1 : Sup own B) (h2 : p) : Stop (Sup own B ∧ p) := ⟨⟨h1, h2⟩⟩
theorem vFo.leaf {P : Program} {T : TT} {all : List Oper} {B : Chs} {Φ : Kt} {env : Env} {ro : Ro} {own : Chs} (h : Φ env ro own) : vFo P T all B Φ .leaf env ro own := h
end Go.E
namespace Go.Proofs.Ytkpdnpcmeadggaa
open Go Go.E
set_option linter.unusedVariables false
set_option linter.unusedSimpArgs false
set_option maxRecDepth 10000
def boolsV (l : List Bool) : List Value := l.map fun z => .bool z
def natsV (l : List Nat) : List Value := l.map fun (z : Nat) => .int .i64 (z : Int)
theorem natsV_one (l : List Nat) : ∀ u ∈ natsV l, u.oneCell' = true := fun u hu => by obtain ⟨c, _, rfl⟩ := List.mem_map.1 hu; rfl
theorem natsV_len (l : List Nat) : (natsV l).length = l.length := by simp [natsV]
theorem boolsV_len (l : List Bool) : (boolsV l).length = l.length := by simp [boolsV]
theorem boolsV_set (o : List Bool) (k : Nat) (b : Bool) : (boolsV o).set k (.bool b) = boolsV (o.set k b) := by simp [boolsV, List.map_set]
theorem count_set : ∀ (o : List Bool) (k : Nat), o[k]? = some false → (o.set k true).count false + 1 = o.count false
  | [], k, h => by simp at h
  | x :: o, 0, h => by simp at h; subst h; simp
  | x :: o, k + 1, h => by
    have := count_set o k (by simpa using h)
    rw [List.set_cons_succ, List.count_cons, List.count_cons]; omega
theorem mark_get {o : List Bool} {k : Nat} (hk : k < o.length) (i : Nat) : (o.set k true)[i]? = some true ↔ i = k ∨ o[i]? = some true := by
  by_cases e : k = i
  · subst e; simp [hk]
  · rw [List.getElem?_set_ne e]
    exact ⟨.inr, fun h => h.resolve_left (fun e2 => e e2.symm)⟩
/-- What has been found so far. -/
structure Seen (rows : RowsN) (list : List Int) (o : List Bool) (out w : List Nat) : Prop where
  len : o.length = rows.length
  mem : ∀ i : Nat, o[i]? = some true ↔ i ∈ out
  rch : ∀ i ∈ out, Rch rows list i
  nd : out.Nodup
  work : ∀ i ∈ w, i ∈ out
  cnt : out.length + o.count false = rows.length
def ShutN (rows : RowsN) (out : List Nat) (ex : Nat → Prop) : Prop := ∀ i ∈ out, ¬ ex i → ∀ j ∈ freeTo rows i, j ∈ out
theorem Seen.init (rows : RowsN) (list : List Int) : Seen rows list (List.replicate rows.length false) [] [] where
  len := by simp
  mem i := by simp [List.getElem?_replicate]
  rch i hi := by simp at hi
  nd := List.nodup_nil
  work i hi := by simp at hi
  cnt := by simp
theorem Seen.push {rows : RowsN} {list : List Int} {o : List Bool} {out w : List Nat} {k : Nat} (h : Seen rows list o out w) (hk : o[k]? = some false) (hr : Rch rows list k) : Seen rows list (o.set k true) (out ++ [k]) (w ++ [k]) where
  len := by simp [h.len]
  mem i := by
    have hl : k < o.length := (List.getElem?_eq_some_iff.1 hk).1
    rw [mark_get hl, h.mem, List.mem_append, List.mem_singleton]
    exact ⟨fun h => h.symm, fun h => h.symm⟩
  rch i hi := by
    rcases List.mem_append.1 hi with hi | hi
    · exact h.rch i hi
    · simp only [List.mem_singleton] at hi; subst hi; exact hr
  nd := by
    rw [List.nodup_append]
    refine ⟨h.nd, (by simp), fun x hx y hy e => ?_⟩
    simp only [List.mem_singleton] at hy
    subst hy; subst e
    have := (h.mem x).2 hx
    rw [hk] at this; cases this
  work i hi := by
    rw [List.mem_append] at hi ⊢
    exact hi.imp (h.work i) id
  cnt := by
    have h1 := count_set o k hk
    have h2 := h.cnt
    simp only [List.length_append, List.length_singleton]; omega
theorem ShutN.push {rows : RowsN} {out w : List Nat} {k i : Nat} (h : ShutN rows out (fun z => z ∈ w ∨ z = i)) : ShutN rows (out ++ [k]) (fun z => z ∈ w ++ [k] ∨ z = i) := by
  intro z hz hne y hy
  have hne : ¬ ((z ∈ w ∨ z = k) ∨ z = i) := by
    have := hne
    dsimp only at this
    rwa [List.mem_append, List.mem_singleton] at this
  rcases List.mem_append.1 hz with hz | hz
  · exact List.mem_append.2 (.inl (h z hz (fun e => hne (e.imp .inl id)) y hy))
  · simp only [List.mem_singleton] at hz
    exact absurd (.inl (.inr hz)) hne
/-- All that is found, in order, is what is reached. -/
theorem Seen.all {rows : RowsN} {list : List Int} {o : List Bool} {out l : List Nat} (ht : ToIn rows) (h : Seen rows list o out []) (hs : ShutN rows out (fun z => z ∈ ([] : List Nat))) (hb : ∀ z : Nat, (z : Int) ∈ list → z < rows.length → z ∈ out) (hp : l.Perm out) (hl : l.Pairwise (· ≤ ·)) : l = reachN rows list := by
  have hnd : l.Nodup := hp.symm.nodup h.nd
  refine sorted_ext ?_ (reach_sorted _ _) (fun x => ?_)
  · refine (hl.and hnd).imp ?_
    intro a b hab
    omega
  · rw [hp.mem_iff, reach_iff ht]
    refine ⟨h.rch x, fun hr => ?_⟩
    induction hr with
    | base h1 h2 => exact hb _ h1 h2
    | step h1 h2 ih => exact hs _ ih (by simp) _ h2
section
variable {ro : Ro} {own r : Chs} {K : Value → Ro → Chs → Prop} {g : Chunk → Chs}
theorem cloneI_ok {a : Option Addr} {l : List Nat} {n c : Nat} (hc1 : n ≤ c) (hc2 : c ≤ maxLen) (hl : l.length = n) (hb : n ≤ 65536)
    (hk : ∀ a' c', n ≤ c' → c' ≤ maxLen → K (.slice a' n c') ro (.sl a' n c' 3 1 (natsV l) :: .sl a n c 3 1 (natsV l) :: own)) :
    CallOk Try.prog 24 #[.slice a n c] ro (.sl a n c 3 1 (natsV l) :: own) K := by
  have hm := hc2
  unfold maxLen at hm
  refine CallOk.intro (args := [_]) (rs := [_]) T_ok Try.func24 Try.call24 rfl rfl (by kernel_rfl) rfl rfl ?_
  cases a with
  | none =>
    repeat (first
      | (show _ ∧ _; exact ⟨rfl, rfl, rfl⟩)
      | refine wkP ?_
      | (show OpOk _ _ _ _ _ _ _; first | refine opB (fun b => ?_) | refine opA (fun a' c' hc1 hc2 => ?_))
      | (show GJ _ _ _ _ _ _ _; first | (apply GJ.and; exact rfl; intro hg) | (apply GJ.or; exact rfl; intro hg)))
    refine Wk.know (n = 0) (fun h hs => Decidable.byContradiction fun hn => by
      obtain ⟨b, hb⟩ := Sat.slSome (Take.hit _ _) hs hn
      cases hb) (fun hn => ?_)
    subst hn
    obtain rfl := List.eq_nil_of_length_eq_zero hl
    exact Wk.own _ (Sup.nilc (Sup.all _)) (Wk.id (hk none 0 (Nat.le_refl _) (Nat.zero_le _)))
  | some z =>
    repeat (first
      | (show _ ∧ _; exact ⟨rfl, rfl, rfl⟩)
      | refine wkP ?_
      | (show OpOk _ _ _ _ _ _ _; first | refine opB (fun b => ?_) | refine opA (fun a' c' hc1 hc2 => ?_))
      | (show GJ _ _ _ _ _ _ _; first | (apply GJ.and; exact rfl; intro hg) | (apply GJ.or; exact rfl; intro hg)))
    rw [show (some z).isNone = false from rfl]
    repeat (first
      | (show _ ∧ _; exact ⟨rfl, rfl, rfl⟩)
      | refine wkP ?_
      | (show OpOk _ _ _ _ _ _ _; first | refine opB (fun b => ?_) | refine opA (fun a' c' hc1 hc2 => ?_))
      | (show GJ _ _ _ _ _ _ _; first | (apply GJ.and; exact rfl; intro hg) | (apply GJ.or; exact rfl; intro hg)))
    refine OpOk.appendE (m := n) (ys := natsV l) rfl rfl rfl rfl (Rds.hasSl hc1 hc2 (by simp [natsV, hl])) (natsV_one l) (by omega) (fun a' c' h3 h4 => ?_)
    repeat (first
      | (show _ ∧ _; exact ⟨rfl, rfl, rfl⟩)
      | refine wkP ?_
      | (show OpOk _ _ _ _ _ _ _; first | refine opB (fun b => ?_) | refine opA (fun a' c' hc1 hc2 => ?_))
      | (show GJ _ _ _ _ _ _ _; first | (apply GJ.and; exact rfl; intro hg) | (apply GJ.or; exact rfl; intro hg)))
    exact Wk.id (hk a' c' h3 h4)
theorem sortN_ok {a : Option Addr} {c n : Nat} {l : List Nat} (hl : l.length = n) (hn : n ≤ 65536)
    (hk : ∀ l2 : List Nat, l2.Perm l → l2.Pairwise (· ≤ ·) → K (.tuple #[]) ro (.sl a n c 3 1 (natsV l2) :: own)) : CallOk Try.prog 25 #[.slice a n c] ro (.sl a n c 3 1 (natsV l) :: own) K := by
  subst hl
  have h := @sortI_ok ro own K a c 3 (intsN l) (by simp [intsN]; omega)
  have e1 : (intsN l).length = l.length := by simp [intsN]
  have e2 : (intsN l).map (Value.int .i64) = natsV l := by unfold intsN natsV; rw [List.map_map]; rfl
  rw [e1, e2] at h
  refine h ?_
  have hp := List.mergeSort_perm (intsN l) (fun x y => decide (x ≤ y))
  have hs := List.pairwise_mergeSort (le := fun (x y : Int) => decide (x ≤ y)) (fun a b c h1 h2 => by simp at *; omega) (fun a b => by simp; omega) (intsN l)
  generalize (intsN l).mergeSort (fun x y => decide (x ≤ y)) = m at *
  obtain ⟨l2, hm⟩ : ∃ l2 : List Nat, m = intsN l2 := by
    refine ⟨m.map Int.toNat, ?_⟩
    unfold intsN
    rw [List.map_map]
    refine ((List.map_congr_left (g := id) (fun x hx => ?_)).trans (List.map_id m)).symm
    obtain ⟨y, hy, rfl⟩ := List.mem_map.1 (hp.mem_iff.1 hx)
    rfl
  subst hm
  have e3 : (intsN l2).map (Value.int .i64) = natsV l2 := by unfold intsN natsV; rw [List.map_map]; rfl
  rw [e3]
  refine hk l2 ?_ ?_
  · have := hp.map Int.toNat
    unfold intsN at this
    rw [List.map_map, List.map_map] at this
    simpa [Function.comp_def] using this
  · unfold intsN at hs
    rw [List.pairwise_map] at hs
    exact hs.imp (fun {a b} h => by simpa using h)
end
/-- All that comes in front of a place has been seen to. -/
def BaseN (rows : RowsN) (l : List Int) (out : List Nat) : Prop := ∀ z : Nat, (z : Int) ∈ l → z < rows.length → z ∈ out
theorem BaseN.snoc {rows : RowsN} {list : List Int} {i : Nat} {z : Int} {out : List Nat} (hz : list[i]? = some z) (h : BaseN rows (list.take i) out) (h2 : ∀ k : Nat, z = (k : Int) → k < rows.length → k ∈ out) : BaseN rows (list.take (i + 1)) out := by
  intro k hk hl
  rw [List.take_add_one, hz] at hk
  rcases List.mem_append.1 hk with hk | hk
  · exact h k hk hl
  · simp at hk
    exact h2 k hk.symm hl
theorem BaseN.up {rows : RowsN} {l : List Int} {out out' : List Nat} (h : BaseN rows l out) (hs : ∀ x ∈ out, x ∈ out') : BaseN rows l out' := fun z h1 h2 => hs z (h z h1 h2)
section
variable {ro : Ro} {own r : Chs} {K : Value → Ro → Chs → Prop} {g : Chunk → Chs}
set_option maxHeartbeats 4000000 in
theorem nreach_ok {a : NfaD} {v : List Value} {list : List Int} {al : Option Addr} {nl cl : Nat} (hv : AutoOk ro a v) (ha : NfaOk a) (hr : Rds ro own al nl cl 1 (list.map (Value.int .i64))) (hnl : list.length = nl)
    (hk : ∀ a' c', (reachN a.rows list).length ≤ c' → c' ≤ maxLen → K (.slice a' (reachN a.rows list).length c') ro (.sl a' (reachN a.rows list).length c' 3 1 (natsV (reachN a.rows list)) :: own)) :
    CallOk Try.prog 15 #[.agg v.toArray, .slice al nl cl] ro own K := by
  obtain ⟨ad, cp, hs, rfl, hrs, hrw⟩ := hv
  have hle := ha.le
  have hto := ha.to
  have hmx := hr.max
  have hncl := hr.le
  have hmr := hrs.max
  have hncr := hrs.le
  unfold maxLen at hmx hmr
  subst hnl
  refine CallOk.intro (args := [_, _]) (rs := [_]) T_ok Try.func15 Try.call15 rfl rfl (by kernel_rfl) rfl rfl ?_
  repeat (first
    | (show _ ∧ _; exact ⟨rfl, rfl, rfl⟩)
    | refine wkP ?_
    | (show OpOk _ _ _ _ _ _ _; first | refine opB (fun b => ?_) | refine opA (fun a' c' hc1 hc2 => ?_))
    | (show GJ _ _ _ _ _ _ _; first | (apply GJ.and; exact rfl; intro hg) | (apply GJ.or; exact rfl; intro hg)))
  rename_i b1
  obtain ⟨bO, hbO⟩ : ∃ z : Nat, z = b := ⟨_, rfl⟩
  subst hbO
  rw [Int.toNat_natCast, show List.replicate a.rows.length (Value.bool false) = boolsV (List.replicate a.rows.length false) by simp [boolsV]]
  refine LoopOk.at (ι := Nat × List Bool × List Nat × Option Addr × Nat) Keep.auto (fun (i, o, w, aw, cw) => [(19, .int .i64 (i : Int)), (6, .slice aw w.length cw)]) (fun (i, o, w, aw, cw) => .sl aw w.length cw 3 1 (natsV w) :: .sl (some ⟨bO, 0, none⟩) a.rows.length a.rows.length 4 1 (boolsV o) :: .blk b1 34 [.slice ad a.rows.length cp, .int .i64 a.last] :: own) (fun (i, o, w, aw, cw) => i ≤ list.length ∧ Seen a.rows list o w w ∧ BaseN a.rows (list.take i) w ∧ w.length ≤ cw ∧ cw ≤ maxLen) (fun (i, o, w, aw, cw) => list.length - i) (0, List.replicate a.rows.length false, [], none, 0) ?_ Sub.auto Sup.auto ?_
  · exact ⟨Nat.zero_le _, Seen.init _ _, (fun z hz => by simp at hz), Nat.le_refl _, Nat.zero_le _⟩
  rintro ⟨i, o, w, aw, cw⟩ ⟨i1, i2, i3, i4, i5⟩
  dsimp only [List.cons_append, List.nil_append] at i1 i2 i3 i4 i5 ⊢
  have hcnt := i2.cnt
  have hO := (boolsV_len o).trans i2.len
  have hW := natsV_len w
  by_cases hi : i < list.length
  · obtain ⟨z, hz⟩ : ∃ z, list[i]? = some z := ⟨_, List.getElem?_eq_getElem hi⟩
    have hgz : (list.map (Value.int .i64))[i]? = some (.int .i64 z) := by simp [hz]
    have hzb : list[((i : Nat) : Int).toNat]! = z := by rw [Int.toNat_natCast, List.getElem!_eq_getElem?_getD, hz]; rfl
    by_cases hz0 : z < 0
    · repeat (first
        | (show _ ∧ _; exact ⟨rfl, rfl, rfl⟩)
        | refine wkP ?_
        | (show OpOk _ _ _ _ _ _ _; first | refine opB (fun b => ?_) | refine opA (fun a' c' hc1 hc2 => ?_))
        | (show GJ _ _ _ _ _ _ _; first | (apply GJ.and; exact rfl; intro hg) | (apply GJ.or; exact rfl; intro hg)))
      repeat (first
        | (show _ ∧ _; exact ⟨rfl, rfl, rfl⟩)
        | refine wkP ?_
        | (show OpOk _ _ _ _ _ _ _; first | refine opB (fun b => ?_) | refine opA (fun a' c' hc1 hc2 => ?_))
        | (show GJ _ _ _ _ _ _ _; first | (apply GJ.and; exact rfl; intro hg) | (apply GJ.or; exact rfl; intro hg)))
      refine Wk.id ⟨(i + 1, o, w, aw, cw), ⟨rfl, ?_⟩, ?_, Sub.auto, Sup.auto⟩
      all_goals try dsimp only
      · exact ⟨by omega, i2, i3.snoc hz (fun k e => by omega), i4, i5⟩
      · omega
    · obtain ⟨k, rfl⟩ : ∃ k : Nat, z = (k : Int) := ⟨z.toNat, by omega⟩
      by_cases hkn : ¬ k < a.rows.length
      · repeat (first
          | (show _ ∧ _; exact ⟨rfl, rfl, rfl⟩)
          | refine wkP ?_
          | (show OpOk _ _ _ _ _ _ _; first | refine opB (fun b => ?_) | refine opA (fun a' c' hc1 hc2 => ?_))
          | (show GJ _ _ _ _ _ _ _; first | (apply GJ.and; exact rfl; intro hg) | (apply GJ.or; exact rfl; intro hg)))
        repeat (first
          | (show _ ∧ _; exact ⟨rfl, rfl, rfl⟩)
          | refine wkP ?_
          | (show OpOk _ _ _ _ _ _ _; first | refine opB (fun b => ?_) | refine opA (fun a' c' hc1 hc2 => ?_))
          | (show GJ _ _ _ _ _ _ _; first | (apply GJ.and; exact rfl; intro hg) | (apply GJ.or; exact rfl; intro hg)))
        refine Wk.id ⟨(i + 1, o, w, aw, cw), ⟨rfl, ?_⟩, ?_, Sub.auto, Sup.auto⟩
        all_goals try dsimp only
        · exact ⟨by omega, i2, i3.snoc hz (fun k2 e h => by omega), i4, i5⟩
        · omega
      have hkn := Decidable.of_not_not hkn
      obtain ⟨q, hq⟩ : ∃ q, o[k]? = some q := ⟨_, List.getElem?_eq_getElem (by rw [i2.len]; exact hkn)⟩
      have hgq : (boolsV o)[k]? = some (.bool q) := by simp [boolsV, hq]
      cases q with
      | true =>
        repeat (first
          | (show _ ∧ _; exact ⟨rfl, rfl, rfl⟩)
          | refine wkP ?_
          | (show OpOk _ _ _ _ _ _ _; first | refine opB (fun b => ?_) | refine opA (fun a' c' hc1 hc2 => ?_))
          | (show GJ _ _ _ _ _ _ _; first | (apply GJ.and; exact rfl; intro hg) | (apply GJ.or; exact rfl; intro hg)))
        refine OpOk.load rfl rfl (Ld.slAt' (k := k) (by rw [hzb]; rfl) hgq) ?_
        repeat (first
          | (show _ ∧ _; exact ⟨rfl, rfl, rfl⟩)
          | refine wkP ?_
          | (show OpOk _ _ _ _ _ _ _; first | refine opB (fun b => ?_) | refine opA (fun a' c' hc1 hc2 => ?_))
          | (show GJ _ _ _ _ _ _ _; first | (apply GJ.and; exact rfl; intro hg) | (apply GJ.or; exact rfl; intro hg)))
        repeat (first
          | (show _ ∧ _; exact ⟨rfl, rfl, rfl⟩)
          | refine wkP ?_
          | (show OpOk _ _ _ _ _ _ _; first | refine opB (fun b => ?_) | refine opA (fun a' c' hc1 hc2 => ?_))
          | (show GJ _ _ _ _ _ _ _; first | (apply GJ.and; exact rfl; intro hg) | (apply GJ.or; exact rfl; intro hg)))
        refine Wk.id ⟨(i + 1, o, w, aw, cw), ⟨rfl, ?_⟩, ?_, Sub.auto, Sup.auto⟩
        all_goals try dsimp only
        · exact ⟨by omega, i2, i3.snoc hz (fun k2 e h => by rw [← Int.ofNat.inj e]; exact (i2.mem k).1 hq), i4, i5⟩
        · omega
      | false =>
        have hpu := i2.push hq (.base (List.mem_of_getElem? hz) hkn)
        repeat (first
          | (show _ ∧ _; exact ⟨rfl, rfl, rfl⟩)
          | refine wkP ?_
          | (show OpOk _ _ _ _ _ _ _; first | refine opB (fun b => ?_) | refine opA (fun a' c' hc1 hc2 => ?_))
          | (show GJ _ _ _ _ _ _ _; first | (apply GJ.and; exact rfl; intro hg) | (apply GJ.or; exact rfl; intro hg)))
        refine OpOk.load rfl rfl (Ld.slAt' (k := k) (by rw [hzb]; rfl) hgq) ?_
        repeat (first
          | (show _ ∧ _; exact ⟨rfl, rfl, rfl⟩)
          | refine wkP ?_
          | (show OpOk _ _ _ _ _ _ _; first | refine opB (fun b => ?_) | refine opA (fun a' c' hc1 hc2 => ?_))
          | (show GJ _ _ _ _ _ _ _; first | (apply GJ.and; exact rfl; intro hg) | (apply GJ.or; exact rfl; intro hg)))
        refine OpOk.storeSlAt' (k := k) rfl rfl rfl rfl (by rw [hzb]; rfl) (by rw [hO]; exact hkn) ?_
        rw [boolsV_set]
        repeat (first
          | (show _ ∧ _; exact ⟨rfl, rfl, rfl⟩)
          | refine wkP ?_
          | (show OpOk _ _ _ _ _ _ _; first | refine opB (fun b => ?_) | refine opA (fun a' c' hc1 hc2 => ?_))
          | (show GJ _ _ _ _ _ _ _; first | (apply GJ.and; exact rfl; intro hg) | (apply GJ.or; exact rfl; intro hg)))
        rw [hzb, show natsV w ++ [Value.int .i64 (k : Int)] = natsV (w ++ [k]) by simp [natsV], show w.length + 1 = (w ++ [k]).length by simp]
        rw [show w.length + 1 = (w ++ [k]).length by simp] at hc1
        repeat (first
          | (show _ ∧ _; exact ⟨rfl, rfl, rfl⟩)
          | refine wkP ?_
          | (show OpOk _ _ _ _ _ _ _; first | refine opB (fun b => ?_) | refine opA (fun a' c' hc1 hc2 => ?_))
          | (show GJ _ _ _ _ _ _ _; first | (apply GJ.and; exact rfl; intro hg) | (apply GJ.or; exact rfl; intro hg)))
        refine Wk.id ⟨(i + 1, o.set k true, w ++ [k], a', c'), ⟨rfl, ?_⟩, ?_, Sub.auto, Sup.auto⟩
        all_goals try dsimp only
        · exact ⟨by omega, hpu, (i3.up (fun x h => List.mem_append.2 (.inl h))).snoc hz (fun k2 e h => by rw [← Int.ofNat.inj e]; simp), hc1, hc2⟩
        · omega
  · obtain rfl : i = list.length := by omega
    rw [List.take_length] at i3
    repeat (first
      | (show _ ∧ _; exact ⟨rfl, rfl, rfl⟩)
      | refine wkP ?_
      | (show OpOk _ _ _ _ _ _ _; first | refine opB (fun b => ?_) | refine opA (fun a' c' hc1 hc2 => ?_))
      | (show GJ _ _ _ _ _ _ _; first | (apply GJ.and; exact rfl; intro hg) | (apply GJ.or; exact rfl; intro hg)))
    refine cloneI_ok i4 i5 rfl (by omega) (fun a0 c0 hc1 hc2 => ?_)
    repeat (first
      | (show _ ∧ _; exact ⟨rfl, rfl, rfl⟩)
      | refine wkP ?_
      | (show OpOk _ _ _ _ _ _ _; first | refine opB (fun b => ?_) | refine opA (fun a' c' hc1 hc2 => ?_))
      | (show GJ _ _ _ _ _ _ _; first | (apply GJ.and; exact rfl; intro hg) | (apply GJ.or; exact rfl; intro hg)))
    refine LoopOk.at (ι := List Bool × (List Nat × Option Addr × Nat) × (List Nat × Option Addr × Nat)) Keep.auto (fun (o, (w, aw, cw), (out, ao, co)) => [(6, .slice aw w.length cw), (9, .slice ao out.length co)]) (fun (o, (w, aw, cw), (out, ao, co)) => .sl ao out.length co 3 1 (natsV out) :: .sl aw w.length cw 3 1 (natsV w) :: .sl (some ⟨bO, 0, none⟩) a.rows.length a.rows.length 4 1 (boolsV o) :: .blk b1 34 [.slice ad a.rows.length cp, .int .i64 a.last] :: own) (fun (o, (w, aw, cw), (out, ao, co)) => Seen a.rows list o out w ∧ ShutN a.rows out (fun z => z ∈ w) ∧ BaseN a.rows list out ∧ (w.length ≤ cw ∧ cw ≤ maxLen) ∧ (out.length ≤ co ∧ co ≤ maxLen) ∧ w.length + o.count false ≤ a.rows.length) (fun (o, (w, aw, cw), (out, ao, co)) => w.length + o.count false) (o, (w, aw, cw), (w, a0, c0)) ?_ Sub.auto Sup.auto ?_
    · exact ⟨i2, (fun x hx h => absurd hx h), i3, ⟨i4, i5⟩, ⟨hc1, hc2⟩, by omega⟩
    clear i2 i3 i4 i5 hc1 hc2 hcnt hO hW
    rintro ⟨o, ⟨w, aw, cw⟩, ⟨out, ao, co⟩⟩ ⟨i1, i2, i3, i4, i5, i6⟩
    dsimp only [List.cons_append, List.nil_append] at i1 i2 i3 i4 i5 i6 ⊢
    repeat (first
      | (show _ ∧ _; exact ⟨rfl, rfl, rfl⟩)
      | refine wkP ?_
      | (show OpOk _ _ _ _ _ _ _; first | refine opB (fun b => ?_) | refine opA (fun a' c' hc1 hc2 => ?_))
      | (show GJ _ _ _ _ _ _ _; first | (apply GJ.and; exact rfl; intro hg) | (apply GJ.or; exact rfl; intro hg)))
    refine Br.cases (fun hg => ?_) (fun hg => ?_)
    · obtain ⟨w, i, rfl⟩ : ∃ w' i, w = w' ++ [i] := ⟨w.dropLast, w.getLast (by intro e; subst e; simp at hg), (List.dropLast_concat_getLast _).symm⟩
      rw [List.length_append, List.length_singleton] at i4 i6 hg ⊢
      have hL : (natsV (w ++ [i])).length = (w.length + 1) * 1 := by simp [natsV]
      have hgi : (natsV (w ++ [i]))[w.length]? = some (.int .i64 (i : Int)) := by simp [natsV]
      have hsh : (natsV (w ++ [i])).take (w.length * 1) = natsV w := by
        rw [Nat.mul_one]
        simp only [natsV, List.map_append]
        rw [List.take_left' (List.length_map _)]
      have hio := i1.work i (by simp)
      have hiR := rch_lt hto (i1.rch i hio)
      obtain ⟨row, hrow⟩ : ∃ row, a.rows[i]? = some row := ⟨_, List.getElem?_eq_getElem hiR⟩
      obtain ⟨ar, cr, hhs, hrr⟩ := hrw.row i row hrow
      repeat (first
        | (show _ ∧ _; exact ⟨rfl, rfl, rfl⟩)
        | refine wkP ?_
        | (show OpOk _ _ _ _ _ _ _; first | refine opB (fun b => ?_) | refine opA (fun a' c' hc1 hc2 => ?_))
        | (show GJ _ _ _ _ _ _ _; first | (apply GJ.and; exact rfl; intro hg) | (apply GJ.or; exact rfl; intro hg)))
      refine OpOk.load rfl rfl (Ld.slAt' (k := w.length) (by congr 1; omega) hgi) ?_
      repeat (first
        | (show _ ∧ _; exact ⟨rfl, rfl, rfl⟩)
        | refine wkP ?_
        | (show OpOk _ _ _ _ _ _ _; first | refine opB (fun b => ?_) | refine opA (fun a' c' hc1 hc2 => ?_))
        | (show GJ _ _ _ _ _ _ _; first | (apply GJ.and; exact rfl; intro hg) | (apply GJ.or; exact rfl; intro hg)))
      rw [Int.toNat_natCast]
      refine OpOk.shrink (a := aw) (m := w.length) (Nat.le_succ _) ?_
      rw [hsh]
      refine OpOk.load rfl rfl (Ld.rs hrs hhs) ?_
      repeat (first
        | (show _ ∧ _; exact ⟨rfl, rfl, rfl⟩)
        | refine wkP ?_
        | (show OpOk _ _ _ _ _ _ _; first | refine opB (fun b => ?_) | refine opA (fun a' c' hc1 hc2 => ?_))
        | (show GJ _ _ _ _ _ _ _; first | (apply GJ.and; exact rfl; intro hg) | (apply GJ.or; exact rfl; intro hg)))
      have hc0 : ∀ s, cutA aw (Int.toNat 0) cw s = aw := fun s => cutA_zero aw cw s
      rw [hc0, show (((w.length + 1 : Nat) : Int) - 1).toNat - Int.toNat 0 = w.length by omega, show cw - Int.toNat 0 = cw from rfl]
      obtain ⟨M, hM⟩ : ∃ M, M = w.length + o.count false := ⟨_, rfl⟩
      have hfr : ∀ x ∈ row, x.free = true → Rch a.rows list x.to := fun x h1 h2 => .step (i1.rch i hio) (by unfold freeTo; rw [hrow]; exact List.mem_map.2 ⟨x, List.mem_filter.2 ⟨h1, h2⟩, rfl⟩)
      have hrl := hrr.le
      have hrm := hrr.max
      unfold maxLen at hrm
      refine LoopOk.at (ι := Nat × List Bool × (List Nat × Option Addr × Nat) × (List Nat × Option Addr × Nat)) Keep.auto (fun (j, o, (w, aw, cw), (out, ao, co)) => [(68, .int .i64 (j : Int)), (6, .slice aw w.length cw), (9, .slice ao out.length co)]) (fun (j, o, (w, aw, cw), (out, ao, co)) => .sl ao out.length co 3 1 (natsV out) :: .sl aw w.length cw 3 1 (natsV w) :: .sl (some ⟨bO, 0, none⟩) a.rows.length a.rows.length 4 1 (boolsV o) :: .blk b1 34 [.slice ad a.rows.length cp, .int .i64 a.last] :: own) (fun (j, o, (w, aw, cw), (out, ao, co)) => j ≤ row.length ∧ Seen a.rows list o out w ∧ ShutN a.rows out (fun z => z ∈ w ∨ z = i) ∧ BaseN a.rows list out ∧ (∀ x ∈ row.take j, x.free = true → x.to ∈ out) ∧ (w.length ≤ cw ∧ cw ≤ maxLen) ∧ (out.length ≤ co ∧ co ≤ maxLen) ∧ w.length + o.count false ≤ M ∧ i ∈ out) (fun (j, o, (w, aw, cw), (out, ao, co)) => row.length - j) (0, o, (w, aw, cw), (out, ao, co)) ?_ Sub.auto Sup.auto ?_
      · exact ⟨Nat.zero_le _, ⟨i1.len, i1.mem, i1.rch, i1.nd, fun z h => i1.work z (by simp [h]), i1.cnt⟩, (fun z h1 h2 => i2 z h1 (fun h3 => h2 (by simpa using h3))), i3, by simp, ⟨by omega, i4.2⟩, i5, by omega, hio⟩
      clear hL hgi hsh
      rintro ⟨j, o', ⟨w', aw', cw'⟩, ⟨out', ao', co'⟩⟩ ⟨j1, j2, j3, j4, j5, j6, j7, j8, j9⟩
      dsimp only [List.cons_append, List.nil_append] at j1 j2 j3 j4 j5 j6 j7 j8 j9 ⊢
      by_cases hj : j < row.length
      · obtain ⟨x, hx⟩ : ∃ x, row[j]? = some x := ⟨_, List.getElem?_eq_getElem hj⟩
        have htk : row.take (j + 1) = row.take j ++ [x] := by rw [List.take_add_one, hx]; rfl
        have hnx : ∀ out2 : List Nat, (∀ y ∈ out', y ∈ out2) → (x.free = true → x.to ∈ out2) → ∀ y ∈ row.take (j + 1), y.free = true → y.to ∈ out2 := fun out2 h1 h2 y hy hyf => by
          rw [htk, List.mem_append, List.mem_singleton] at hy
          rcases hy with hy | rfl
          · exact h1 _ (j5 y hy hyf)
          · exact h2 hyf
        have hxR := hfr x (List.mem_of_getElem? hx)
        have hcnt := j2.cnt
        have hO := (boolsV_len o').trans j2.len
        have hW := natsV_len w'
        have hW2 := natsV_len out'
        have hlx := edgesV_drop row j x hx
        obtain ⟨k, xs, xf⟩ := x
        dsimp only [edgeV] at hxR hnx hlx
        repeat (first
          | (show _ ∧ _; exact ⟨rfl, rfl, rfl⟩)
          | refine wkP ?_
          | (show OpOk _ _ _ _ _ _ _; first | refine opB (fun b => ?_) | refine opA (fun a' c' hc1 hc2 => ?_))
          | (show GJ _ _ _ _ _ _ _; first | (apply GJ.and; exact rfl; intro hg) | (apply GJ.or; exact rfl; intro hg)))
        rw [Int.toNat_natCast]
        refine OpOk.loadRow rfl rfl (LdN.at hrr hlx) rfl ?_
        cases xf with
        | false =>
          repeat (first
            | (show _ ∧ _; exact ⟨rfl, rfl, rfl⟩)
            | refine wkP ?_
            | (show OpOk _ _ _ _ _ _ _; first | refine opB (fun b => ?_) | refine opA (fun a' c' hc1 hc2 => ?_))
            | (show GJ _ _ _ _ _ _ _; first | (apply GJ.and; exact rfl; intro hg) | (apply GJ.or; exact rfl; intro hg)))
          refine Wk.id ⟨(j + 1, o', (w', aw', cw'), (out', ao', co')), ⟨rfl, ?_⟩, ?_, Sub.auto, Sup.auto⟩
          all_goals try dsimp only
          · exact ⟨by omega, j2, j3, j4, hnx out' (fun _ h => h) (fun h => by cases h), j6, j7, j8, j9⟩
          · omega
        | true =>
          have hxR := hxR rfl
          have hkn := rch_lt hto hxR
          obtain ⟨q, hq⟩ : ∃ q, o'[k]? = some q := ⟨_, List.getElem?_eq_getElem (by rw [j2.len]; exact hkn)⟩
          have hgq : (boolsV o')[k]? = some (.bool q) := by simp [boolsV, hq]
          cases q with
          | true =>
            repeat (first
              | (show _ ∧ _; exact ⟨rfl, rfl, rfl⟩)
              | refine wkP ?_
              | (show OpOk _ _ _ _ _ _ _; first | refine opB (fun b => ?_) | refine opA (fun a' c' hc1 hc2 => ?_))
              | (show GJ _ _ _ _ _ _ _; first | (apply GJ.and; exact rfl; intro hg) | (apply GJ.or; exact rfl; intro hg)))
            refine OpOk.load rfl rfl (Ld.slAt' (k := k) (by congr 1) hgq) ?_
            repeat (first
              | (show _ ∧ _; exact ⟨rfl, rfl, rfl⟩)
              | refine wkP ?_
              | (show OpOk _ _ _ _ _ _ _; first | refine opB (fun b => ?_) | refine opA (fun a' c' hc1 hc2 => ?_))
              | (show GJ _ _ _ _ _ _ _; first | (apply GJ.and; exact rfl; intro hg) | (apply GJ.or; exact rfl; intro hg)))
            repeat (first
              | (show _ ∧ _; exact ⟨rfl, rfl, rfl⟩)
              | refine wkP ?_
              | (show OpOk _ _ _ _ _ _ _; first | refine opB (fun b => ?_) | refine opA (fun a' c' hc1 hc2 => ?_))
              | (show GJ _ _ _ _ _ _ _; first | (apply GJ.and; exact rfl; intro hg) | (apply GJ.or; exact rfl; intro hg)))
            refine Wk.id ⟨(j + 1, o', (w', aw', cw'), (out', ao', co')), ⟨rfl, ?_⟩, ?_, Sub.auto, Sup.auto⟩
            all_goals try dsimp only
            · exact ⟨by omega, j2, j3, j4, hnx out' (fun _ h => h) (fun _ => (j2.mem k).1 hq), j6, j7, j8, j9⟩
            · omega
          | false =>
            have hpu := j2.push hq hxR
            have hcs := count_set o' k hq
            repeat (first
              | (show _ ∧ _; exact ⟨rfl, rfl, rfl⟩)
              | refine wkP ?_
              | (show OpOk _ _ _ _ _ _ _; first | refine opB (fun b => ?_) | refine opA (fun a' c' hc1 hc2 => ?_))
              | (show GJ _ _ _ _ _ _ _; first | (apply GJ.and; exact rfl; intro hg) | (apply GJ.or; exact rfl; intro hg)))
            refine OpOk.load rfl rfl (Ld.slAt' (k := k) (by congr 1) hgq) ?_
            repeat (first
              | (show _ ∧ _; exact ⟨rfl, rfl, rfl⟩)
              | refine wkP ?_
              | (show OpOk _ _ _ _ _ _ _; first | refine opB (fun b => ?_) | refine opA (fun a' c' hc1 hc2 => ?_))
              | (show GJ _ _ _ _ _ _ _; first | (apply GJ.and; exact rfl; intro hg) | (apply GJ.or; exact rfl; intro hg)))
            refine OpOk.storeSlAt' (k := k) rfl rfl rfl rfl (by congr 1) (by rw [hO]; exact hkn) ?_
            rw [boolsV_set]
            repeat (first
              | (show _ ∧ _; exact ⟨rfl, rfl, rfl⟩)
              | refine wkT ?_
              | (show OpOk _ _ _ _ _ _ _; first | refine opB (fun b => ?_) | refine opA (fun a' c' hc1 hc2 => ?_))
              | (show GJ _ _ _ _ _ _ _; first | (apply GJ.and; exact rfl; intro hg) | (apply GJ.or; exact rfl; intro hg)))
            obtain ⟨bE, hbE⟩ : ∃ z : Nat, z = b := ⟨_, rfl⟩
            subst hbE
            refine Bs.mk ⟨[.blk bE 66 [.int .i64 (k : Int), wV xs.a, wV xs.b, wV xs.c, wV xs.d, .bool true]], Sup.auto, ?_⟩
            repeat (first
              | (show _ ∧ _; exact ⟨rfl, rfl, rfl⟩)
              | refine wkT ?_
              | (show OpOk _ _ _ _ _ _ _; first | refine opB (fun b => ?_) | refine opA (fun a' c' hc1 hc2 => ?_))
              | (show GJ _ _ _ _ _ _ _; first | (apply GJ.and; exact rfl; intro hg) | (apply GJ.or; exact rfl; intro hg)))
            refine app2.ok 6 9 (w'.length + 1) (out'.length + 1) 3 (natsV w' ++ [.int .i64 (k : Int)]) (natsV out' ++ [.int .i64 (k : Int)]) (.blk bE 66 [.int .i64 (k : Int), wV xs.a, wV xs.b, wV xs.c, wV xs.d, .bool true] :: .sl (some ⟨bO, 0, none⟩) a.rows.length a.rows.length 4 1 (boolsV (o'.set k true)) :: .blk b1 34 [.slice ad a.rows.length cp, .int .i64 a.last] :: own) ?_ (fun a4 c4 a5 c5 hc4 hc5 => ?_)
            · have hone : ∀ u ∈ [Value.int .i64 (k : Int)], u.oneCell' = true := fun u hu => by simp only [List.mem_singleton] at hu; subst hu; rfl
              repeat' (first
                | with_reducible exact vFo.nil
                | ((with_reducible refine vFo.cons ?_ ?_); refine vOne.at (by rfl) ?_)
                | ((with_reducible refine vFo.leaf ?_); refine ⟨rfl, _, _, _, _, ⟨by assumption, by assumption⟩, ⟨by assumption, by assumption⟩, Sub2.both (Sub2.both ?_), Sup.auto⟩; repeat (first | exact Sub2.refl _ | refine Sub2.weak ?_ rfl))
                | (show Stop (OpOk _ _ _ _ _ _ _); refine Stop.mk ?_)
                | (show Stop (Sup _ _ ∧ _); refine vFo.stop Sup.auto ?_)
                | (show OpOk _ _ _ _ _ _ _; first | refine opB (fun b => ?_) | refine opA (fun a' c' hc1 hc2 => ?_)))
            rw [show natsV w' ++ [Value.int .i64 (k : Int)] = natsV (w' ++ [k]) by simp [natsV], show natsV out' ++ [Value.int .i64 (k : Int)] = natsV (out' ++ [k]) by simp [natsV], show w'.length + 1 = (w' ++ [k]).length by simp, show out'.length + 1 = (out' ++ [k]).length by simp]
            rw [show w'.length + 1 = (w' ++ [k]).length by simp] at hc4
            rw [show out'.length + 1 = (out' ++ [k]).length by simp] at hc5
            repeat (first
              | (show _ ∧ _; exact ⟨rfl, rfl, rfl⟩)
              | refine wkP ?_
              | (show OpOk _ _ _ _ _ _ _; first | refine opB (fun b => ?_) | refine opA (fun a' c' hc1 hc2 => ?_))
              | (show GJ _ _ _ _ _ _ _; first | (apply GJ.and; exact rfl; intro hg) | (apply GJ.or; exact rfl; intro hg)))
            repeat (first
              | (show _ ∧ _; exact ⟨rfl, rfl, rfl⟩)
              | refine wkP ?_
              | (show OpOk _ _ _ _ _ _ _; first | refine opB (fun b => ?_) | refine opA (fun a' c' hc1 hc2 => ?_))
              | (show GJ _ _ _ _ _ _ _; first | (apply GJ.and; exact rfl; intro hg) | (apply GJ.or; exact rfl; intro hg)))
            refine Wk.id ⟨(j + 1, o'.set k true, (w' ++ [k], a4, c4), (out' ++ [k], a5, c5)), ⟨rfl, ?_⟩, ?_, Sub.auto, Sup.auto⟩
            all_goals try dsimp only
            · exact ⟨by omega, hpu, j3.push, j4.up (fun x h => List.mem_append.2 (.inl h)), hnx _ (fun x h => List.mem_append.2 (.inl h)) (fun _ => by simp), hc4, hc5, by simp only [List.length_append, List.length_singleton]; omega, List.mem_append.2 (.inl j9)⟩
            · omega
      · obtain rfl : j = row.length := by omega
        rw [List.take_length] at j5
        repeat (first
          | (show _ ∧ _; exact ⟨rfl, rfl, rfl⟩)
          | refine wkP ?_
          | (show OpOk _ _ _ _ _ _ _; first | refine opB (fun b => ?_) | refine opA (fun a' c' hc1 hc2 => ?_))
          | (show GJ _ _ _ _ _ _ _; first | (apply GJ.and; exact rfl; intro hg) | (apply GJ.or; exact rfl; intro hg)))
        repeat (first
          | (show _ ∧ _; exact ⟨rfl, rfl, rfl⟩)
          | refine wkP ?_
          | (show OpOk _ _ _ _ _ _ _; first | refine opB (fun b => ?_) | refine opA (fun a' c' hc1 hc2 => ?_))
          | (show GJ _ _ _ _ _ _ _; first | (apply GJ.and; exact rfl; intro hg) | (apply GJ.or; exact rfl; intro hg)))
        refine Wk.id ⟨(o', (w', aw', cw'), (out', ao', co')), ⟨rfl, ?_⟩, ?_, Sub.auto, Sup.auto⟩
        all_goals try dsimp only
        · refine ⟨j2, fun z h1 h2 y h3 => ?_, j4, j6, j7, by omega⟩
          by_cases hz : z = i
          · subst hz
            unfold freeTo at h3
            rw [hrow] at h3
            obtain ⟨x, hx, rfl⟩ := List.mem_map.1 h3
            obtain ⟨hx1, hx2⟩ := List.mem_filter.1 hx
            exact j5 x hx1 hx2
          · exact j3 z h1 (fun e => e.elim h2 hz) y h3
        · omega
    · obtain rfl : w = [] := List.eq_nil_of_length_eq_zero (by omega)
      repeat (first
        | (show _ ∧ _; exact ⟨rfl, rfl, rfl⟩)
        | refine wkP ?_
        | (show OpOk _ _ _ _ _ _ _; first | refine opB (fun b => ?_) | refine opA (fun a' c' hc1 hc2 => ?_))
        | (show GJ _ _ _ _ _ _ _; first | (apply GJ.and; exact rfl; intro hg) | (apply GJ.or; exact rfl; intro hg)))
      refine sortN_ok rfl (by have := i1.cnt; omega) (fun l2 hp hs2 => ?_)
      obtain rfl := i1.all hto i2 i3 hp hs2
      rw [← hp.length_eq] at i5 ⊢
      repeat (first
        | (show _ ∧ _; exact ⟨rfl, rfl, rfl⟩)
        | refine wkP ?_
        | (show OpOk _ _ _ _ _ _ _; first | refine opB (fun b => ?_) | refine opA (fun a' c' hc1 hc2 => ?_))
        | (show GJ _ _ _ _ _ _ _; first | (apply GJ.and; exact rfl; intro hg) | (apply GJ.or; exact rfl; intro hg)))
      exact Wk.outS Sup.auto (.refl _) (hk _ _ i5.1 i5.2)
end
end Go.Proofs.Ytkpdnpcmeadggaa
