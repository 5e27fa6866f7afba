/- Slices against nil; slices cut with a capacity; structs compared. No program in sight. -/
import Derived.Test.YtknfebfdehdapaaDoorV14
import Derived.Laws.StructEq
import Derived.Laws.Cover3
namespace Go.E
open Go
set_option linter.unusedVariables false
set_option linter.unusedSimpArgs false
instance BP.isNone {α : Type} (a : Option α) : BP a.isNone (a = none) := ⟨by cases a <;> simp⟩
theorem LdN.at {ro ro' : Ro} {own : Chs} {a : Option Addr} {n c s k z : Nat} {cs vs : List Value} (hr : Rs ro a n c s cs) (hd : (cs.drop k).take z = vs) [hl : Leq ro ro'] : LdN ro' own (ab a) (ao a + k) vs := hd ▸ LdN.rs hr
/-- The parts that are left, the value told otherwise. -/
theorem Wk.outV {K : Value → Ro → Chs → Prop} {v u : Value} {env : Env} {ro : Ro} {own own1 : Chs} (hs : Sup own own1) (h : K u ro own1) (e : u = v) : Wk (fun _ ro own => K v ro own) env ro own := by subst e; exact Wk.outS hs (.refl _) h
theorem GJ.casesT {c chk : Bool} {p A B : Prop} {S R : Bool → Prop} [h : BP c p] (k1 : p → A) (k2 : ¬ p → B) : GJ c true chk A B S R := .split (fun e => k1 (h.iff.1 e)) (fun e => k2 (fun hp => by rw [h.iff.2 hp] at e; cases e))
theorem GJ.casesF {c chk : Bool} {p A B : Prop} {S R : Bool → Prop} [h : BP c p] (k1 : p → B) (k2 : ¬ p → A) : GJ c false chk A B S R := .split (fun e => k2 (fun hp => by rw [h.iff.2 hp] at e; cases e)) (fun e => k1 (h.iff.1 e))
theorem Sat.freezeL {h : Heap} : ∀ {l own : Chs} {ro : Ro}, Sat ro (l ++ own) h → ∃ ro', Le ro ro' ∧ (∀ c ∈ l, c.holds ro') ∧ Sat ro' own h
  | [], own, ro, hs => ⟨ro, Le.refl _, by simp, hs⟩
  | c :: l, own, ro, hs => by
    obtain ⟨r1, h1, h2, h3⟩ := Sat.freeze (own := l ++ own) hs
    obtain ⟨r2, h4, h5, h6⟩ := Sat.freezeL h3
    exact ⟨r2, h1.trans h4, fun d hd => by
      simp at hd
      rcases hd with rfl | hd
      · exact h2.le h4
      · exact h5 d hd, h6⟩
/-- What a call made is made to last behind it. -/
theorem CallOk.lastly {P : Program} {f : FuncId} {args : Array Value} {ro : Ro} {own : Chs} {K : Value → Ro → Chs → Prop} {Q : Value → Chs → Prop} (h : CallOk P f args ro own (fun v ro' own' => ro' = ro ∧ ∃ l, own' = l ++ own ∧ Q v l))
    (hk : ∀ ro' v l, Le ro ro' → (∀ c ∈ l, c.holds ro') → Q v l → K v ro' own) : CallOk P f args ro own K :=
  h.post (fun _ h => h) (fun v ro' own' h' hl hs hq => by
    obtain ⟨rfl, l, rfl, hQ⟩ := hq
    obtain ⟨r2, h1, h2, h3⟩ := Sat.freezeL hs
    exact ⟨r2, own, h1, h3, hk r2 v l h1 h2 hQ⟩)
/-- A part is lent to a call that leaves all as it is. -/
theorem CallOk.borrow {P : Program} {f : FuncId} {args : Array Value} {ro : Ro} {l own' own : Chs} {u : Value} {K : Value → Ro → Chs → Prop} (hp : own.Perm (l ++ own')) (h : ∀ ro', Le ro ro' → (∀ c ∈ l, c.holds ro') → CallOk P f args ro' own' (fun v _ o => v = u ∧ o = own')) (hk : K u ro own) : CallOk P f args ro own K :=
  ⟨fun w hw => by
    have hw2 := hw.perm hp
    obtain ⟨r1, h1, h2, h3⟩ := Sat.freezeL hw2
    refine ((h r1 h1 h2).run w h3).mono fun v w' ⟨hh, ro2, own2, hl2, hs2, hv, ho⟩ => ?_
    subst hv; subst ho
    refine ⟨hh, ro, own, Le.refl _, ?_, hk⟩
    refine Sat.perm (own := l ++ own2) ⟨fun b o hb => hs2.last b o (hl2.le b o (h1.le b o hb)), fun c hc => ?_, hw2.nd, hw2.ap⟩ hp.symm
    rcases List.mem_append.1 hc with hc | hc
    · exact (h2 c hc).le ⟨fun b o hb => hs2.last b o (hl2.le b o hb)⟩
    · exact hs2.parts c hc⟩
theorem Rs.clip {ro : Ro} {a : Option Addr} {n c s : Nat} {cs : List Value} (hr : Rs ro a n c s cs) : Rs ro a n n s cs :=
  ⟨fun h own hs => by
    rcases hr.run h own hs with ⟨h1, h2, a', c', h3, _⟩ | ⟨h1, b, o, cap, h3, h4, h5, h6⟩
    · exact .inl ⟨h1, h2, a, n, by rw [h1], by rw [h1]; exact Nat.zero_le _⟩
    · cases h3
      exact .inr ⟨h1, b, o, n, rfl, Nat.le_refl _, Nat.le_trans h4 h5, h6⟩, hr.len, Nat.le_refl _, Nat.le_trans hr.le hr.max⟩
theorem Chunk.holds.some {m : Ro} {c : Chunk} (h : c.holds m) {b : Nat} (hb : b ∈ c.fp) : ∃ o, m b = Option.some o := by
  cases c with
  | blk b' t cs => simp [Chunk.fp] at hb; subst hb; exact ⟨_, h⟩
  | obj b' o => simp [Chunk.fp] at hb; subst hb; exact ⟨_, h⟩
  | sl a n c t s cs =>
    rcases h.2.2.2 with ⟨rfl, _⟩ | ⟨b', sp, rfl, h5, _⟩
    · simp [Chunk.fp] at hb
    · simp [Chunk.fp] at hb; subst hb; exact ⟨_, h5⟩
/-- Parts are lent to a call that makes new ones. -/
theorem CallOk.borrowN {P : Program} {f : FuncId} {args : Array Value} {ro : Ro} {l own' own : Chs} {Q : Value → Chs → Prop} {K : Value → Ro → Chs → Prop} (hp : own.Perm (l ++ own')) (h : ∀ ro', Le ro ro' → (∀ c ∈ l, c.holds ro') → CallOk P f args ro' own' (fun v r o => r = ro' ∧ ∃ l2, o = l2 ++ own' ∧ Q v l2))
    (hk : ∀ v l2, Q v l2 → K v ro (l2 ++ own)) : CallOk P f args ro own K :=
  ⟨fun w hw => by
    have hw2 := hw.perm hp
    obtain ⟨r1, h1, h2, h3⟩ := Sat.freezeL hw2
    refine ((h r1 h1 h2).run w h3).mono fun v w' ⟨hh, ro2, own2, hl2, hs2, hr, l2, ho, hQ⟩ => ?_
    subst hr; subst ho
    refine ⟨hh, ro, l2 ++ own, Le.refl _, ?_, hk v l2 hQ⟩
    refine Sat.perm (own := l2 ++ (l ++ own')) ⟨fun b o hb => hs2.last b o (h1.le b o hb), fun c hc => ?_, ?_, fun c hc b hb => ?_⟩ (hp.symm.append_left l2)
    · rcases List.mem_append.1 hc with hc | hc
      · exact hs2.parts c (List.mem_append.2 (.inl hc))
      · rcases List.mem_append.1 hc with hc | hc
        · exact (h2 c hc).le ⟨fun b o hb => hs2.last b o hb⟩
        · exact hs2.parts c (List.mem_append.2 (.inr hc))
    · have n1 := hs2.nd
      have n2 := hw2.nd
      rw [List.flatMap_append, List.nodup_append] at n1 n2
      rw [List.flatMap_append, List.flatMap_append, List.nodup_append]
      refine ⟨n1.1, List.nodup_append.2 n2, fun b hb b' hb' e => ?_⟩
      subst e
      rcases List.mem_append.1 hb' with hb' | hb'
      · obtain ⟨c, hc, hbc⟩ := List.mem_flatMap.1 hb
        obtain ⟨d, hd, hbd⟩ := List.mem_flatMap.1 hb'
        obtain ⟨o, ho⟩ := (h2 d hd).some hbd
        rw [hs2.ap c (List.mem_append.2 (.inl hc)) b hbc] at ho
        cases ho
      · exact n1.2.2 b hb b hb' rfl
    · rcases List.mem_append.1 hc with hc | hc
      · have := hs2.ap c (List.mem_append.2 (.inl hc)) b hb
        cases hr : ro b with
        | none => rfl
        | some o => rw [h1.le b o hr] at this; cases this
      · exact hw2.ap c hc b hb⟩
theorem CallOk.given {P : Program} {f : FuncId} {args : Array Value} {ro : Ro} {own : Chs} {K : Value → Ro → Chs → Prop} (h : (∃ g own', Sat ro own' g) → CallOk P f args ro own K) : CallOk P f args ro own K := ⟨fun w hs => (h ⟨w.heap, own, hs⟩).run w hs⟩
theorem Rs.nilN {ro : Ro} {n c s : Nat} {cs : List Value} (hr : Rs ro none n c s cs) (h0 : ∃ h own, Sat ro own h) : n = 0 := by
  obtain ⟨h, own, hs⟩ := h0
  rcases hr.run h own hs with ⟨h1, _⟩ | ⟨_, b, o, cap, h2, _⟩
  · exact h1
  · cases h2
section
variable {P : Program} {T : TT} [hT : TTab P T] {ty : TypeId} {env : Env} {ro : Ro} {own : Chs} {K : Value → Ro → Chs → Prop}
theorem Pu.eqlSl {d : Option Nat} {pos : String} {af : Array Edge} {g : Option (Nat × Bool)} {h : Heap} {t yt e : TypeId} {x : Operand} {a : Option Addr} {n c : Nat} (hx : ev env x = some (.slice a n c)) (ht : P.underlying t = some (.slice e)) :
    Pu P ⟨d, .binOp .eql t x (.const (.slice none 0 0)) yt, ty, pos, af, g⟩ env h (.bool a.isNone) := .mk fun ρ w hr _ => by
  have hy : ρ (.const (.slice none 0 0)) = .slice none 0 0 := hr _ _ rfl
  simp only [execOp, hr _ _ hx, hy, eqGuard, binOp, Sem.run_bind]; simp [run_equal_slice_nil w t e a n c ht]
theorem Pu.neqSl {d : Option Nat} {pos : String} {af : Array Edge} {g : Option (Nat × Bool)} {h : Heap} {t yt e : TypeId} {x : Operand} {a : Option Addr} {n c : Nat} (hx : ev env x = some (.slice a n c)) (ht : P.underlying t = some (.slice e)) :
    Pu P ⟨d, .binOp .neq t x (.const (.slice none 0 0)) yt, ty, pos, af, g⟩ env h (.bool (!a.isNone)) := .mk fun ρ w hr _ => by
  have hy : ρ (.const (.slice none 0 0)) = .slice none 0 0 := hr _ _ rfl
  simp only [execOp, hr _ _ hx, hy, eqGuard, binOp, Sem.run_bind]; simp [run_equal_slice_nil w t e a n c ht]
theorem OpOk.eqlSl {t yt e : TypeId} {x : Operand} {a : Option Addr} {n c z1 : Nat} {z2 : List Value} (hx : ev env x = some (.slice a n c)) (ht : T.get t = some ⟨.slice e, z1, z2⟩) (hk : K (.bool a.isNone) ro own) : OpOk P (.binOp .eql t x (.const (.slice none 0 0)) yt) ty env ro own K :=
  OpOk.pu (fun h hs d pos af g => Pu.eqlSl hx (hT.ok.slice ht)) hk
theorem OpOk.neqSl {t yt e : TypeId} {x : Operand} {a : Option Addr} {n c z1 : Nat} {z2 : List Value} (hx : ev env x = some (.slice a n c)) (ht : T.get t = some ⟨.slice e, z1, z2⟩) (hk : K (.bool (!a.isNone)) ro own) : OpOk P (.binOp .neq t x (.const (.slice none 0 0)) yt) ty env ro own K :=
  OpOk.pu (fun h hs d pos af g => Pu.neqSl hx (hT.ok.slice ht)) hk
/-- Cut at its length, with no room behind. -/
theorem Pu.clip {d : Option Nat} {pos : String} {af : Array Edge} {g : Option (Nat × Bool)} {h : Heap} {t e : TypeId} {x hi mx : Operand} {a : Option Addr} {n c s : Nat} (hx : ev env x = some (.slice a n c)) (hh : ev env hi = some (.int .i64 (n : Int))) (hm : ev env mx = some (.int .i64 (n : Int))) (hnc : n ≤ c) (ht : P.underlying t = some (.slice e)) (hs : (P.info? e).map (·.size) = some s) :
    Pu P ⟨d, .slice t x none (some hi) (some mx), ty, pos, af, g⟩ env h (.slice a n n) := .mk fun ρ w hρ _ => by
  have he : P.elem t = e := by simp [Program.elem, ht]
  have ht' : P.underlying t = some (.slice (P.elem t)) := by rw [he]; exact ht
  simp only [execOp, Option.map_some, Option.map_none, hρ _ _ hx, hρ _ _ hh, hρ _ _ hm, run_sliceAt_slice w t _ _ _ _ ht', run_slice_hm w t a n c ht' .i64 .i64 (n : Int) (n : Int) (by omega) (by omega) (by omega), he, sizeOf_of hs, Sem.run_bind, Sem.run_pure, Result.andThen_ok]
  have e1 : sliced a 0 (n : Int).toNat (n : Int).toNat s = .slice a n n := by
    simp only [sliced, Int.toNat_natCast, Nat.sub_zero, Nat.zero_mul]
    congr 1
    split
    · rfl
    · cases a <;> simp [Addr.add]
  rw [e1]
theorem OpOk.clip {t e : TypeId} {x hi mx : Operand} {a : Option Addr} {n c s : Nat} (hx : ev env x = some (.slice a n c)) (hh : ev env hi = some (.int .i64 (n : Int))) (hm : ev env mx = some (.int .i64 (n : Int))) (ht : elemOf T t = some (e, s)) (hnc : n ≤ c) (hk : K (.slice a n n) ro own) :
    OpOk P (.slice t x none (some hi) (some mx)) ty env ro own K := by
  have h00 := elemOf_spec ht
  clear ht
  obtain ⟨z1, z2, te, ht, he, rfl, _, _⟩ := h00
  exact OpOk.pu (fun h hs d pos af g => Pu.clip hx hh hm hnc (hT.ok.slice ht) (hT.ok.sz he)) hk
theorem LdN.hasBlkPart {b k z : Nat} {t : TypeId} {cs : List Value} {f : Chunk → Chs} [hb : HasBlk own b t cs f] : LdN ro own b k ((cs.drop k).take z) := by
  have := LdN.part k z (LdN.hasBlk (ro := ro) (hb := hb))
  rwa [Nat.zero_add] at this
/-- A part of a struct is loaded. -/
theorem OpOk.loadPart {t : TypeId} {x : Operand} {b o z : Nat} {t0 : TypeId} {cs vs : List Value} {f : Chunk → Chs} (hx : ev env x = some (.pointer (some ⟨b, o, none⟩))) (ht : rowT T t = some z) [hb : HasBlk own b t0 cs f] (hv : Nf ((cs.drop o).take z) vs) (hn : vs.length = z) (hk : K (.agg vs.toArray) ro own) :
    OpOk P (.load t x) ty env ro own K := by
  have e := hv.eq
  exact OpOk.loadRow hx ht (e ▸ LdN.hasBlkPart (z := z)) hn hk
theorem QOk.loadPart {t : TypeId} {x : Operand} {b o z : Nat} {t0 : TypeId} {cs vs : List Value} {f : Chunk → Chs} {K : Value → Prop} (hx : ev env x = some (.pointer (some ⟨b, o, none⟩))) (ht : rowT T t = some z) [hb : HasBlk own b t0 cs f] (hv : Nf ((cs.drop o).take z) vs) (hn : vs.length = z) (hk : K (.agg vs.toArray)) :
    QOk P (.load t x) ty env ro own K := by
  have e := hv.eq
  exact QOk.loadRow hx ht (e ▸ LdN.hasBlkPart (z := z)) hn hk
/-- Are two values of one cell the same? -/
def eqF1 (T : TT) (t : TypeId) (x y : Value) : Option Bool := match T.get t, x, y with
  | some ⟨.int _, 1, _⟩, .int k a, .int k2 b => bif sameK k k2 then some (decide (a = b)) else none
  | some ⟨.str, 1, _⟩, .string ⟨⟨a⟩⟩, .string ⟨⟨b⟩⟩ => some (decide (a = b))
  | some ⟨.bool, 1, _⟩, .bool a, .bool b => some (decide (a = b))
  | _, _, _ => none
def eqFs (T : TT) (xs ys : List Value) : List (TypeId × Nat × Nat) → Option Bool
  | [] => some true
  | (t, o, _) :: r => match nthV xs o, nthV ys o with
    | some x, some y => match eqF1 T t x y, eqFs T xs ys r with
      | some a, some b => some (a && b)
      | _, _ => none
    | _, _ => none
theorem eqF1_spec {t : TypeId} {x y : Value} {q : Bool} (h : eqF1 T t x y = some q) (d : Nat) (w : World) : (Op.equalIn (d + 1) t x y).run P w = .ok q w ∧ (P.info? t).map (·.size) = some 1 := by
  unfold eqF1 at h
  split at h
  · rename_i hg
    cases hs : sameK _ _ with
    | false => rw [hs] at h; simp at h
    | true =>
      rw [hs] at h; simp at h; subst h
      have := sameK_eq hs; subst this
      refine ⟨?_, hT.ok.sz hg⟩
      rw [run_equalIn_int w d t _ _ _ _ (hT.ok.int hg)]
      exact congrArg (fun b => Result.ok b w) (by rw [Bool.eq_iff_iff]; simp)
  · rename_i hg
    simp at h; subst h
    refine ⟨?_, hT.ok.sz hg⟩
    rw [run_equalIn_string w d t _ _ (hT.ok.str hg)]
    exact congrArg (fun b => Result.ok b w) (by rw [Bool.eq_iff_iff]; simp [ByteArray.toList_eq])
  · rename_i hg
    simp at h; subst h
    refine ⟨?_, hT.ok.sz hg⟩
    rw [run_equalIn_bool' w d t _ _ (hT.ok.bool hg)]
    exact congrArg (fun b => Result.ok b w) (by rw [Bool.eq_iff_iff]; simp)
  · cases h
theorem run_part1 {t : TypeId} {cs : List Value} {o : Nat} {v : Value} {i : TI} (ht : T.get t = some i) (hr : i.u.row = false) (hv : nthV cs o = some v) (w : World) : (part t cs.toArray o).run P w = .ok v w := by
  obtain ⟨du, h1, h2⟩ := hT.ok.row ht
  have hv' := nthV_spec hv
  have hagg : (isAgg t).run P w = .ok false w := by
    simp [isAgg, run_underlying h1]
    rw [hr] at h2
    cases du <;> simp [TypeDesc.isRow] at h2 ⊢
  simp [part, hagg, hv']
theorem eqFs_spec {xs ys : List Value} (d : Nat) (w : World) : ∀ (l : List Field) (q : Bool), (∀ f ∈ l, f.name ≠ "_") → eqFs T xs ys (l.map fun f => (f.type, f.offset, ((P.info? f.type).map (·.size)).getD 0)) = some q → (Op.eqFields (d + 1) xs.toArray ys.toArray l).run P w = .ok q w
  | [], q, _, h => by simp [eqFs] at h; subst h; simp [Op.eqFields]
  | f :: l, q, hn, h => by
    simp only [List.map_cons, eqFs] at h
    split at h
    · rename_i x y hx hy
      split at h
      · rename_i a b ha hb
        simp at h
        subst h
        have h1 := (eqF1_spec (P := P) ha d w).1
        have hg : ∃ i, T.get f.type = some i ∧ i.u.row = false := by
          unfold eqF1 at ha
          split at ha
          · rename_i hg; exact ⟨_, hg, rfl⟩
          · rename_i hg; exact ⟨_, hg, rfl⟩
          · rename_i hg; exact ⟨_, hg, rfl⟩
          · cases ha
        obtain ⟨i, hg, hr⟩ := hg
        have ih := eqFs_spec d w l b (fun f' hf' => hn f' (by simp [hf'])) hb
        simp only [Op.eqFields, hn f (by simp), ne_eq, not_false_eq_true, if_true, Sem.run_bind, run_part1 hg hr hx w, run_part1 hg hr hy w, h1, Result.andThen_ok, Sem.run_ite, ih]
        cases a <;> simp
      · cases h
    · cases h
theorem OpOk.neqStruct {t yt : TypeId} {x y : Operand} {xs ys : List Value} {fs : List (TypeId × Nat × Nat)} {z1 : Nat} {z2 : List Value} {q : Bool} (hx : ev env x = some (.agg xs.toArray)) (hy : ev env y = some (.agg ys.toArray)) (ht : T.get t = some ⟨.struct fs, z1, z2⟩) (hq : eqFs T xs ys fs = some q)
    (h1 : P.stoodInHeld t = false) (h2 : P.eqGuardType P.depth t = false) (h3 : ((P.fieldsOf t).toList.all fun f => f.name != "_") = true) (hk : K (.bool (!q)) ro own) : OpOk P (.binOp .neq t x y yt) ty env ro own K := by
  obtain ⟨l, e1, e2, _⟩ := hT.ok.struct ht
  have e3 : P.fieldsOf t = l.toArray := by simp [Program.fieldsOf, e1]
  rw [e3] at h3
  subst e2
  refine OpOk.pu (fun h hs d pos af g => .mk fun ρ w hρ _ => ?_) hk
  have h4 := eqFs_spec (P := P) (T := T) (xs := xs) (ys := ys) 9998 w l q (fun f hf => by have := List.all_eq_true.1 h3 f (by simpa using hf); simpa using this) hq
  simp only [execOp, hρ _ _ hx, hρ _ _ hy, Sem.run_bind, run_eqGuard_agg w .neq t x y _ _ h2, Result.andThen_ok, run_neq_struct, run_equalIn_agg w 9999 t _ _ (by rw [e3]; exact e1) h1, e3, h4, Sem.run_pure]
theorem OpOk.eqlStruct {t yt : TypeId} {x y : Operand} {xs ys : List Value} {fs : List (TypeId × Nat × Nat)} {z1 : Nat} {z2 : List Value} {q : Bool} (hx : ev env x = some (.agg xs.toArray)) (hy : ev env y = some (.agg ys.toArray)) (ht : T.get t = some ⟨.struct fs, z1, z2⟩) (hq : eqFs T xs ys fs = some q)
    (h1 : P.stoodInHeld t = false) (h2 : P.eqGuardType P.depth t = false) (h3 : ((P.fieldsOf t).toList.all fun f => f.name != "_") = true) (hk : K (.bool q) ro own) : OpOk P (.binOp .eql t x y yt) ty env ro own K := by
  obtain ⟨l, e1, e2, _⟩ := hT.ok.struct ht
  have e3 : P.fieldsOf t = l.toArray := by simp [Program.fieldsOf, e1]
  rw [e3] at h3
  subst e2
  refine OpOk.pu (fun h hs d pos af g => .mk fun ρ w hρ _ => ?_) hk
  have h4 := eqFs_spec (P := P) (T := T) (xs := xs) (ys := ys) 9998 w l q (fun f hf => by have := List.all_eq_true.1 h3 f (by simpa using hf); simpa using this) hq
  simp only [execOp, hρ _ _ hx, hρ _ _ hy, Sem.run_bind, run_eqGuard_agg w .eql t x y _ _ h2, Result.andThen_ok, run_eql_struct, run_equalIn_agg w 9999 t _ _ (by rw [e3]; exact e1) h1, e3, h4, Sem.run_pure]
end
end Go.E
