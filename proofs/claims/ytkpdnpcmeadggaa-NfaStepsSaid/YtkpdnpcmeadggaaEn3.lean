/- Merged of: V16 V17 V18 V19 V20 V25 V26 V27 V28. Slices cut, read whatever they are. No program in sight. -/
import Derived.Test.YtkpdnpcmeadggaaEn2
import Derived.Lib.MakeNoZero
import Derived.Laws.CopyOwn
import Derived.RangeFuncRecord
import Derived.Below
/-! Slices cut, read whatever they are. No program in sight. -/
namespace Go.E
open Go
set_option linter.unusedVariables false
theorem Rds.cutI {ro : Ro} {own : Chs} {a : Option Addr} {n c s : Nat} {cs : List Value} (hr : Rds ro own a n c s cs) {lo hi : Int} (h : 0 ≤ lo ∧ lo ≤ hi ∧ hi ≤ n) : Rds ro own (cutA a lo.toNat c s) (hi.toNat - lo.toNat) (c - lo.toNat) s ((cs.drop (lo.toNat * s)).take ((hi.toNat - lo.toNat) * s)) := by
  have hl := hr.len
  have h2 : hi.toNat * s ≤ n * s := Nat.mul_le_mul_right s (by omega)
  have h3 : (hi.toNat - lo.toNat) * s = hi.toNat * s - lo.toNat * s := Nat.sub_mul _ _ s
  refine ⟨fun h' hs => ?_, by rw [List.length_take, List.length_drop]; omega, by have := hr.le; omega, by have := hr.max; omega⟩
  have := (hr.run h' hs).cut (s := s) (l := lo.toNat) (m := hi.toNat) (by omega) (by omega)
  rw [sliced_eq] at this
  exact this
theorem LdN.atR {ro ro' : Ro} {own own' : Chs} {a : Option Addr} {n c s k z o : Nat} {cs vs : List Value} (hr : Rds ro own a n c s cs) (hd : (cs.drop k).take z = vs) (ho : o = ao a + k) [hl : Leq ro ro'] [hp : Suf own' own] : LdN ro' own' (ab a) o vs := by
  subst ho; subst hd; exact LdN.rds hr
theorem Ld.atR {ro ro' : Ro} {own own' : Chs} {a : Option Addr} {n c s k o : Nat} {cs : List Value} {v : Value} (hr : Rds ro own a n c s cs) (hv : cs[k]? = some v) (ho : o = ao a + k) [hl : Leq ro ro'] [hp : Suf own' own] : Ld ro' own' (ab a) o v := by
  subst ho; exact Ld.rds hr hv
end Go.E
/-! Regions that draw their order, where operations that change something may come up in any order: each has its own place in memory; what it does is told by itself. No program in sight. -/
namespace Go.E
open Go
set_option linter.unusedVariables false
theorem Sub2.cons {e env : Env} {t : Nat} {v : Value} (h : look env t = some v) (hs : Sub2 e env) : Sub2 ((t, v) :: e) env := fun x u hx => by
  rw [look_cons] at hx
  split at hx
  · rename_i h'; subst h'; cases hx; exact h
  · exact hs x u hx
theorem Sub2.refl (e : Env) : Sub2 e e := fun _ _ h => h
theorem Sub2.trans {a b c : Env} (h1 : Sub2 a b) (h2 : Sub2 b c) : Sub2 a c := fun x v h => h2 x v (h1 x v h)
/-- What an operation does: what is known behind it, the place that it has, what lies there. -/
structure Th where
  post : Env → Prop
  slot : Option Nat
  cont : Env → Chs → Prop
  mono : ∀ e e', Sub2 e e' → post e → post e'
  monoC : ∀ e e' c, Sub2 e e' → cont e c → cont e' c
/-- It yields a value. -/
def Th.val (d : Nat) (v : Value) : Th := ⟨fun e => look e d = some v, none, fun _ c => c = [], fun e e' hs h => hs _ _ h, fun _ _ _ _ h => h⟩
/-- It makes a block. -/
def Th.new (d s : Nat) (f : Nat → Chs) : Th := ⟨fun e => ∃ b, look e d = some (ptr' b), some s, fun e c => ∃ b, look e d = some (ptr' b) ∧ c = f b, fun e e' hs ⟨b, h⟩ => ⟨b, hs _ _ h⟩, fun e e' c hs ⟨b, h, hc⟩ => ⟨b, hs _ _ h, hc⟩⟩
/-- It changes the block that another one made. -/
def Th.set (d s : Nat) (f : Nat → Chs) : Th := ⟨fun _ => True, some s, fun e c => ∃ b, look e d = some (ptr' b) ∧ c = f b, fun _ _ _ _ => trivial, fun e e' c hs ⟨b, h, hc⟩ => ⟨b, hs _ _ h, hc⟩⟩
def depsOf (af : Array Edge) : List Nat := af.toList.filterMap fun e => bif Region.binds .any e then some e.on else none
def allPost (ths : List Th) : List Nat → Env → Prop
  | [], _ => True
  | j :: r, env => (match ths[j]? with
    | some th => th.post env
    | none => True) ∧ allPost ths r env
theorem allPost_of {ths : List Th} {env : Env} : ∀ {l : List Nat}, (∀ j ∈ l, ∀ th, ths[j]? = some th → th.post env) → allPost ths l env
  | [], _ => trivial
  | j :: r, h => ⟨by
      split
      · rename_i th he; exact h j (by simp) th he
      · trivial, allPost_of fun k hk => h k (by simp [hk])⟩
/-- The last one ahead of i that has the place s. -/
def prevF (ths : List Th) (s : Nat) : Nat → Option Nat
  | 0 => none
  | i + 1 => match ths[i]? with
    | some th => (match th.slot with
      | some t => bif Nat.beq t s then some i else prevF ths s i
      | none => prevF ths s i)
    | none => prevF ths s i
def contAt (ths : List Th) (init : Nat → Chs) (s : Nat) (q : Option Nat) (env : Env) (c : Chs) : Prop := match q with
  | none => c = init s
  | some p => match ths[p]? with
    | some th => th.cont env c
    | none => False
def Has (ths : List Th) (s j : Nat) : Prop := ∃ th, ths[j]? = some th ∧ th.slot = some s
theorem prevF_spec {ths : List Th} {s : Nat} : ∀ (i : Nat), (prevF ths s i = none ∧ ∀ j, j < i → ¬ Has ths s j) ∨ ∃ p, prevF ths s i = some p ∧ p < i ∧ Has ths s p ∧ ∀ j, j < i → Has ths s j → j ≤ p
  | 0 => .inl ⟨rfl, fun j hj => absurd hj (by omega)⟩
  | i + 1 => by
    by_cases hi : Has ths s i
    · obtain ⟨th, h1, h2⟩ := hi
      refine .inr ⟨i, ?_, by omega, ⟨th, h1, h2⟩, fun j hj _ => by omega⟩
      rw [prevF, h1]
      simp only [h2, Nat.beq_refl, cond_true]
    · have e : prevF ths s (i + 1) = prevF ths s i := by
        rw [prevF]
        split
        · rename_i th h1
          split
          · rename_i t h2
            cases hb : Nat.beq t s with
            | true => exact absurd ⟨th, h1, by rw [h2, Nat.eq_of_beq_eq_true hb]⟩ hi
            | false => rfl
          · rfl
        · rfl
      rcases prevF_spec (ths := ths) (s := s) i with ⟨h1, h2⟩ | ⟨p, h1, h2, h3, h4⟩
      · refine .inl ⟨by rw [e, h1], fun j hj => ?_⟩
        rcases Nat.lt_succ_iff_lt_or_eq.1 hj with hj | rfl
        · exact h2 j hj
        · exact hi
      · refine .inr ⟨p, by rw [e, h1], by omega, h3, fun j hj hh => ?_⟩
        rcases Nat.lt_succ_iff_lt_or_eq.1 hj with hj | rfl
        · exact h4 j hj hh
        · exact absurd hh hi
def ordB (l : List Oper) : Bool := l.zipIdx.all fun p => p.1.after.all (fun e => !Region.binds .any e || Nat.blt e.on p.2) && p.1.guard.isNone
def slotB (l : List Oper) (ths : List Th) : Bool := (List.range l.length).all fun j => (List.range j).all fun i => match ths[i]?, ths[j]? with
  | some a, some b => (match a.slot, b.slot with
    | some s, some t => !Nat.beq s t || waitsT l.toArray 9 j i
    | _, _ => true)
  | _, _ => true
def dstB (l : List Oper) : Bool := (List.range l.length).all fun j => (List.range j).all fun i => match (l[i]?).bind (·.dst), (l[j]?).bind (·.dst) with
  | some a, some b => !Nat.beq a b
  | _, _ => true
/-- What each operation owes. -/
def opsOk (P : Program) (T : TT) (ths : List Th) (init : Nat → Chs) (env0 : Env) (ro : Ro) (base : Chs) : List Oper → Nat → Prop
  | [], _ => True
  | ⟨d, op, ty, _, af, _⟩ :: l, i => (match ths[i]? with
    | some th => ∀ env c F, Sub2 env0 env → allPost ths (depsOf af) env → (match th.slot with
      | some s => contAt ths init s (prevF ths s i) env c
      | none => c = []) → ∃ envS, Sub2 envS env ∧ vOp P T op ty d (fun env' ro' own' => ro' = ro ∧ th.post env' ∧ ∃ c', th.cont env' c' ∧ Sup own' (c' ++ (base ++ F))) envS ro (c ++ (base ++ F))
    | none => False) ∧ opsOk P T ths init env0 ro base l (i + 1)
def catN (cs : Nat → Chs) : Nat → Nat → Chs
  | _, 0 => []
  | k, n + 1 => cs k ++ catN cs (k + 1) n
def finC (ths : List Th) (init : Nat → Chs) (N : Nat) (env : Env) (cs : Nat → Chs) : Nat → Nat → Prop
  | _, 0 => True
  | k, n + 1 => contAt ths init k (prevF ths k N) env (cs k) ∧ finC ths init N env cs (k + 1) n
theorem finC_of {ths : List Th} {init : Nat → Chs} {N : Nat} {env : Env} {cs : Nat → Chs} : ∀ (n k : Nat), (∀ s, k ≤ s → s < k + n → contAt ths init s (prevF ths s N) env (cs s)) → finC ths init N env cs k n
  | 0, k, _ => trivial
  | n + 1, k, h => ⟨h k (Nat.le_refl _) (by omega), finC_of n (k + 1) fun s h1 h2 => h s (by omega) (by omega)⟩
/-- One place's part among all. -/
theorem catN_split (cs : Nat → Chs) (s : Nat) : ∀ (n k : Nat), k ≤ s → s < k + n → ∃ F, ∀ c, (catN (fun j => if j = s then c else cs j) k n).Perm (c ++ F)
  | 0, k, h1, h2 => absurd h2 (by omega)
  | n + 1, k, h1, h2 => by
    by_cases e : k = s
    · subst e
      have hr : ∀ (m k' : Nat) (c : Chs), k < k' → catN (fun j => if j = k then c else cs j) k' m = catN cs k' m := by
        intro m
        induction m with
        | zero => intro k' c hk; rfl
        | succ m ih => intro k' c hk; rw [catN, catN, ih (k' + 1) c (by omega), if_neg (by omega)]
      refine ⟨catN cs (k + 1) n, fun c => ?_⟩
      rw [catN, hr n (k + 1) c (by omega), if_pos rfl]
    · obtain ⟨F, hF⟩ := catN_split cs s n (k + 1) (by omega) (by omega)
      refine ⟨cs k ++ F, fun c => ?_⟩
      rw [catN, if_neg e]
      exact ((hF c).append_left (cs k)).trans (by rw [← List.append_assoc, ← List.append_assoc]; exact List.perm_append_comm.append_right F)
section
variable {P : Program} {T : TT} {Q : Exit → Act → World → Prop} {n : Nat} {σ : World}
theorem count_done {ls : Array Bool} (h : ls.toList.count false = 0) {i : Nat} (hi : i < ls.size) : ls.getD i false = true := by
  rw [List.count_eq_zero] at h
  have : ls[i] ∈ ls.toList := by simp
  cases e : ls[i] with
  | true => simp [Array.getD, hi, e]
  | false => rw [e] at this; exact absurd this h
theorem all_done {l : List Oper} (hord : ∀ (i : Nat) (o : Oper), l[i]? = some o → ∀ e ∈ o.after, Region.binds .any e = true → e.on < i) {ls : Array Bool} (hz : ls.size = l.length) (hr : Region.ready .any l.toArray ls = []) : ∀ i, i < l.length → ls.getD i false = true := by
  intro i
  induction i using Nat.strongRecOn with
  | ind i ih =>
    intro hi
    apply Classical.byContradiction
    intro hn
    have hg : l[i]? = some l[i] := List.getElem?_eq_getElem hi
    have : i ∈ Region.ready .any l.toArray ls := mem_ready.2 ⟨by
      have : i < ls.size := by omega
      simp [Array.getD, this] at hn ⊢
      exact hn, l[i], by simp [hg], fun e he hb => ih e.on (hord i _ hg e he hb) (by have := hord i _ hg e he hb; omega)⟩
    rw [hr] at this
    cases this
theorem wpAny_inv {l : List Oper} (I : Array Bool → Act → World → Prop) (hord : ∀ (i : Nat) (o : Oper), l[i]? = some o → ∀ e ∈ o.after, Region.binds .any e = true → e.on < i)
    (hstep : ∀ ls a w i, ls.size = l.length → Closed l.toArray ls → i ∈ Region.ready .any l.toArray ls → I ls a w → wpOp P l.toArray Q i (I (ls.setIfInBounds i true)) a w)
    (hend : ∀ ls a w, ls.size = l.length → (∀ i, i < l.length → ls.getD i false = true) → I ls a w → Q .normal a w) :
    ∀ (k : Nat) (ls : Array Bool) (a : Act) (w : World), ls.size = l.length → Closed l.toArray ls → ls.toList.count false ≤ k → I ls a w → wpAny P .any l.toArray Q k ls a w
  | 0, ls, a, w, hz, hc, hk, hI => by
    have hd : ∀ i, i < l.length → ls.getD i false = true := fun i hi => count_done (by omega) (by omega)
    refine ⟨?_, hend ls a w hz hd hI⟩
    rw [List.eq_nil_iff_forall_not_mem]
    intro i hi
    have h1 := (mem_ready.1 hi).1
    obtain ⟨o, ho, _⟩ := (mem_ready.1 hi).2
    have hil : i < l.length := by have := (Array.getElem?_eq_some_iff.1 ho).1; simpa using this
    have h2 := hd i hil
    have : i < ls.size := by omega
    simp [Array.getD, this] at h1 h2
    rw [h1] at h2; cases h2
  | k + 1, ls, a, w, hz, hc, hk, hI => by
    refine ⟨fun hr => hend ls a w hz (all_done hord hz hr) hI, fun i hi => ?_⟩
    refine wpOp_mono (fun a' w' h' => ?_) (hstep ls a w i hz hc hi hI)
    refine wpAny_inv I hord hstep hend k _ a' w' (by simpa using hz) (hc.set hi) ?_ h'
    have h1 := (mem_ready.1 hi).1
    obtain ⟨o, ho, _⟩ := (mem_ready.1 hi).2
    have hil : i < l.length := by have := (Array.getElem?_eq_some_iff.1 ho).1; simpa using this
    have his : i < ls.size := by omega
    rw [Array.toList_setIfInBounds, List.count_set (by simpa using his)]
    have h3 : ls[i] = false := by simpa [Array.getD, his] using h1
    have h4 : 0 < ls.toList.count false := List.count_pos_iff.2 (by rw [← h3]; simp)
    have h5 : ls.toList[i] = false := by simpa using h3
    have e1 : (ls.toList[i] == false) = true := by rw [h5]; rfl
    rw [if_pos e1, if_neg (by decide)]
    omega
end
end Go.E
/-! .. and that it is right. No program in sight. -/
namespace Go.E
open Go
set_option linter.unusedVariables false
section
variable {P : Program} {T : TT} {Q : Exit → Act → World → Prop} {n : Fr} {σ : World}
theorem vOp_wp2 {op : Op} {ty : TypeId} {d : Option Nat} {pos : String} {af : Array Edge} {g : Option (Nat × Bool)} {k : Kt} {env : Env} {ro : Ro} {own : Chs} {a : Act} {w : World} {K : Act → World → Prop} (hT : TOk P T) (hv : vOp P T op ty d k env ro own)
    (hf : Fits n env a) (hs : Sat ro own w.heap) (hw : Hp w.heap σ w)
    (hk : ∀ v ro' own' w', Le ro ro' → k (pushD d v env) ro' own' → Sat ro' own' w'.heap → Hp w'.heap σ w' → K (a.put d v) w') : (⟨d, op, ty, pos, af, g⟩ : Oper).wp P a w K Q := by
  have hpure : ∀ v, (pure1 T op env).has v → k (pushD d v env) ro own → (⟨d, op, ty, pos, af, g⟩ : Oper).wp P a w K Q := fun v hp hkv => by
    unfold Oper.wp
    rw [(pure1_ok (h := w.heap) hT hp).run a.eval w hf.agree rfl]
    exact hk v ro own _ (Le.refl _) hkv hs hw
  unfold vOp at hv
  split at hv
  · rename_i v hp
    exact hpure v (by rw [hp]; rfl) (by rwa [setK_eq] at hv)
  · rename_i p v hp
    obtain ⟨h1, h2⟩ := hv.run
    exact hpure v (by rw [hp]; exact ⟨h1, rfl⟩) (by rwa [setK_eq] at h2)
  · unfold vEff at hv
    split at hv
    · split at hv
      · rename_i hx hvs
        have hc := hv.run
        rw [capA_eq] at hc
        unfold Oper.wp
        rw [run_callv hf.agree hx hvs]
        rcases hc.run w hs with ⟨he, hcalls⟩ | ⟨v, w', he, hh, ro', own', hl, hs', hKv⟩
        · rw [he]
          refine hcalls.mono fun e w' ⟨v, hev, hh, ro', own', hl, hs', hKv⟩ => ?_
          subst hev
          replace hKv : setK d v k env ro' own' := hKv
          rw [setK_eq] at hKv
          exact hk v ro' own' _ hl hKv hs' (hw.trans hh)
        · rw [he]
          replace hKv : setK d v k env ro' own' := hKv
          rw [setK_eq] at hKv
          exact hk v ro' own' _ hl hKv hs' (hw.trans hh)
      · exact hv.elim
    · obtain ⟨v, w', hr, hh, ro', own', hl, hs', hK⟩ := (hv.run.run w.heap hs d pos af g).run a.eval w hf.agree rfl
      rw [setK_eq] at hK
      unfold Oper.wp
      rcases hr with hr | ⟨hr, rfl⟩ <;> rw [hr] <;> exact hk _ ro' own' _ hl hK hs' (hw.trans hh)
theorem Fits.pushD {env : Env} {a : Act} (hf : Fits n env a) {d : Option Nat} (hd : okD n.size d = true) (v : Value) : Fits n (pushD d v env) (a.put d v) := by
  cases d with
  | none => exact hf
  | some d => exact hf.put hd v
theorem Sub2.fresh {env : Env} {d : Option Nat} (v : Value) (h : ∀ x, d = some x → look env x = none) : Sub2 env (pushD d v env) := fun x u hx => by
  cases d with
  | none => exact hx
  | some y =>
    rw [E.pushD, look_cons]
    split
    · rename_i e; rw [← e, h y rfl] at hx; cases hx
    · exact hx
theorem opsOk_get {ths : List Th} {init : Nat → Chs} {env0 : Env} {ro : Ro} {base : Chs} : ∀ {l : List Oper} {i0 j : Nat} {d : Option Nat} {op : Op} {ty : TypeId} {pos : String} {af : Array Edge} {g : Option (Nat × Bool)}, opsOk P T ths init env0 ro base l i0 → l[j]? = some ⟨d, op, ty, pos, af, g⟩ →
    ∃ th, ths[i0 + j]? = some th ∧ ∀ env c F, Sub2 env0 env → allPost ths (depsOf af) env → (match th.slot with
      | some s => contAt ths init s (prevF ths s (i0 + j)) env c
      | none => c = []) → ∃ envS, Sub2 envS env ∧ vOp P T op ty d (fun env' ro' own' => ro' = ro ∧ th.post env' ∧ ∃ c', th.cont env' c' ∧ Sup own' (c' ++ (base ++ F))) envS ro (c ++ (base ++ F))
  | [], _, _, _, _, _, _, _, _, _, h => by simp at h
  | ⟨d', op', ty', pos', af', g'⟩ :: l, i0, 0, d, op, ty, pos, af, g, hops, h => by
    simp only [List.getElem?_cons_zero, Option.some.injEq, Oper.mk.injEq] at h
    obtain ⟨rfl, rfl, rfl, rfl, rfl, rfl⟩ := h
    have h1 := hops.1
    split at h1
    · rename_i th hth
      exact ⟨th, hth, h1⟩
    · exact h1.elim
  | ⟨d', op', ty', pos', af', g'⟩ :: l, i0, j + 1, d, op, ty, pos, af, g, hops, h => by
    have := opsOk_get (i0 := i0 + 1) (j := j) hops.2 (by simpa using h)
    rwa [show i0 + 1 + j = i0 + (j + 1) by omega] at this
def dstsL (l : List Oper) : List Nat := l.filterMap (·.dst)
theorem perm_swap {a b c : Chs} : (a ++ b ++ c).Perm (a ++ (c ++ b)) := by
  rw [List.append_assoc]; exact (List.perm_append_comm).append_left a
theorem CodeOk.free {id : Nat} {l : List Oper} {k : Exit → Kt} {env : Env} {ro : Ro} {own : Chs} [hT : TTab P T] (ths : List Th) (m : Nat) (init : Nat → Chs) (base : Chs) {env0 : Env} (hkeep : Keep (dstsL l) env env0) (hown : Sup own (catN init 0 m ++ base))
    (hlen : ths.length = l.length) (hm : P.follows .mixedOrders = true) (hsl : ths.all (fun th => match th.slot with
      | some s => Nat.blt s m
      | none => true) = true) (hb : (ordB l && slotB l ths && dstB l) = true)
    (hops : opsOk P T ths init env0 ro base l 0)
    (hend : ∀ env' cs, Sub2 env0 env' → allPost ths (List.range l.length) env' → finC ths init l.length env' cs 0 m → ∃ envS, Sub2 envS env' ∧ k .normal envS ro (catN cs 0 m ++ base)) : CodeOk P (.region id l.toArray true) k env ro own := by
  refine ⟨fun n σ Q hok hk h hs a w hf hw => wp_region_any hm ?_⟩
  rw [Bool.and_eq_true, Bool.and_eq_true] at hb
  obtain ⟨⟨ho, hsb⟩, hdb⟩ := hb
  have hord0 : ∀ (i : Nat) (o : Oper), l[i]? = some o → (∀ e ∈ o.after, Region.binds .any e = true → e.on < i) ∧ o.guard = none := fun i o hi => by
    have h1 := List.all_eq_true.1 ho (o, i) (by
      obtain ⟨h2, h3⟩ := List.getElem?_eq_some_iff.1 hi
      exact List.mem_zipIdx_iff_getElem?.2 hi)
    rw [Bool.and_eq_true, Array.all_eq_true_iff_forall_mem] at h1
    refine ⟨fun e he hbd => ?_, Option.isNone_iff_eq_none.1 h1.2⟩
    have := h1.1 e he
    rw [hbd] at this
    simpa using this
  have hslot : ∀ i j s, i < j → Has ths s i → Has ths s j → waitsT l.toArray 9 j i = true := fun i j s hij hi hj => by
    obtain ⟨a, ha, has⟩ := hi
    obtain ⟨b, hb, hbs⟩ := hj
    have hjl : j < l.length := by have := (List.getElem?_eq_some_iff.1 hb).1; omega
    have h1 := List.all_eq_true.1 (List.all_eq_true.1 hsb j (List.mem_range.2 hjl)) i (List.mem_range.2 hij)
    rw [ha, hb] at h1
    simp only [has, hbs, Nat.beq_refl] at h1
    simpa using h1
  have hdst : ∀ (i j x : Nat) (o o' : Oper), i ≠ j → l[i]? = some o → l[j]? = some o' → o.dst = some x → o'.dst ≠ some x := by
    have key : ∀ (i j x : Nat) (o o' : Oper), i < j → l[i]? = some o → l[j]? = some o' → o.dst = some x → o'.dst ≠ some x := fun i j x o o' hij hi hj h1 h2 => by
      have hjl := (List.getElem?_eq_some_iff.1 hj).1
      have h3 := List.all_eq_true.1 (List.all_eq_true.1 hdb j (List.mem_range.2 hjl)) i (List.mem_range.2 hij)
      rw [hi, hj] at h3
      simp [h1, h2] at h3
    intro i j x o o' hij hi hj h1 h2
    rcases Nat.lt_or_gt_of_ne hij with h3 | h3
    · exact key i j x o o' h3 hi hj h1 h2
    · exact key j i x o' o h3 hj hi h2 h1
  have hkp := hkeep.spec
  have hsub0 : Sub2 env0 env := (Sub.of fun p hp => (hkp p hp).2).to2
  have hfr0 : ∀ (j : Nat) (o : Oper) (x : Nat), l[j]? = some o → o.dst = some x → look env0 x = none := fun j o x hj hx => by
    have hx2 : x ∈ dstsL l := List.mem_filterMap.2 ⟨o, List.mem_of_getElem? hj, hx⟩
    have : ∀ e : Env, (∀ p ∈ e, p.1 ≠ x) → look e x = none := by
      intro e
      induction e with
      | nil => intro _; rfl
      | cons p e ih =>
        intro he
        obtain ⟨t, v⟩ := p
        rw [look_cons, if_neg (he (t, v) (by simp))]
        exact ih fun q hq => he q (by simp [hq])
    exact this env0 fun p hp e => (hkp p hp).1 (by rw [e]; exact hx2)
  let I : Array Bool → Act → World → Prop := fun ls a w => ∃ env cs, Fits n env a ∧ Hp w.heap σ w ∧ Sat ro (catN cs 0 m ++ base) w.heap ∧ Sub2 env0 env ∧ (∀ (j : Nat) (th : Th), ths[j]? = some th → ls.getD j false = true → th.post env) ∧
    (∀ (j : Nat) (o : Oper) (x : Nat), l[j]? = some o → o.dst = some x → ls.getD j false = false → look env x = none) ∧
    ∀ s, s < m → (∀ p, Has ths s p → ls.getD p false = true → (∀ j, Has ths s j → ls.getD j false = true → j ≤ p) → ∀ th, ths[p]? = some th → th.cont env (cs s)) ∧ ((∀ j, Has ths s j → ls.getD j false = false) → cs s = init s)
  have h0 : ∀ j, (Array.replicate l.length false).getD j false = false := fun j => by simp [Array.getD]
  have := wpAny_inv (P := P) (Q := Q) (l := l) I (fun i o hi => (hord0 i o hi).1) ?_ ?_ l.length (Array.replicate l.length false) a { w with drawn := w.drawn + 1 } (by simp) (fun j o _ hd => by rw [h0] at hd; cases hd) (by
      simp) ⟨env0, init, hf.sub2 hsub0, ⟨rfl, hw.os, hw.tape, hw.output⟩, by
        have : Sat ro own w.heap := by rw [hw.heap]; exact hs
        exact this.sup hown, Sub2.refl _, (fun j th _ hd => (by rw [h0] at hd; cases hd)), (fun j o x hj hx _ => hfr0 j o x hj hx), fun s _ => ⟨fun p _ hd => (by rw [h0] at hd; cases hd), fun _ => rfl⟩⟩
  · simpa using this
  · intro ls a w i hz hc hi ⟨env, cs, hF, hH, hS, hsub, hpost, hfr, hsl2⟩
    obtain ⟨hnd, o, hoi, hpre⟩ := mem_ready.1 hi
    have hli : l[i]? = some o := by simpa using hoi
    have hil : i < l.length := (List.getElem?_eq_some_iff.1 hli).1
    have hund : ls.getD i false = false := ready_undone hi
    obtain ⟨d, op, ty, pos, af, g⟩ := o
    obtain rfl : g = none := (hord0 i _ hli).2
    obtain ⟨th, hth, hob⟩ := opsOk_get hops hli
    rw [Nat.zero_add] at hth hob
    have hokd : okD n.size d = true := by
      have h1 : l.all (fun o => okD n.size o.dst) = true := by simpa [okS] using hok
      exact List.all_eq_true.1 h1 _ (List.mem_of_getElem? hli)
    have hset : ∀ j, j ≠ i → (ls.setIfInBounds i true).getD j false = ls.getD j false := fun j hj => getD_set_ne false (Ne.symm hj)
    have hseti : (ls.setIfInBounds i true).getD i false = true := by
      have : i < ls.size := by omega
      simp [Array.getD, this]
    have hap : allPost ths (depsOf af) env := allPost_of fun j hj th' hth' => by
      obtain ⟨e, he, hej⟩ := List.mem_filterMap.1 hj
      cases hbd : Region.binds .any e with
      | false => rw [hbd] at hej; cases hej
      | true =>
        rw [hbd] at hej
        cases hej
        exact hpost e.on th' hth' (hpre e (by simpa using he) hbd)
    have hlate : ∀ s j, Has ths s i → Has ths s j → i < j → ls.getD j false = false := fun s j h1 h2 hij => by
      cases e : ls.getD j false with
      | false => rfl
      | true =>
        have := waitsT.done hc (hslot i j s hij h1 h2) (fun o' ho' e' he' hb' => hc j o' ho' e e' he' hb')
        rw [hund] at this; cases this
    have hearly : ∀ s j, Has ths s i → Has ths s j → j < i → ls.getD j false = true := fun s j h1 h2 hij =>
      waitsT.done hc (hslot j i s hij h2 h1) (fun o' ho' e' he' hb' => by rw [hoi] at ho'; cases ho'; exact hpre e' he' hb')
    unfold wpOp
    simp only [List.getElem?_toArray, hli]
    rw [if_pos (show Region.wanted ⟨d, op, ty, pos, af, none⟩ (yielded l.toArray a.tmps) = true from rfl)]
    refine .inl ?_
    have hfi : ∀ x, d = some x → look env x = none := fun x hx => hfr i _ x hli hx hund
    have hmono : ∀ v, Sub2 env (pushD d v env) := fun v => Sub2.fresh v hfi
    have hfr2 : ∀ v (j : Nat) (o : Oper) (x : Nat), l[j]? = some o → o.dst = some x → (ls.setIfInBounds i true).getD j false = false → look (pushD d v env) x = none := fun v j o x hj hx hd => by
      have hji : j ≠ i := fun e => by rw [e, hseti] at hd; cases hd
      rw [hset j hji] at hd
      have h1 := hfr j o x hj hx hd
      cases d with
      | none => exact h1
      | some y =>
        rw [E.pushD, look_cons]
        split
        · rename_i e; exact absurd (by rw [e]) (hdst j i x o _ hji hj hli hx)
        · exact h1
    have hpost2 : ∀ v, th.post (pushD d v env) → ∀ (j : Nat) (th : Th), ths[j]? = some th → (ls.setIfInBounds i true).getD j false = true → th.post (pushD d v env) := fun v hp j th' hth' hd => by
      by_cases hji : j = i
      · subst hji; rw [hth] at hth'; cases hth'; exact hp
      · rw [hset j hji] at hd
        exact th'.mono _ _ (hmono v) (hpost j th' hth' hd)
    have hoth : ∀ v s, ¬ Has ths s i → ∀ cs' : Nat → Chs, cs' s = cs s → s < m → (∀ p, Has ths s p → (ls.setIfInBounds i true).getD p false = true → (∀ j, Has ths s j → (ls.setIfInBounds i true).getD j false = true → j ≤ p) → ∀ th, ths[p]? = some th → th.cont (pushD d v env) (cs' s)) ∧ ((∀ j, Has ths s j → (ls.setIfInBounds i true).getD j false = false) → cs' s = init s) := fun v s hn cs' hcs hsm => by
      have hne : ∀ j, Has ths s j → j ≠ i := fun j hj e => hn (e ▸ hj)
      rw [hcs]
      refine ⟨fun p hp hd hmax th' hth' => ?_, fun hall => (hsl2 s hsm).2 fun j hj => by rw [← hset j (hne j hj)]; exact hall j hj⟩
      rw [hset p (hne p hp)] at hd
      exact th'.monoC _ _ _ (hmono v) ((hsl2 s hsm).1 p hp hd (fun j hj hdj => hmax j hj (by rw [hset j (hne j hj)]; exact hdj)) th' hth')
    cases hslt : th.slot with
    | none =>
      have hn : ∀ s, ¬ Has ths s i := fun s ⟨t, h1, h2⟩ => by rw [hth] at h1; cases h1; rw [hslt] at h2; cases h2
      rw [hslt] at hob
      obtain ⟨envS, hsS, hv⟩ := hob env [] (catN cs 0 m) hsub hap rfl
      refine vOp_wp2 hT.ok hv (hF.sub2 hsS) (hS.perm (by rw [List.nil_append]; exact List.perm_append_comm)) hH (fun v ro' own' w' hl hkk hs' hw' => ?_)
      obtain ⟨rfl, hp, c', hc', hsup⟩ := hkk
      have hp2 := th.mono _ _ (hsS.push d v) hp
      refine ⟨pushD d v env, cs, hF.pushD hokd v, hw', ?_, hsub.trans (hmono v), hpost2 v hp2, hfr2 v, fun s hsm => hoth v s (hn s) cs rfl hsm⟩
      have h1 := hs'.sup hsup
      have h2 : ∀ (c : Chs) (X : Chs), Sat ro' (c ++ X) w'.heap → Sat ro' X w'.heap := by
        intro c
        induction c with
        | nil => intro X hX; exact hX
        | cons y c ih => intro X hX; exact ih X hX.drop
      exact (h2 c' _ h1).perm List.perm_append_comm
    | some s =>
      have hhas : Has ths s i := ⟨th, hth, hslt⟩
      have hsm : s < m := by
        have := List.all_eq_true.1 hsl th (List.mem_of_getElem? hth)
        rw [hslt] at this
        simpa using this
      rw [hslt] at hob
      obtain ⟨F, hFp⟩ := catN_split cs s m 0 (Nat.zero_le _) (by omega)
      have hself : (fun j => if j = s then cs s else cs j) = cs := by funext j; split; rename_i e; rw [e]; rfl
      have hbefore : contAt ths init s (prevF ths s i) env (cs s) := by
        rcases prevF_spec (ths := ths) (s := s) i with ⟨h1, h2⟩ | ⟨p, h1, h2, h3, h4⟩
        · rw [h1]
          refine (hsl2 s hsm).2 fun j hj => ?_
          rcases Nat.lt_trichotomy j i with h | h | h
          · exact absurd hj (h2 j h)
          · rw [h]; exact hund
          · exact hlate s j hhas hj h
        · rw [h1]
          obtain ⟨thp, hthp, hsp⟩ := h3
          show (match ths[p]? with | some th => th.cont env (cs s) | none => False)
          rw [hthp]
          refine (hsl2 s hsm).1 p ⟨thp, hthp, hsp⟩ (hearly s p hhas ⟨thp, hthp, hsp⟩ h2) (fun j hj hdj => ?_) thp hthp
          rcases Nat.lt_trichotomy j i with h | h | h
          · exact h4 j h hj
          · rw [h, hund] at hdj; cases hdj
          · rw [hlate s j hhas hj h] at hdj; cases hdj
      obtain ⟨envS, hsS, hv⟩ := hob env (cs s) F hsub hap hbefore
      refine vOp_wp2 hT.ok hv (hF.sub2 hsS) (hS.perm ?_) hH (fun v ro' own' w' hl hkk hs' hw' => ?_)
      · have := hFp (cs s)
        rw [hself] at this
        exact (this.append_right base).trans perm_swap
      · obtain ⟨rfl, hp, c', hc', hsup⟩ := hkk
        have hp2 := th.mono _ _ (hsS.push d v) hp
        have hc2 := th.monoC _ _ _ (hsS.push d v) hc'
        refine ⟨pushD d v env, fun j => if j = s then c' else cs j, hF.pushD hokd v, hw', ?_, hsub.trans (hmono v), hpost2 v hp2, hfr2 v, fun s' hsm' => ?_⟩
        · exact (hs'.sup hsup).perm (((hFp c').append_right base).trans perm_swap).symm
        · by_cases hss : s' = s
          · subst hss
            refine ⟨fun p hp hd hmax th' hth' => ?_, fun hall => ?_⟩
            · have h1 : i ≤ p := hmax i hhas hseti
              have h2 : p = i := by
                apply Classical.byContradiction
                intro hne
                have h3 := hlate s' p hhas hp (by omega)
                rw [hset p hne, h3] at hd; cases hd
              subst h2
              rw [hth] at hth'
              cases hth'
              show th.cont _ (if s' = s' then c' else cs s')
              rw [if_pos rfl]; exact hc2
            · have := hall i hhas; rw [hseti] at this; cases this
          · refine hoth v s' (fun ⟨t, h1, h2⟩ => ?_) (fun j => if j = s then c' else cs j) (if_neg hss) hsm'
            rw [hth] at h1; cases h1; rw [hslt] at h2; cases h2; exact hss rfl
  · intro ls a w hz hd ⟨env, cs, hF, hH, hS, hsub, hpost, hfr, hsl2⟩
    obtain ⟨envS, hsS, hkk⟩ := hend env cs hsub (allPost_of fun j hj th hth => hpost j th hth (hd j (List.mem_range.1 hj))) (finC_of m 0 fun s h1 h2 => by
      have hsm : s < m := by omega
      rcases prevF_spec (ths := ths) (s := s) l.length with ⟨h3, h4⟩ | ⟨p, h3, h4, h5, h6⟩
      · rw [h3]
        refine (hsl2 s hsm).2 fun j hj => ?_
        obtain ⟨t, ht1, ht2⟩ := hj
        have := (List.getElem?_eq_some_iff.1 ht1).1
        exact absurd ⟨t, ht1, ht2⟩ (h4 j (by omega))
      · rw [h3]
        obtain ⟨thp, hthp, hsp⟩ := h5
        show (match ths[p]? with | some th => th.cont env (cs s) | none => False)
        rw [hthp]
        refine (hsl2 s hsm).1 p ⟨thp, hthp, hsp⟩ (hd p h4) (fun j hj _ => ?_) thp hthp
        obtain ⟨t, ht1, ht2⟩ := hj
        have := (List.getElem?_eq_some_iff.1 ht1).1
        exact h6 j (by omega) ⟨t, ht1, ht2⟩)
    exact hk .normal envS ro _ n.D w.heap (Le.refl _) hkk hS (Mk.refl _ _ _ _) a w (hF.sub2 hsS) hH
end
/-- The walk, as far as a region that draws its order. -/
theorem wkN {q p : Prop} (h : q) (e : Hd q → p := by
  intro hWk
  first
    | refine Stop.mk ?_
    | (show _ ∧ _; refine And.intro sdAuto ?_)
    | (show OpOk _ _ _ _ _ _ _; first
        | refine OpOk.load rfl rfl Ld.auto ?_
        | refine OpOk.loadRow rfl rfl LdN.hasBlk rfl ?_
        | refine OpOk.loadPart rfl rfl Nf.auto rfAuto ?_
        | refine OpOk.store rfl rfl rfl rfl SetR.auto ?_
        | refine OpOk.storeRow rfl rfl rfl rfl (by rfl) rfl ?_
        | refine OpOk.idx1 rfl rfl rfl (by omega) AOk.auto ?_
        | refine OpOk.idxA rfl rfl rfl (by omega) ?_
        | refine OpOk.idx rfl rfl rfl (by omega) AOk.auto ?_
        | refine OpOk.andN rfl rfl sdAuto ?_
        | refine OpOk.eqlSl rfl rfl ?_
        | refine OpOk.neqSl rfl rfl ?_
        | refine OpOk.clip rfl rfl rfl rfl (by omega) ?_
        | refine OpOk.build rfl rfl Nf.auto ?_
        | refine OpOk.toStr rfl rfl rfl rfl Rds.auto ?_)
    | (show QOk _ _ _ _ _ _ _; first | refine QOk.load rfl rfl Ld.auto ?_ | refine QOk.idx1 rfl rfl rfl (by omega) AOk.auto ?_ | refine QOk.idxA rfl rfl rfl (by omega) ?_ | refine QOk.idx rfl rfl rfl (by omega) AOk.auto ?_ | refine QOk.loadRow rfl rfl LdN.hasBlk rfl ?_ | refine QOk.loadPart rfl rfl Nf.auto rfAuto ?_ | refine QOk.toStr rfl rfl rfl rfl Rds.auto ?_)
    | (show GJ _ _ _ _ _ _ _; first | with_reducible refine GJ.l1 ?_ | with_reducible refine GJ.l2 ?_ | with_reducible refine GJ.l3 ?_ | with_reducible refine GJ.l4 ?_ | with_reducible refine GJ.n1 ?_ | with_reducible refine GJ.n2 ?_ | with_reducible refine GJ.n3 ?_ | with_reducible refine GJ.n4 ?_ | refine GJ.t (by omega) ?_ | refine GJ.f (by omega) ?_ | refine GJ.ft (by omega) ?_ | refine GJ.ff (by omega) ?_)
    | (show Br _ _ _; first | with_reducible refine Br.tt ?_ | with_reducible refine Br.ff ?_ | with_reducible refine Br.nt ?_ | with_reducible refine Br.nf ?_ | refine Br.t (by omega) ?_ | refine Br.f (by omega) ?_)
    | (show Bk _ _ _; refine Bk.all Sup.auto ?_)
    | (show RetOk _ _ _ _ _ _; refine RetOk.of (T := T) RL.auto ?_)
  repeat (first
    | refine Stop.mk ?_
    | (show _ ∧ _; refine And.intro sdAuto ?_)
    | (show OpOk _ _ _ _ _ _ _; first
        | refine OpOk.load rfl rfl Ld.auto ?_
        | refine OpOk.loadRow rfl rfl LdN.hasBlk rfl ?_
        | refine OpOk.loadPart rfl rfl Nf.auto rfAuto ?_
        | refine OpOk.store rfl rfl rfl rfl SetR.auto ?_
        | refine OpOk.storeRow rfl rfl rfl rfl (by rfl) rfl ?_
        | refine OpOk.idx1 rfl rfl rfl (by omega) AOk.auto ?_
        | refine OpOk.idxA rfl rfl rfl (by omega) ?_
        | refine OpOk.idx rfl rfl rfl (by omega) AOk.auto ?_
        | refine OpOk.andN rfl rfl sdAuto ?_
        | refine OpOk.eqlSl rfl rfl ?_
        | refine OpOk.neqSl rfl rfl ?_
        | refine OpOk.clip rfl rfl rfl rfl (by omega) ?_
        | refine OpOk.build rfl rfl Nf.auto ?_
        | refine OpOk.toStr rfl rfl rfl rfl Rds.auto ?_)
    | (show QOk _ _ _ _ _ _ _; first | refine QOk.load rfl rfl Ld.auto ?_ | refine QOk.idx1 rfl rfl rfl (by omega) AOk.auto ?_ | refine QOk.idxA rfl rfl rfl (by omega) ?_ | refine QOk.idx rfl rfl rfl (by omega) AOk.auto ?_ | refine QOk.loadRow rfl rfl LdN.hasBlk rfl ?_ | refine QOk.loadPart rfl rfl Nf.auto rfAuto ?_ | refine QOk.toStr rfl rfl rfl rfl Rds.auto ?_)
    | (show GJ _ _ _ _ _ _ _; first | with_reducible refine GJ.l1 ?_ | with_reducible refine GJ.l2 ?_ | with_reducible refine GJ.l3 ?_ | with_reducible refine GJ.l4 ?_ | with_reducible refine GJ.n1 ?_ | with_reducible refine GJ.n2 ?_ | with_reducible refine GJ.n3 ?_ | with_reducible refine GJ.n4 ?_ | refine GJ.t (by omega) ?_ | refine GJ.f (by omega) ?_ | refine GJ.ft (by omega) ?_ | refine GJ.ff (by omega) ?_)
    | (show Br _ _ _; first | with_reducible refine Br.tt ?_ | with_reducible refine Br.ff ?_ | with_reducible refine Br.nt ?_ | with_reducible refine Br.nf ?_ | refine Br.t (by omega) ?_ | refine Br.f (by omega) ?_)
    | (show Bk _ _ _; refine Bk.all Sup.auto ?_)
    | (show RetOk _ _ _ _ _ _; refine RetOk.of (T := T) RL.auto ?_))
  exact hWk.get) : p := e ⟨h⟩
end Go.E
/-! Room that nobody has cleared (a Builder grows); copying nothing. No program in sight. -/
namespace Go.E
open Go
set_option linter.unusedVariables false
set_option linter.unusedSimpArgs false
section
variable {P : Program} {f : FuncId} {fn : Func} {ro : Ro} {own : Chs} {K : Value → Ro → Chs → Prop}
theorem CallOk.makeNoZero {n : Nat} {t e : TypeId} {ps : Array TypeId} (hf : P.funcs[f]? = some fn) (hname : (fn.name == "runtime.NumGoroutine") = false) (hb : fn.body.isNone = true) (hn : Extern.findNext fn = none) (he : Extern.find fn = some (Extern.BytealgMakeNoZero.makeNoZero ps #[t]))
    (ht : P.underlying t = some (.slice e)) (hle : n ≤ 134217728) (hk : ∀ b c, n ≤ c → c ≤ maxLen → K (.slice (some ⟨b, 0, none⟩) n c) ro (.sl (some ⟨b, 0, none⟩) 0 c e 1 [] :: own)) : CallOk P f #[.int .i64 (n : Int)] ro own K :=
  ⟨fun w hs => by
    obtain ⟨cs, hrun, h1, h2⟩ := Lib.run_makeNoZero (P := P) w ps t e ht n (by omega)
    have hm := h2 (by unfold maxLen; omega)
    refine .inr ⟨_, w.drew.drew.alloc (.cells cs e), by rw [run_callFunc_extern hf hname hb hn he, hrun]; rfl, ⟨rfl, rfl, rfl, rfl⟩, ro, _, Le.refl _, ?_, hk w.heap.size cs.size h1 hm⟩
    have hnew : (w.drew.drew.alloc (.cells cs e)).heap[w.heap.size]? = some (.cells cs e (0, 0)) := by
      exact World.alloc_heap_new w.drew.drew (.cells cs e)
    refine hs.new (fun b hb => ?_) ⟨rfl, Nat.zero_le _, hm, .inr ⟨w.heap.size, cs.toList, rfl, ?_, by simp⟩⟩ (by simp [Chunk.fp]) (by simp [Chunk.fp])
    · have hb' : b ≠ w.heap.size := by omega
      exact Go.RowKit.Below.heap_alloc w.drew.drew (.cells cs e) b hb
    · show (w.drew.drew.alloc (.cells cs e)).heap[w.heap.size]? = some (.cells ([] ++ cs.toList).toArray e (0, 0))
      rw [hnew]; simp⟩
end
section
variable {P : Program} {T : TT} [hT : TTab P T] {ty : TypeId} {env : Env} {ro : Ro} {own : Chs} {K : Value → Ro → Chs → Prop}
theorem OpOk.copy0 {x y : Operand} {t t2 e : TypeId} {s z1 : Nat} {z2 : List Value} {dp sp : Option Addr} {dLen dCap sLen sCap : Nat} (hx : ev env x = some (.slice dp dLen dCap)) (hy : ev env y = some (.slice sp sLen sCap)) (hu : P.underlying t = some (.slice e)) (hsz : (P.info? e).map (·.size) = some 1) (hn : Nat.min sLen dLen = 0)
    (hk : K (.int .i64 0) ro own) : OpOk P (.call ⟨.builtin .copy, #[x, y], #[t, t2]⟩) ty env ro own K :=
  OpOk.pu (fun h hs d pos af g => .mk fun ρ w hρ hw => by
    have hr := run_copy_none (P := P) w t t2 ty e dp sp dLen dCap sLen sCap hu hsz hn
    simp only [execOp, resolve, invoke, builtin, Sem.run_bind, Sem.run_pure, Result.andThen_ok]
    simp [hρ _ _ hx, hρ _ _ hy, hr, Result.andThen]
    rfl) hk
theorem cutA_zero (a : Option Addr) (c s : Nat) : cutA a 0 c s = a := by
  unfold cutA
  split
  · rfl
  · cases a with
    | none => rfl
    | some a => simp [Addr.add]
end
end Go.E
/-! A contract of the shelf as one of this engine: it leaves what was there as it was. No program in sight. -/
namespace Go.E
open Go
set_option linter.unusedVariables false
section
variable {P : Program} {f : FuncId} {ro : Ro} {own : Chs} {K : Value → Ro → Chs → Prop}
theorem CallOk.ofBelow {args : Array Value} {v : Value} (enter : ∀ args w, (callFunc f args).run P w = .ok (.enter f args) w) (h : ∀ w, Calls P f args w fun e w' => e = .returned v ∧ Go.RowKit.Below w.heap.size w w') (hk : K v ro own) : CallOk P f args ro own K :=
  CallOk.body enter fun h0 hs w hw => (h w).mono fun e w' ⟨he, hb⟩ => ⟨v, he, ⟨rfl, hb.os, hb.tape, hb.output⟩, ro, own, Le.refl _, hs.keep (fun b hb' => by subst hw; exact hb.block b hb'), hk⟩
end
end Go.E
/-! Slices of structs that are made; what lies in them is left open. No program in sight. -/
namespace Go.E
open Go
set_option linter.unusedVariables false
section
variable {P : Program} {T : TT} [hT : TTab P T] {ty : TypeId} {env : Env} {ro : Ro} {own : Chs} {K : Value → Ro → Chs → Prop}
theorem OpOk.makeR {t e : TypeId} {x y : Operand} {n s : Nat} {k k' : IntKind} (hx : ev env x = some (.int k (n : Int))) (hy : ev env y = some (.int k' (n : Int))) (ht : elemOf T t = some (e, s)) (hn : n ≤ 134217728)
    (hk : ∀ b cs, cs.length = n * s → K (.slice (some ⟨b, 0, none⟩) n n) ro (.sl (some ⟨b, 0, none⟩) n n e s cs :: own)) : OpOk P (.makeSlice t x y) ty env ro own K := by
  have h00 := elemOf_spec ht
  clear ht
  obtain ⟨z1, z2, te, ht, he, rfl, hzs, hpos'⟩ := h00
  obtain ⟨du, j, z, hi⟩ := tiOf.all (hT.ok.get he)
  exact ⟨fun h hs d pos af g => .mk fun ρ w hρ hw => by
    subst hw
    have hsz : j.size = te.size := hi.size.symm
    have hbytes : (j.bytes : Int) * (n : Int) ≤ 140737488355328 := by
      have h1 : (j.bytes : Int) ≤ 1048576 := by have := hi.bytes; omega
      calc (j.bytes : Int) * (n : Int) ≤ 1048576 * 134217728 := Int.mul_le_mul h1 (by omega) (by omega) (by omega)
        _ ≤ 140737488355328 := by decide
    have hr := run_make (P := P) w t e j z (hT.ok.slice ht) hi.info hi.zero k k' n n (by omega) (Int.le_refl _) (by omega) (by omega)
    rw [Int.toNat_natCast] at hr
    have hlen : (madeCells z.cells (n * j.size)).toList.length = n * te.size := by
      rw [← hsz]; simp [madeCells]
    refine ⟨_, { w with heap := w.heap.push (.cells (madeCells z.cells (n * j.size)) e) }, .inl ?_, ⟨rfl, rfl, rfl, rfl⟩, ro, _, Le.refl _,
      hs.new (c' := .sl (some ⟨w.heap.size, 0, none⟩) n n e te.size (madeCells z.cells (n * j.size)).toList) (newly_push w (.cells (madeCells z.cells (n * j.size)) e)).2.2 ⟨hlen, Nat.le_refl _, by unfold maxLen; omega, .inr ⟨w.heap.size, [], rfl, ?_, by rw [hlen]; simp⟩⟩ (by simp [Chunk.fp]) (by simp [Chunk.fp]), hk w.heap.size _ hlen⟩
    · simp only [execOp, hρ _ _ hx, hρ _ _ hy, Sem.run_bind]
      rw [hr]
      rfl
    · unfold RowR hm
      rw [List.append_nil]
      exact (newly_push w (.cells (madeCells z.cells (n * j.size)) e)).2.1⟩
theorem splice_app {cs sp vs : List Value} {k : Nat} (h : k + vs.length ≤ cs.length) : splice (cs ++ sp) k vs = splice cs k vs ++ sp := by
  unfold splice
  rw [List.take_append_of_le_length (by omega), List.drop_append_of_le_length (by omega), List.append_assoc]
  simp
theorem splice_len {cs vs : List Value} {k : Nat} (h : k + vs.length ≤ cs.length) : (splice cs k vs).length = cs.length := by
  simp [splice]; omega
/-- A struct is stored whole, into a slice of one's own. -/
theorem OpOk.storeSlRow {t : TypeId} {x y : Operand} {a : Option Addr} {k o : Nat} {vs : List Value} {n c s z : Nat} {t0 : TypeId} {cs : List Value} {f : Chunk → Chs} (hx : ev env x = some (.pointer (some ⟨ab a, o, none⟩))) (hy : ev env y = some (.agg vs.toArray)) (ht : rowT T t = some z) (hz : vs.length = z) (h1 : vs.all (fun u => u.oneCell') = true)
    [hb : HasSl own a n c t0 s cs f] (ho : o = ao a + k) (hlt : k + z ≤ cs.length) (hpos : 0 < z) (hk : K undef ro (f (.sl a n c t0 s (splice cs k vs)))) : OpOk P (.store t x y) ty env ro own K :=
  ⟨fun h hsat d pos af g => by
    subst ho
    obtain ⟨r, p1, p2⟩ := (hb.repl (.sl a n c t0 s (splice cs k vs))).perm
    have hsat := hsat.perm p1
    obtain ⟨c1, c2, c3, c4⟩ := hsat.cons.1
    have hsl := splice_len (cs := cs) (vs := vs) (k := k) (by omega)
    rcases c4 with ⟨rfl, rfl, rfl⟩ | ⟨b, sp, rfl, c5, c6⟩
    · simp at c1; subst c1; simp at hlt; omega
    · simp only [ab, ao, Nat.zero_add] at hx
      refine (Eff.storeN0 hx hy ((rsz ht).trans (by simp [Value.cells, hz])) (by simpa [Value.cells] using List.all_eq_true.1 h1) c5 (by simp [Value.cells]; omega)).mono ?_
      rintro _ h' ⟨rfl, g1, g2, g3⟩
      refine ⟨ro, _, Le.refl _, (hsat.put (c' := .sl (some ⟨b, 0, none⟩) n c t0 s (splice cs k vs)) (fun k _ hk => g3 k (by simpa [Chunk.fp] using hk)) ⟨by rw [hsl]; exact c1, c2, c3, .inr ⟨b, sp, rfl, ?_, by rw [hsl]; exact c6⟩⟩ (fun k hk => .inl hk) (by simp [Chunk.fp])).perm p2.symm, hk⟩
      rw [← splice_app (by omega)]
      have g2' : Row h' b t0 (splice (cs ++ sp) k vs) := by simpa [Value.cells] using g2
      exact g2'⟩
end
end Go.E
/-! A slice of one's own is told shorter. No program in sight. -/
namespace Go.E
open Go
set_option linter.unusedVariables false
section
variable {P : Program} {T : TT} {ty : TypeId} {env : Env} {ro : Ro} {own : Chs} {K : Value → Ro → Chs → Prop}
theorem Chunk.holds.shrink {ro : Ro} {a : Option Addr} {n m c s : Nat} {t : TypeId} {cs : List Value} (h : (Chunk.sl a n c t s cs).holds ro) (hm : m ≤ n) : (Chunk.sl a m c t s (cs.take (m * s))).holds ro := by
  obtain ⟨h1, h2, h3, h4⟩ := h
  have hms := Nat.mul_le_mul_right s hm
  refine ⟨by rw [List.length_take]; omega, by omega, h3, ?_⟩
  rcases h4 with ⟨h5, h6, h7⟩ | ⟨b, sp, rfl, h5, h6⟩
  · exact .inl ⟨h5, by omega, h7⟩
  · refine .inr ⟨b, cs.drop (m * s) ++ sp, rfl, ?_, ?_⟩
    · rw [← List.append_assoc, List.take_append_drop]; exact h5
    · rw [List.length_append, List.length_take, List.length_drop]; omega
theorem Sat.shrink {ro : Ro} {own : Chs} {h : Heap} {a : Option Addr} {n m c s : Nat} {t : TypeId} {cs : List Value} {f : Chunk → Chs} [hb : HasSl own a n c t s cs f] (hm : m ≤ n) (hs : Sat ro own h) : Sat ro (f (.sl a m c t s (cs.take (m * s)))) h := by
  obtain ⟨r, p1, p2⟩ := hb.split
  refine Sat.perm ?_ (p2 _)
  have hs := hs.perm p1
  refine hs.put (fun b _ _ => rfl) (hs.cons.1.shrink hm) (fun b hb => .inl ?_) ?_
  · cases a <;> exact hb
  · cases a <;> simp [Chunk.fp]
theorem QOk.eqlStruct [hT : TTab P T] {K : Value → Prop} {t yt : TypeId} {x y : Operand} {xs ys : List Value} {fs : List (TypeId × Nat × Nat)} {z1 : Nat} {z2 : List Value} {q : Bool} (hx : ev env x = some (.agg xs.toArray)) (hy : ev env y = some (.agg ys.toArray)) (ht : T.get t = some ⟨.struct fs, z1, z2⟩) (hq : eqFs T xs ys fs = some q)
    (h1 : P.stoodInHeld t = false) (h2 : P.eqGuardType P.depth t = false) (h3 : ((P.fieldsOf t).toList.all fun f => f.name != "_") = true) (hk : K (.bool q)) : QOk P (.binOp .eql t x y yt) ty env ro own K := by
  obtain ⟨l, e1, e2, _⟩ := hT.ok.struct ht
  have e3 : P.fieldsOf t = l.toArray := by simp [Program.fieldsOf, e1]
  rw [e3] at h3
  subst e2
  refine QOk.pu (fun h hs d pos af g => .mk fun ρ w hρ _ => ?_) hk
  have h4 := eqFs_spec (P := P) (T := T) (xs := xs) (ys := ys) 9998 w l q (fun f hf => by have := List.all_eq_true.1 h3 f (by simpa using hf); simpa using this) hq
  simp only [execOp, hρ _ _ hx, hρ _ _ hy, Sem.run_bind, run_eqGuard_agg w .eql t x y _ _ h2, Result.andThen_ok, run_eql_struct, run_equalIn_agg w 9999 t _ _ (by rw [e3]; exact e1) h1, e3, h4, Sem.run_pure]
theorem OpOk.shrink {op : Op} {a : Option Addr} {n m c s : Nat} {t : TypeId} {cs : List Value} {f : Chunk → Chs} [hb : HasSl own a n c t s cs f] (hm : m ≤ n) (h : OpOk P op ty env ro (f (.sl a m c t s (cs.take (m * s)))) K) : OpOk P op ty env ro own K :=
  ⟨fun g hg => h.run g (hg.shrink hm)⟩
theorem CallOk.shrink {q : FuncId} {args : Array Value} {a : Option Addr} {n m c s : Nat} {t : TypeId} {cs : List Value} {f : Chunk → Chs} [hb : HasSl own a n c t s cs f] (hm : m ≤ n) (h : CallOk P q args ro (f (.sl a m c t s (cs.take (m * s)))) K) : CallOk P q args ro own K :=
  h.post (fun _ h => h.shrink hm) (fun v ro' own' h' hl hs hK => ⟨ro', own', hl, hs, hK⟩)
end
end Go.E
/-! A struct within a struct is stored. No program in sight. -/
namespace Go.E
open Go
set_option linter.unusedVariables false
section
variable {P : Program} {T : TT} [hT : TTab P T] {ty : TypeId} {env : Env} {ro : Ro} {own : Chs} {K : Value → Ro → Chs → Prop}
theorem OpOk.storePart {t : TypeId} {x y : Operand} {b o : Nat} {vs : List Value} {t0 : TypeId} {cs cs' : List Value} {f : Chunk → Chs} {z : Nat} (hx : ev env x = some (.pointer (some ⟨b, o, none⟩))) (hy : ev env y = some (.agg vs.toArray)) (ht : rowT T t = some z) (hz : vs.length = z) (h1 : vs.all (fun u => u.oneCell') = true)
    [hb : HasBlk own b t0 cs f] (hc : o + z ≤ cs.length) (he : Nf (splice cs o vs) cs') (hk : K undef ro (f (.blk b t0 cs'))) : OpOk P (.store t x y) ty env ro own K :=
  ⟨fun h hsat d pos af g => by
    have he := he.eq
    subst he
    obtain ⟨r, p1, p2⟩ := (hb.repl (.blk b t0 (splice cs o vs))).perm
    have hsat := hsat.perm p1
    refine (Eff.storeN0 hx hy ((rsz ht).trans (by simp [Value.cells, hz])) (by simpa [Value.cells] using List.all_eq_true.1 h1) hsat.cons.1 (by simp [Value.cells]; omega)).mono ?_
    rintro _ h' ⟨rfl, g1, g2, g3⟩
    have g2' : Row h' b t0 (splice cs o vs) := by simpa [Value.cells] using g2
    exact ⟨ro, _, Le.refl _, (hsat.put (c' := .blk b t0 (splice cs o vs)) (fun k _ hk => g3 k (by simpa [Chunk.fp] using hk)) g2' (fun k hk => .inl hk) (by simp [Chunk.fp])).perm p2.symm, hk⟩⟩
theorem LdN.slRow {a : Option Addr} {n c s k z : Nat} {t : TypeId} {cs vs : List Value} {f : Chunk → Chs} [hb : HasSl own a n c t s cs f] (hd : (cs.drop k).take z = vs) : LdN ro own (ab a) (ao a + k) vs := hd ▸ LdN.hasSl
theorem Wk.outE {K : Value → Ro → Chs → Prop} {v u : Value} {env : Env} {ro : Ro} {own own1 own' : Chs} (hs : Sup own own1) (hp : own1.Perm own') (h : K u ro own') (e : u = v) : Wk (fun _ ro own => K v ro own) env ro own := by subst e; exact Wk.outS hs hp h
end
end Go.E
/-! An array behind a pointer is cut. No program in sight. -/
namespace Go.E
open Go
set_option linter.unusedVariables false
section
variable {P : Program} {T : TT} [hT : TTab P T] {ty : TypeId} {env : Env} {ro : Ro} {own : Chs} {K : Value → Ro → Chs → Prop}
theorem OpOk.sliceArrL {t : TypeId} {x lo : Operand} {b n s : Nat} {k : IntKind} {l : Int} (hx : ev env x = some (.pointer (some ⟨b, 0, none⟩))) (hl : ev env lo = some (.int k l)) (hm : elemA T t = some (n, s)) (h : 0 ≤ l ∧ l < n)
    (hk : K (.slice (some ⟨b, l.toNat * s, none⟩) (n - l.toNat) (n - l.toNat)) ro own) : OpOk P (.slice t x (some lo) none none) ty env ro own K := by
  have h00 := elemA_spec hm
  clear hm
  obtain ⟨e, z3, z4, te, hm, he, rfl⟩ := h00
  have hu := hT.ok.arr hm
  have h1 : P.elem t = e := by simp [Program.elem, hu]
  have h2 : P.arrayLen t = n := by simp [Program.arrayLen, hu]
  have hu' : P.underlying t = some (.array (P.arrayLen t) (P.elem t)) := by rw [h1, h2]; exact hu
  exact OpOk.pu (fun g hs d pos af gd => .mk fun ρ w hρ _ => by
    simp only [execOp, Option.map_some, Option.map_none, hρ _ _ hx, hρ _ _ hl, Sem.run_bind]
    rw [run_sliceAt_array_l w t ⟨b, 0, none⟩ hu' k l h.1 (by rw [h2]; omega), h1, h2, sizeOf_of (hT.ok.sz he)]
    simp only [Sem.run_pure, Result.andThen_ok, slicedAt]
    rw [if_neg (by omega)]
    simp [Addr.add_mid]) hk
theorem Rds.arr {b k n : Nat} {t : TypeId} {cs : List Value} {f : Chunk → Chs} {l : List Value} [hb : HasBlk own b t cs f] (hd : cs.drop k = l) (hn : l.length = n) (h0 : 0 < n) (hm : n ≤ maxLen) : Rds ro own (some ⟨b, k, none⟩) n n 1 l := by
  subst hd
  refine ⟨fun h hs => ?_, by omega, Nat.le_refl _, hm⟩
  have hc := LdN.hasBlk (ro := ro) (own := own) (b := b) h hs
  have hlt : b < h.size := by
    have := (hb.repl (.obj 0 default)).get hs
    exact this.lt b (by simp [Chunk.fp])
  refine .inr ⟨h0, b, k, n, rfl, Nat.le_refl _, hm, hlt, fun j v hv => ?_⟩
  have := hc (k + j) v (by rw [← hv, List.getElem?_drop])
  simpa using this
end
end Go.E
