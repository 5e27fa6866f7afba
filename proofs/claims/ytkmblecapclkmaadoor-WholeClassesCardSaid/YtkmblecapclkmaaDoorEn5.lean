/- Regions that draw their order, one of whose operations may make things that last: as CodeOk.free, what is known behind an operation may speak of what lasts. No program in sight. -/
import Derived.Test.YtkmblecapclkmaaDoorEn3
namespace Go.E.FR
open Go Go.E
set_option linter.unusedVariables false
structure Th where
  post : Ro → Env → Prop
  slot : Option Nat
  cont : Env → Chs → Prop
  mono : ∀ r r' e e', Le r r' → Sub2 e e' → post r e → post r' e'
  monoC : ∀ e e' c, Sub2 e e' → cont e c → cont e' c
/-- It yields a value. -/
def Th.val (d : Nat) (v : Value) : Th := ⟨fun _ e => look e d = some v, none, fun _ c => c = [], fun _ _ e e' _ hs h => hs _ _ h, fun _ _ _ _ h => h⟩
/-- .. a value that is known by a condition, which may speak of what lasts. -/
def Th.any (d : Nat) (p : Ro → Value → Prop) (hp : ∀ r r' v, Le r r' → p r v → p r' v) : Th := ⟨fun r e => ∃ v, look e d = some v ∧ p r v, none, fun _ c => c = [], fun _ _ e e' hl hs ⟨v, h, hv⟩ => ⟨v, hs _ _ h, hp _ _ _ hl hv⟩, fun _ _ _ _ h => h⟩
/-- It makes a block. -/
def Th.new (d s : Nat) (f : Nat → Chs) : Th := ⟨fun _ e => ∃ b, look e d = some (ptr' b), some s, fun e c => ∃ b, look e d = some (ptr' b) ∧ c = f b, fun _ _ e e' _ hs ⟨b, h⟩ => ⟨b, hs _ _ h⟩, fun e e' c hs ⟨b, h, hc⟩ => ⟨b, hs _ _ h, hc⟩⟩
/-- It changes the block that another one made. -/
def Th.set (d s : Nat) (f : Nat → Chs) : Th := ⟨fun _ _ => True, some s, fun e c => ∃ b, look e d = some (ptr' b) ∧ c = f b, fun _ _ _ _ _ _ _ => trivial, fun e e' c hs ⟨b, h, hc⟩ => ⟨b, hs _ _ h, hc⟩⟩
/-- .. the block into which it writes a value that another operation has made. -/
def Th.put (d s t : Nat) (f : Nat → Value → Chs) : Th := ⟨fun _ _ => True, some s, fun e c => ∃ b v, look e d = some (ptr' b) ∧ look e t = some v ∧ c = f b v, fun _ _ _ _ _ _ _ => trivial, fun e e' c hs ⟨b, v, h, ht, hc⟩ => ⟨b, v, hs _ _ h, hs _ _ ht, hc⟩⟩
def allPost (ths : List Th) : List Nat → Ro → Env → Prop
  | [], _, _ => True
  | j :: r, ro, env => (match ths[j]? with
    | some th => th.post ro env
    | none => True) ∧ allPost ths r ro env
theorem allPost_of {ths : List Th} {ro : Ro} {env : Env} : ∀ {l : List Nat}, (∀ j ∈ l, ∀ th, ths[j]? = some th → th.post ro env) → allPost ths l ro env
  | [], _ => trivial
  | j :: r, h => ⟨by
      split
      · rename_i th he; exact h j (by simp) th he
      · trivial, allPost_of fun k hk => h k (by simp [hk])⟩
def prevF (ths : List Th) (s : Nat) : Nat → Option Nat
  | 0 => none
  | i + 1 => match ths[i]? with
    | some th => (match th.slot with
      | some t => bif Nat.beq t s then some i else prevF ths s i
      | none => prevF ths s i)
    | none => prevF ths s i
def contAt (ths : List Th) (init : Nat → Chs) (s : Nat) (q : Option Nat) (env : Env) (c : Chs) : Prop := match q with
  | none => c = init s
  | some p => match ths[p]? with
    | some th => th.cont env c
    | none => False
def Has (ths : List Th) (s j : Nat) : Prop := ∃ th, ths[j]? = some th ∧ th.slot = some s
theorem prevF_spec {ths : List Th} {s : Nat} : ∀ (i : Nat), (prevF ths s i = none ∧ ∀ j, j < i → ¬ Has ths s j) ∨ ∃ p, prevF ths s i = some p ∧ p < i ∧ Has ths s p ∧ ∀ j, j < i → Has ths s j → j ≤ p
  | 0 => .inl ⟨rfl, fun j hj => absurd hj (by omega)⟩
  | i + 1 => by
    by_cases hi : Has ths s i
    · obtain ⟨th, h1, h2⟩ := hi
      refine .inr ⟨i, ?_, by omega, ⟨th, h1, h2⟩, fun j hj _ => by omega⟩
      rw [prevF, h1]
      simp only [h2, Nat.beq_refl, cond_true]
    · have e : prevF ths s (i + 1) = prevF ths s i := by
        rw [prevF]
        split
        · rename_i th h1
          split
          · rename_i t h2
            cases hb : Nat.beq t s with
            | true => exact absurd ⟨th, h1, by rw [h2, Nat.eq_of_beq_eq_true hb]⟩ hi
            | false => rfl
          · rfl
        · rfl
      rcases prevF_spec (ths := ths) (s := s) i with ⟨h1, h2⟩ | ⟨p, h1, h2, h3, h4⟩
      · refine .inl ⟨by rw [e, h1], fun j hj => ?_⟩
        rcases Nat.lt_succ_iff_lt_or_eq.1 hj with hj | rfl
        · exact h2 j hj
        · exact hi
      · refine .inr ⟨p, by rw [e, h1], by omega, h3, fun j hj hh => ?_⟩
        rcases Nat.lt_succ_iff_lt_or_eq.1 hj with hj | rfl
        · exact h4 j hj hh
        · exact absurd hh hi
def slotB (l : List Oper) (ths : List Th) : Bool := (List.range l.length).all fun j => (List.range j).all fun i => match ths[i]?, ths[j]? with
  | some a, some b => (match a.slot, b.slot with
    | some s, some t => !Nat.beq s t || waitsT l.toArray 9 j i
    | _, _ => true)
  | _, _ => true
def opsOk (P : Program) (T : TT) (ths : List Th) (init : Nat → Chs) (env0 : Env) (ro0 : Ro) (base : Chs) : List Oper → Nat → Prop
  | [], _ => True
  | ⟨d, op, ty, _, af, _⟩ :: l, i => (match ths[i]? with
    | some th => ∀ ro env c F, Le ro0 ro → Sub2 env0 env → allPost ths (depsOf af) ro env → (match th.slot with
      | some s => contAt ths init s (prevF ths s i) env c
      | none => c = []) → ∃ envS, Sub2 envS env ∧ vOp P T op ty d (fun env' ro' own' => Le ro ro' ∧ th.post ro' env' ∧ ∃ c', th.cont env' c' ∧ Sup own' (c' ++ (base ++ F))) envS ro (c ++ (base ++ F))
    | none => False) ∧ opsOk P T ths init env0 ro0 base l (i + 1)
def finC (ths : List Th) (init : Nat → Chs) (N : Nat) (env : Env) (cs : Nat → Chs) : Nat → Nat → Prop
  | _, 0 => True
  | k, n + 1 => contAt ths init k (prevF ths k N) env (cs k) ∧ finC ths init N env cs (k + 1) n
theorem finC_of {ths : List Th} {init : Nat → Chs} {N : Nat} {env : Env} {cs : Nat → Chs} : ∀ (n k : Nat), (∀ s, k ≤ s → s < k + n → contAt ths init s (prevF ths s N) env (cs s)) → finC ths init N env cs k n
  | 0, k, _ => trivial
  | n + 1, k, h => ⟨h k (Nat.le_refl _) (by omega), finC_of n (k + 1) fun s h1 h2 => h s (by omega) (by omega)⟩
section
variable {P : Program} {T : TT} {Q : Exit → Act → World → Prop} {n : Fr} {σ : World}
theorem opsOk_get {ths : List Th} {init : Nat → Chs} {env0 : Env} {ro0 : Ro} {base : Chs} : ∀ {l : List Oper} {i0 j : Nat} {d : Option Nat} {op : Op} {ty : TypeId} {pos : String} {af : Array Edge} {g : Option (Nat × Bool)}, opsOk P T ths init env0 ro0 base l i0 → l[j]? = some ⟨d, op, ty, pos, af, g⟩ →
    ∃ th, ths[i0 + j]? = some th ∧ ∀ ro env c F, Le ro0 ro → Sub2 env0 env → allPost ths (depsOf af) ro env → (match th.slot with
      | some s => contAt ths init s (prevF ths s (i0 + j)) env c
      | none => c = []) → ∃ envS, Sub2 envS env ∧ vOp P T op ty d (fun env' ro' own' => Le ro ro' ∧ th.post ro' env' ∧ ∃ c', th.cont env' c' ∧ Sup own' (c' ++ (base ++ F))) envS ro (c ++ (base ++ F))
  | [], _, _, _, _, _, _, _, _, _, h => by simp at h
  | ⟨d', op', ty', pos', af', g'⟩ :: l, i0, 0, d, op, ty, pos, af, g, hops, h => by
    simp only [List.getElem?_cons_zero, Option.some.injEq, Oper.mk.injEq] at h
    obtain ⟨rfl, rfl, rfl, rfl, rfl, rfl⟩ := h
    have h1 := hops.1
    split at h1
    · rename_i th hth
      exact ⟨th, hth, h1⟩
    · exact h1.elim
  | ⟨d', op', ty', pos', af', g'⟩ :: l, i0, j + 1, d, op, ty, pos, af, g, hops, h => by
    have := opsOk_get (i0 := i0 + 1) (j := j) hops.2 (by simpa using h)
    rwa [show i0 + 1 + j = i0 + (j + 1) by omega] at this
theorem free {id : Nat} {l : List Oper} {k : Exit → Kt} {env : Env} {ro : Ro} {own : Chs} [hT : TTab P T] (ths : List Th) (m : Nat) (init : Nat → Chs) (base : Chs) {env0 : Env} (hkeep : Keep (dstsL l) env env0) (hown : Sup own (catN init 0 m ++ base))
    (hlen : ths.length = l.length) (hm : P.follows .mixedOrders = true) (hsl : ths.all (fun th => match th.slot with
      | some s => Nat.blt s m
      | none => true) = true) (hb : (ordB l && slotB l ths && dstB l) = true)
    (hops : opsOk P T ths init env0 ro base l 0)
    (hend : ∀ ro' env' cs, Le ro ro' → Sub2 env0 env' → allPost ths (List.range l.length) ro' env' → finC ths init l.length env' cs 0 m → ∃ envS, Sub2 envS env' ∧ k .normal envS ro' (catN cs 0 m ++ base)) : CodeOk P (.region id l.toArray true) k env ro own := by
  refine ⟨fun n σ Q hok hk h hs a w hf hw => wp_region_any hm ?_⟩
  rw [Bool.and_eq_true, Bool.and_eq_true] at hb
  obtain ⟨⟨ho, hsb⟩, hdb⟩ := hb
  have hord0 : ∀ (i : Nat) (o : Oper), l[i]? = some o → (∀ e ∈ o.after, Region.binds .any e = true → e.on < i) ∧ o.guard = none := fun i o hi => by
    have h1 := List.all_eq_true.1 ho (o, i) (by
      obtain ⟨h2, h3⟩ := List.getElem?_eq_some_iff.1 hi
      exact List.mem_zipIdx_iff_getElem?.2 hi)
    rw [Bool.and_eq_true, Array.all_eq_true_iff_forall_mem] at h1
    refine ⟨fun e he hbd => ?_, Option.isNone_iff_eq_none.1 h1.2⟩
    have := h1.1 e he
    rw [hbd] at this
    simpa using this
  have hslot : ∀ i j s, i < j → Has ths s i → Has ths s j → waitsT l.toArray 9 j i = true := fun i j s hij hi hj => by
    obtain ⟨a, ha, has⟩ := hi
    obtain ⟨b, hb, hbs⟩ := hj
    have hjl : j < l.length := by have := (List.getElem?_eq_some_iff.1 hb).1; omega
    have h1 := List.all_eq_true.1 (List.all_eq_true.1 hsb j (List.mem_range.2 hjl)) i (List.mem_range.2 hij)
    rw [ha, hb] at h1
    simp only [has, hbs, Nat.beq_refl] at h1
    simpa using h1
  have hdst : ∀ (i j x : Nat) (o o' : Oper), i ≠ j → l[i]? = some o → l[j]? = some o' → o.dst = some x → o'.dst ≠ some x := by
    have key : ∀ (i j x : Nat) (o o' : Oper), i < j → l[i]? = some o → l[j]? = some o' → o.dst = some x → o'.dst ≠ some x := fun i j x o o' hij hi hj h1 h2 => by
      have hjl := (List.getElem?_eq_some_iff.1 hj).1
      have h3 := List.all_eq_true.1 (List.all_eq_true.1 hdb j (List.mem_range.2 hjl)) i (List.mem_range.2 hij)
      rw [hi, hj] at h3
      simp [h1, h2] at h3
    intro i j x o o' hij hi hj h1 h2
    rcases Nat.lt_or_gt_of_ne hij with h3 | h3
    · exact key i j x o o' h3 hi hj h1 h2
    · exact key j i x o' o h3 hj hi h2 h1
  have hkp := hkeep.spec
  have hsub0 : Sub2 env0 env := (Sub.of fun p hp => (hkp p hp).2).to2
  have hfr0 : ∀ (j : Nat) (o : Oper) (x : Nat), l[j]? = some o → o.dst = some x → look env0 x = none := fun j o x hj hx => by
    have hx2 : x ∈ dstsL l := List.mem_filterMap.2 ⟨o, List.mem_of_getElem? hj, hx⟩
    have : ∀ e : Env, (∀ p ∈ e, p.1 ≠ x) → look e x = none := by
      intro e
      induction e with
      | nil => intro _; rfl
      | cons p e ih =>
        intro he
        obtain ⟨t, v⟩ := p
        rw [look_cons, if_neg (he (t, v) (by simp))]
        exact ih fun q hq => he q (by simp [hq])
    exact this env0 fun p hp e => (hkp p hp).1 (by rw [e]; exact hx2)
  let I : Array Bool → Act → World → Prop := fun ls a w => ∃ rc env cs, Le ro rc ∧ Fits n env a ∧ Hp w.heap σ w ∧ Sat rc (catN cs 0 m ++ base) w.heap ∧ Sub2 env0 env ∧ (∀ (j : Nat) (th : Th), ths[j]? = some th → ls.getD j false = true → th.post rc env) ∧
    (∀ (j : Nat) (o : Oper) (x : Nat), l[j]? = some o → o.dst = some x → ls.getD j false = false → look env x = none) ∧
    ∀ s, s < m → (∀ p, Has ths s p → ls.getD p false = true → (∀ j, Has ths s j → ls.getD j false = true → j ≤ p) → ∀ th, ths[p]? = some th → th.cont env (cs s)) ∧ ((∀ j, Has ths s j → ls.getD j false = false) → cs s = init s)
  have h0 : ∀ j, (Array.replicate l.length false).getD j false = false := fun j => by simp [Array.getD]
  have := wpAny_inv (P := P) (Q := Q) (l := l) I (fun i o hi => (hord0 i o hi).1) ?_ ?_ l.length (Array.replicate l.length false) a { w with drawn := w.drawn + 1 } (by simp) (fun j o _ hd => by rw [h0] at hd; cases hd) (by
      simp) ⟨ro, env0, init, Le.refl _, hf.sub2 hsub0, ⟨rfl, hw.os, hw.tape, hw.output⟩, by
        have : Sat ro own w.heap := by rw [hw.heap]; exact hs
        exact this.sup hown, Sub2.refl _, (fun j th _ hd => (by rw [h0] at hd; cases hd)), (fun j o x hj hx _ => hfr0 j o x hj hx), fun s _ => ⟨fun p _ hd => (by rw [h0] at hd; cases hd), fun _ => rfl⟩⟩
  · simpa using this
  · intro ls a w i hz hc hi ⟨rc, env, cs, hle, hF, hH, hS, hsub, hpost, hfr, hsl2⟩
    obtain ⟨hnd, o, hoi, hpre⟩ := mem_ready.1 hi
    have hli : l[i]? = some o := by simpa using hoi
    have hil : i < l.length := (List.getElem?_eq_some_iff.1 hli).1
    have hund : ls.getD i false = false := ready_undone hi
    obtain ⟨d, op, ty, pos, af, g⟩ := o
    obtain rfl : g = none := (hord0 i _ hli).2
    obtain ⟨th, hth, hob⟩ := opsOk_get hops hli
    rw [Nat.zero_add] at hth hob
    have hokd : okD n.size d = true := by
      have h1 : l.all (fun o => okD n.size o.dst) = true := by simpa [okS] using hok
      exact List.all_eq_true.1 h1 _ (List.mem_of_getElem? hli)
    have hset : ∀ j, j ≠ i → (ls.setIfInBounds i true).getD j false = ls.getD j false := fun j hj => getD_set_ne false (Ne.symm hj)
    have hseti : (ls.setIfInBounds i true).getD i false = true := by
      have : i < ls.size := by omega
      simp [Array.getD, this]
    have hap : allPost ths (depsOf af) rc env := allPost_of fun j hj th' hth' => by
      obtain ⟨e, he, hej⟩ := List.mem_filterMap.1 hj
      cases hbd : Region.binds .any e with
      | false => rw [hbd] at hej; cases hej
      | true =>
        rw [hbd] at hej
        cases hej
        exact hpost e.on th' hth' (hpre e (by simpa using he) hbd)
    have hlate : ∀ s j, Has ths s i → Has ths s j → i < j → ls.getD j false = false := fun s j h1 h2 hij => by
      cases e : ls.getD j false with
      | false => rfl
      | true =>
        have := waitsT.done hc (hslot i j s hij h1 h2) (fun o' ho' e' he' hb' => hc j o' ho' e e' he' hb')
        rw [hund] at this; cases this
    have hearly : ∀ s j, Has ths s i → Has ths s j → j < i → ls.getD j false = true := fun s j h1 h2 hij =>
      waitsT.done hc (hslot j i s hij h2 h1) (fun o' ho' e' he' hb' => by rw [hoi] at ho'; cases ho'; exact hpre e' he' hb')
    unfold wpOp
    simp only [List.getElem?_toArray, hli]
    rw [if_pos (show Region.wanted ⟨d, op, ty, pos, af, none⟩ (yielded l.toArray a.tmps) = true from rfl)]
    refine .inl ?_
    have hfi : ∀ x, d = some x → look env x = none := fun x hx => hfr i _ x hli hx hund
    have hmono : ∀ v, Sub2 env (pushD d v env) := fun v => Sub2.fresh v hfi
    have hfr2 : ∀ v (j : Nat) (o : Oper) (x : Nat), l[j]? = some o → o.dst = some x → (ls.setIfInBounds i true).getD j false = false → look (pushD d v env) x = none := fun v j o x hj hx hd => by
      have hji : j ≠ i := fun e => by rw [e, hseti] at hd; cases hd
      rw [hset j hji] at hd
      have h1 := hfr j o x hj hx hd
      cases d with
      | none => exact h1
      | some y =>
        rw [E.pushD, look_cons]
        split
        · rename_i e; exact absurd (by rw [e]) (hdst j i x o _ hji hj hli hx)
        · exact h1
    have hpost2 : ∀ r' v, Le rc r' → th.post r' (pushD d v env) → ∀ (j : Nat) (th : Th), ths[j]? = some th → (ls.setIfInBounds i true).getD j false = true → th.post r' (pushD d v env) := fun r' v hlr hp j th' hth' hd => by
      by_cases hji : j = i
      · subst hji; rw [hth] at hth'; cases hth'; exact hp
      · rw [hset j hji] at hd
        exact th'.mono _ _ _ _ hlr (hmono v) (hpost j th' hth' hd)
    have hoth : ∀ v s, ¬ Has ths s i → ∀ cs' : Nat → Chs, cs' s = cs s → s < m → (∀ p, Has ths s p → (ls.setIfInBounds i true).getD p false = true → (∀ j, Has ths s j → (ls.setIfInBounds i true).getD j false = true → j ≤ p) → ∀ th, ths[p]? = some th → th.cont (pushD d v env) (cs' s)) ∧ ((∀ j, Has ths s j → (ls.setIfInBounds i true).getD j false = false) → cs' s = init s) := fun v s hn cs' hcs hsm => by
      have hne : ∀ j, Has ths s j → j ≠ i := fun j hj e => hn (e ▸ hj)
      rw [hcs]
      refine ⟨fun p hp hd hmax th' hth' => ?_, fun hall => (hsl2 s hsm).2 fun j hj => by rw [← hset j (hne j hj)]; exact hall j hj⟩
      rw [hset p (hne p hp)] at hd
      exact th'.monoC _ _ _ (hmono v) ((hsl2 s hsm).1 p hp hd (fun j hj hdj => hmax j hj (by rw [hset j (hne j hj)]; exact hdj)) th' hth')
    cases hslt : th.slot with
    | none =>
      have hn : ∀ s, ¬ Has ths s i := fun s ⟨t, h1, h2⟩ => by rw [hth] at h1; cases h1; rw [hslt] at h2; cases h2
      rw [hslt] at hob
      obtain ⟨envS, hsS, hv⟩ := hob rc env [] (catN cs 0 m) hle hsub hap rfl
      refine vOp_wp2 hT.ok hv (hF.sub2 hsS) (hS.perm (by rw [List.nil_append]; exact List.perm_append_comm)) hH (fun v ro' own' w' hl hkk hs' hw' => ?_)
      obtain ⟨hlr, hp, c', hc', hsup⟩ := hkk
      have hp2 := th.mono _ _ _ _ (Le.refl _) (hsS.push d v) hp
      refine ⟨ro', pushD d v env, cs, hle.trans hlr, hF.pushD hokd v, hw', ?_, hsub.trans (hmono v), hpost2 ro' v hlr hp2, hfr2 v, fun s hsm => hoth v s (hn s) cs rfl hsm⟩
      have h1 := hs'.sup hsup
      have h2 : ∀ (c : Chs) (X : Chs), Sat ro' (c ++ X) w'.heap → Sat ro' X w'.heap := by
        intro c
        induction c with
        | nil => intro X hX; exact hX
        | cons y c ih => intro X hX; exact ih X hX.drop
      exact (h2 c' _ h1).perm List.perm_append_comm
    | some s =>
      have hhas : Has ths s i := ⟨th, hth, hslt⟩
      have hsm : s < m := by
        have := List.all_eq_true.1 hsl th (List.mem_of_getElem? hth)
        rw [hslt] at this
        simpa using this
      rw [hslt] at hob
      obtain ⟨F, hFp⟩ := catN_split cs s m 0 (Nat.zero_le _) (by omega)
      have hself : (fun j => if j = s then cs s else cs j) = cs := by funext j; split; rename_i e; rw [e]; rfl
      have hbefore : contAt ths init s (prevF ths s i) env (cs s) := by
        rcases prevF_spec (ths := ths) (s := s) i with ⟨h1, h2⟩ | ⟨p, h1, h2, h3, h4⟩
        · rw [h1]
          refine (hsl2 s hsm).2 fun j hj => ?_
          rcases Nat.lt_trichotomy j i with h | h | h
          · exact absurd hj (h2 j h)
          · rw [h]; exact hund
          · exact hlate s j hhas hj h
        · rw [h1]
          obtain ⟨thp, hthp, hsp⟩ := h3
          show (match ths[p]? with | some th => th.cont env (cs s) | none => False)
          rw [hthp]
          refine (hsl2 s hsm).1 p ⟨thp, hthp, hsp⟩ (hearly s p hhas ⟨thp, hthp, hsp⟩ h2) (fun j hj hdj => ?_) thp hthp
          rcases Nat.lt_trichotomy j i with h | h | h
          · exact h4 j h hj
          · rw [h, hund] at hdj; cases hdj
          · rw [hlate s j hhas hj h] at hdj; cases hdj
      obtain ⟨envS, hsS, hv⟩ := hob rc env (cs s) F hle hsub hap hbefore
      refine vOp_wp2 hT.ok hv (hF.sub2 hsS) (hS.perm ?_) hH (fun v ro' own' w' hl hkk hs' hw' => ?_)
      · have := hFp (cs s)
        rw [hself] at this
        exact (this.append_right base).trans perm_swap
      · obtain ⟨hlr, hp, c', hc', hsup⟩ := hkk
        have hp2 := th.mono _ _ _ _ (Le.refl _) (hsS.push d v) hp
        have hc2 := th.monoC _ _ _ (hsS.push d v) hc'
        refine ⟨ro', pushD d v env, fun j => if j = s then c' else cs j, hle.trans hlr, hF.pushD hokd v, hw', ?_, hsub.trans (hmono v), hpost2 ro' v hlr hp2, hfr2 v, fun s' hsm' => ?_⟩
        · exact (hs'.sup hsup).perm (((hFp c').append_right base).trans perm_swap).symm
        · by_cases hss : s' = s
          · subst hss
            refine ⟨fun p hp hd hmax th' hth' => ?_, fun hall => ?_⟩
            · have h1 : i ≤ p := hmax i hhas hseti
              have h2 : p = i := by
                apply Classical.byContradiction
                intro hne
                have h3 := hlate s' p hhas hp (by omega)
                rw [hset p hne, h3] at hd; cases hd
              subst h2
              rw [hth] at hth'
              cases hth'
              show th.cont _ (if s' = s' then c' else cs s')
              rw [if_pos rfl]; exact hc2
            · have := hall i hhas; rw [hseti] at this; cases this
          · refine hoth v s' (fun ⟨t, h1, h2⟩ => ?_) (fun j => if j = s then c' else cs j) (if_neg hss) hsm'
            rw [hth] at h1; cases h1; rw [hslt] at h2; cases h2; exact hss rfl
  · intro ls a w hz hd ⟨rc, env, cs, hle, hF, hH, hS, hsub, hpost, hfr, hsl2⟩
    obtain ⟨envS, hsS, hkk⟩ := hend rc env cs hle hsub (allPost_of fun j hj th hth => hpost j th hth (hd j (List.mem_range.1 hj))) (finC_of m 0 fun s h1 h2 => by
      have hsm : s < m := by omega
      rcases prevF_spec (ths := ths) (s := s) l.length with ⟨h3, h4⟩ | ⟨p, h3, h4, h5, h6⟩
      · rw [h3]
        refine (hsl2 s hsm).2 fun j hj => ?_
        obtain ⟨t, ht1, ht2⟩ := hj
        have := (List.getElem?_eq_some_iff.1 ht1).1
        exact absurd ⟨t, ht1, ht2⟩ (h4 j (by omega))
      · rw [h3]
        obtain ⟨thp, hthp, hsp⟩ := h5
        show (match ths[p]? with | some th => th.cont env (cs s) | none => False)
        rw [hthp]
        refine (hsl2 s hsm).1 p ⟨thp, hthp, hsp⟩ (hd p h4) (fun j hj _ => ?_) thp hthp
        obtain ⟨t, ht1, ht2⟩ := hj
        have := (List.getElem?_eq_some_iff.1 ht1).1
        exact h6 j (by omega) ⟨t, ht1, ht2⟩)
    exact hk .normal envS rc _ n.D w.heap hle hkk hS (Mk.refl _ _ _ _) a w (hF.sub2 hsS) hH
end
end Go.E.FR
