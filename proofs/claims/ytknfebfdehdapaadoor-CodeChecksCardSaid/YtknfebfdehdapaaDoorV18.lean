/- .. and that it is right. No program in sight. -/
import Derived.Test.YtknfebfdehdapaaDoorV17
namespace Go.E
open Go
set_option linter.unusedVariables false
section
variable {P : Program} {T : TT} {Q : Exit → Act → World → Prop} {n : Fr} {σ : World}
theorem vOp_wp2 {op : Op} {ty : TypeId} {d : Option Nat} {pos : String} {af : Array Edge} {g : Option (Nat × Bool)} {k : Kt} {env : Env} {ro : Ro} {own : Chs} {a : Act} {w : World} {K : Act → World → Prop} (hT : TOk P T) (hv : vOp P T op ty d k env ro own)
    (hf : Fits n env a) (hs : Sat ro own w.heap) (hw : Hp w.heap σ w)
    (hk : ∀ v ro' own' w', Le ro ro' → k (pushD d v env) ro' own' → Sat ro' own' w'.heap → Hp w'.heap σ w' → K (a.put d v) w') : (⟨d, op, ty, pos, af, g⟩ : Oper).wp P a w K Q := by
  have hpure : ∀ v, (pure1 T op env).has v → k (pushD d v env) ro own → (⟨d, op, ty, pos, af, g⟩ : Oper).wp P a w K Q := fun v hp hkv => by
    unfold Oper.wp
    rw [(pure1_ok (h := w.heap) hT hp).run a.eval w hf.agree rfl]
    exact hk v ro own _ (Le.refl _) hkv hs hw
  unfold vOp at hv
  split at hv
  · rename_i v hp
    exact hpure v (by rw [hp]; rfl) (by rwa [setK_eq] at hv)
  · rename_i p v hp
    obtain ⟨h1, h2⟩ := hv.run
    exact hpure v (by rw [hp]; exact ⟨h1, rfl⟩) (by rwa [setK_eq] at h2)
  · unfold vEff at hv
    split at hv
    · split at hv
      · rename_i hx hvs
        have hc := hv.run
        rw [capA_eq] at hc
        unfold Oper.wp
        rw [run_callv hf.agree hx hvs]
        rcases hc.run w hs with ⟨he, hcalls⟩ | ⟨v, w', he, hh, ro', own', hl, hs', hKv⟩
        · rw [he]
          refine hcalls.mono fun e w' ⟨v, hev, hh, ro', own', hl, hs', hKv⟩ => ?_
          subst hev
          replace hKv : setK d v k env ro' own' := hKv
          rw [setK_eq] at hKv
          exact hk v ro' own' _ hl hKv hs' (hw.trans hh)
        · rw [he]
          replace hKv : setK d v k env ro' own' := hKv
          rw [setK_eq] at hKv
          exact hk v ro' own' _ hl hKv hs' (hw.trans hh)
      · exact hv.elim
    · obtain ⟨v, w', hr, hh, ro', own', hl, hs', hK⟩ := (hv.run.run w.heap hs d pos af g).run a.eval w hf.agree rfl
      rw [setK_eq] at hK
      unfold Oper.wp
      rcases hr with hr | ⟨hr, rfl⟩ <;> rw [hr] <;> exact hk _ ro' own' _ hl hK hs' (hw.trans hh)
theorem Fits.pushD {env : Env} {a : Act} (hf : Fits n env a) {d : Option Nat} (hd : okD n.size d = true) (v : Value) : Fits n (pushD d v env) (a.put d v) := by
  cases d with
  | none => exact hf
  | some d => exact hf.put hd v
theorem Sub2.fresh {env : Env} {d : Option Nat} (v : Value) (h : ∀ x, d = some x → look env x = none) : Sub2 env (pushD d v env) := fun x u hx => by
  cases d with
  | none => exact hx
  | some y =>
    rw [E.pushD, look_cons]
    split
    · rename_i e; rw [← e, h y rfl] at hx; cases hx
    · exact hx
theorem opsOk_get {ths : List Th} {init : Nat → Chs} {env0 : Env} {ro : Ro} {base : Chs} : ∀ {l : List Oper} {i0 j : Nat} {d : Option Nat} {op : Op} {ty : TypeId} {pos : String} {af : Array Edge} {g : Option (Nat × Bool)}, opsOk P T ths init env0 ro base l i0 → l[j]? = some ⟨d, op, ty, pos, af, g⟩ →
    ∃ th, ths[i0 + j]? = some th ∧ ∀ env c F, Sub2 env0 env → allPost ths (depsOf af) env → (match th.slot with
      | some s => contAt ths init s (prevF ths s (i0 + j)) env c
      | none => c = []) → ∃ envS, Sub2 envS env ∧ vOp P T op ty d (fun env' ro' own' => ro' = ro ∧ th.post env' ∧ ∃ c', th.cont env' c' ∧ Sup own' (c' ++ (base ++ F))) envS ro (c ++ (base ++ F))
  | [], _, _, _, _, _, _, _, _, _, h => by simp at h
  | ⟨d', op', ty', pos', af', g'⟩ :: l, i0, 0, d, op, ty, pos, af, g, hops, h => by
    simp only [List.getElem?_cons_zero, Option.some.injEq, Oper.mk.injEq] at h
    obtain ⟨rfl, rfl, rfl, rfl, rfl, rfl⟩ := h
    have h1 := hops.1
    split at h1
    · rename_i th hth
      exact ⟨th, hth, h1⟩
    · exact h1.elim
  | ⟨d', op', ty', pos', af', g'⟩ :: l, i0, j + 1, d, op, ty, pos, af, g, hops, h => by
    have := opsOk_get (i0 := i0 + 1) (j := j) hops.2 (by simpa using h)
    rwa [show i0 + 1 + j = i0 + (j + 1) by omega] at this
def dstsL (l : List Oper) : List Nat := l.filterMap (·.dst)
theorem perm_swap {a b c : Chs} : (a ++ b ++ c).Perm (a ++ (c ++ b)) := by
  rw [List.append_assoc]; exact (List.perm_append_comm).append_left a
theorem CodeOk.free {id : Nat} {l : List Oper} {k : Exit → Kt} {env : Env} {ro : Ro} {own : Chs} [hT : TTab P T] (ths : List Th) (m : Nat) (init : Nat → Chs) (base : Chs) {env0 : Env} (hkeep : Keep (dstsL l) env env0) (hown : Sup own (catN init 0 m ++ base))
    (hlen : ths.length = l.length) (hm : P.follows .mixedOrders = true) (hsl : ths.all (fun th => match th.slot with
      | some s => Nat.blt s m
      | none => true) = true) (hb : (ordB l && slotB l ths && dstB l) = true)
    (hops : opsOk P T ths init env0 ro base l 0)
    (hend : ∀ env' cs, Sub2 env0 env' → allPost ths (List.range l.length) env' → finC ths init l.length env' cs 0 m → ∃ envS, Sub2 envS env' ∧ k .normal envS ro (catN cs 0 m ++ base)) : CodeOk P (.region id l.toArray true) k env ro own := by
  refine ⟨fun n σ Q hok hk h hs a w hf hw => wp_region_any hm ?_⟩
  rw [Bool.and_eq_true, Bool.and_eq_true] at hb
  obtain ⟨⟨ho, hsb⟩, hdb⟩ := hb
  have hord0 : ∀ (i : Nat) (o : Oper), l[i]? = some o → (∀ e ∈ o.after, Region.binds .any e = true → e.on < i) ∧ o.guard = none := fun i o hi => by
    have h1 := List.all_eq_true.1 ho (o, i) (by
      obtain ⟨h2, h3⟩ := List.getElem?_eq_some_iff.1 hi
      exact List.mem_zipIdx_iff_getElem?.2 hi)
    rw [Bool.and_eq_true, Array.all_eq_true_iff_forall_mem] at h1
    refine ⟨fun e he hbd => ?_, Option.isNone_iff_eq_none.1 h1.2⟩
    have := h1.1 e he
    rw [hbd] at this
    simpa using this
  have hslot : ∀ i j s, i < j → Has ths s i → Has ths s j → waitsT l.toArray 9 j i = true := fun i j s hij hi hj => by
    obtain ⟨a, ha, has⟩ := hi
    obtain ⟨b, hb, hbs⟩ := hj
    have hjl : j < l.length := by have := (List.getElem?_eq_some_iff.1 hb).1; omega
    have h1 := List.all_eq_true.1 (List.all_eq_true.1 hsb j (List.mem_range.2 hjl)) i (List.mem_range.2 hij)
    rw [ha, hb] at h1
    simp only [has, hbs, Nat.beq_refl] at h1
    simpa using h1
  have hdst : ∀ (i j x : Nat) (o o' : Oper), i ≠ j → l[i]? = some o → l[j]? = some o' → o.dst = some x → o'.dst ≠ some x := by
    have key : ∀ (i j x : Nat) (o o' : Oper), i < j → l[i]? = some o → l[j]? = some o' → o.dst = some x → o'.dst ≠ some x := fun i j x o o' hij hi hj h1 h2 => by
      have hjl := (List.getElem?_eq_some_iff.1 hj).1
      have h3 := List.all_eq_true.1 (List.all_eq_true.1 hdb j (List.mem_range.2 hjl)) i (List.mem_range.2 hij)
      rw [hi, hj] at h3
      simp [h1, h2] at h3
    intro i j x o o' hij hi hj h1 h2
    rcases Nat.lt_or_gt_of_ne hij with h3 | h3
    · exact key i j x o o' h3 hi hj h1 h2
    · exact key j i x o' o h3 hj hi h2 h1
  have hkp := hkeep.spec
  have hsub0 : Sub2 env0 env := (Sub.of fun p hp => (hkp p hp).2).to2
  have hfr0 : ∀ (j : Nat) (o : Oper) (x : Nat), l[j]? = some o → o.dst = some x → look env0 x = none := fun j o x hj hx => by
    have hx2 : x ∈ dstsL l := List.mem_filterMap.2 ⟨o, List.mem_of_getElem? hj, hx⟩
    have : ∀ e : Env, (∀ p ∈ e, p.1 ≠ x) → look e x = none := by
      intro e
      induction e with
      | nil => intro _; rfl
      | cons p e ih =>
        intro he
        obtain ⟨t, v⟩ := p
        rw [look_cons, if_neg (he (t, v) (by simp))]
        exact ih fun q hq => he q (by simp [hq])
    exact this env0 fun p hp e => (hkp p hp).1 (by rw [e]; exact hx2)
  let I : Array Bool → Act → World → Prop := fun ls a w => ∃ env cs, Fits n env a ∧ Hp w.heap σ w ∧ Sat ro (catN cs 0 m ++ base) w.heap ∧ Sub2 env0 env ∧ (∀ (j : Nat) (th : Th), ths[j]? = some th → ls.getD j false = true → th.post env) ∧
    (∀ (j : Nat) (o : Oper) (x : Nat), l[j]? = some o → o.dst = some x → ls.getD j false = false → look env x = none) ∧
    ∀ s, s < m → (∀ p, Has ths s p → ls.getD p false = true → (∀ j, Has ths s j → ls.getD j false = true → j ≤ p) → ∀ th, ths[p]? = some th → th.cont env (cs s)) ∧ ((∀ j, Has ths s j → ls.getD j false = false) → cs s = init s)
  have h0 : ∀ j, (Array.replicate l.length false).getD j false = false := fun j => by simp [Array.getD]
  have := wpAny_inv (P := P) (Q := Q) (l := l) I (fun i o hi => (hord0 i o hi).1) ?_ ?_ l.length (Array.replicate l.length false) a { w with drawn := w.drawn + 1 } (by simp) (fun j o _ hd => by rw [h0] at hd; cases hd) (by
      simp) ⟨env0, init, hf.sub2 hsub0, ⟨rfl, hw.os, hw.tape, hw.output⟩, by
        have : Sat ro own w.heap := by rw [hw.heap]; exact hs
        exact this.sup hown, Sub2.refl _, (fun j th _ hd => (by rw [h0] at hd; cases hd)), (fun j o x hj hx _ => hfr0 j o x hj hx), fun s _ => ⟨fun p _ hd => (by rw [h0] at hd; cases hd), fun _ => rfl⟩⟩
  · simpa using this
  · intro ls a w i hz hc hi ⟨env, cs, hF, hH, hS, hsub, hpost, hfr, hsl2⟩
    obtain ⟨hnd, o, hoi, hpre⟩ := mem_ready.1 hi
    have hli : l[i]? = some o := by simpa using hoi
    have hil : i < l.length := (List.getElem?_eq_some_iff.1 hli).1
    have hund : ls.getD i false = false := ready_undone hi
    obtain ⟨d, op, ty, pos, af, g⟩ := o
    obtain rfl : g = none := (hord0 i _ hli).2
    obtain ⟨th, hth, hob⟩ := opsOk_get hops hli
    rw [Nat.zero_add] at hth hob
    have hokd : okD n.size d = true := by
      have h1 : l.all (fun o => okD n.size o.dst) = true := by simpa [okS] using hok
      exact List.all_eq_true.1 h1 _ (List.mem_of_getElem? hli)
    have hset : ∀ j, j ≠ i → (ls.setIfInBounds i true).getD j false = ls.getD j false := fun j hj => getD_set_ne false (Ne.symm hj)
    have hseti : (ls.setIfInBounds i true).getD i false = true := by
      have : i < ls.size := by omega
      simp [Array.getD, this]
    have hap : allPost ths (depsOf af) env := allPost_of fun j hj th' hth' => by
      obtain ⟨e, he, hej⟩ := List.mem_filterMap.1 hj
      cases hbd : Region.binds .any e with
      | false => rw [hbd] at hej; cases hej
      | true =>
        rw [hbd] at hej
        cases hej
        exact hpost e.on th' hth' (hpre e (by simpa using he) hbd)
    have hlate : ∀ s j, Has ths s i → Has ths s j → i < j → ls.getD j false = false := fun s j h1 h2 hij => by
      cases e : ls.getD j false with
      | false => rfl
      | true =>
        have := waitsT.done hc (hslot i j s hij h1 h2) (fun o' ho' e' he' hb' => hc j o' ho' e e' he' hb')
        rw [hund] at this; cases this
    have hearly : ∀ s j, Has ths s i → Has ths s j → j < i → ls.getD j false = true := fun s j h1 h2 hij =>
      waitsT.done hc (hslot j i s hij h2 h1) (fun o' ho' e' he' hb' => by rw [hoi] at ho'; cases ho'; exact hpre e' he' hb')
    unfold wpOp
    simp only [List.getElem?_toArray, hli]
    rw [if_pos (show Region.wanted ⟨d, op, ty, pos, af, none⟩ (yielded l.toArray a.tmps) = true from rfl)]
    refine .inl ?_
    have hfi : ∀ x, d = some x → look env x = none := fun x hx => hfr i _ x hli hx hund
    have hmono : ∀ v, Sub2 env (pushD d v env) := fun v => Sub2.fresh v hfi
    have hfr2 : ∀ v (j : Nat) (o : Oper) (x : Nat), l[j]? = some o → o.dst = some x → (ls.setIfInBounds i true).getD j false = false → look (pushD d v env) x = none := fun v j o x hj hx hd => by
      have hji : j ≠ i := fun e => by rw [e, hseti] at hd; cases hd
      rw [hset j hji] at hd
      have h1 := hfr j o x hj hx hd
      cases d with
      | none => exact h1
      | some y =>
        rw [E.pushD, look_cons]
        split
        · rename_i e; exact absurd (by rw [e]) (hdst j i x o _ hji hj hli hx)
        · exact h1
    have hpost2 : ∀ v, th.post (pushD d v env) → ∀ (j : Nat) (th : Th), ths[j]? = some th → (ls.setIfInBounds i true).getD j false = true → th.post (pushD d v env) := fun v hp j th' hth' hd => by
      by_cases hji : j = i
      · subst hji; rw [hth] at hth'; cases hth'; exact hp
      · rw [hset j hji] at hd
        exact th'.mono _ _ (hmono v) (hpost j th' hth' hd)
    have hoth : ∀ v s, ¬ Has ths s i → ∀ cs' : Nat → Chs, cs' s = cs s → s < m → (∀ p, Has ths s p → (ls.setIfInBounds i true).getD p false = true → (∀ j, Has ths s j → (ls.setIfInBounds i true).getD j false = true → j ≤ p) → ∀ th, ths[p]? = some th → th.cont (pushD d v env) (cs' s)) ∧ ((∀ j, Has ths s j → (ls.setIfInBounds i true).getD j false = false) → cs' s = init s) := fun v s hn cs' hcs hsm => by
      have hne : ∀ j, Has ths s j → j ≠ i := fun j hj e => hn (e ▸ hj)
      rw [hcs]
      refine ⟨fun p hp hd hmax th' hth' => ?_, fun hall => (hsl2 s hsm).2 fun j hj => by rw [← hset j (hne j hj)]; exact hall j hj⟩
      rw [hset p (hne p hp)] at hd
      exact th'.monoC _ _ _ (hmono v) ((hsl2 s hsm).1 p hp hd (fun j hj hdj => hmax j hj (by rw [hset j (hne j hj)]; exact hdj)) th' hth')
    cases hslt : th.slot with
    | none =>
      have hn : ∀ s, ¬ Has ths s i := fun s ⟨t, h1, h2⟩ => by rw [hth] at h1; cases h1; rw [hslt] at h2; cases h2
      rw [hslt] at hob
      obtain ⟨envS, hsS, hv⟩ := hob env [] (catN cs 0 m) hsub hap rfl
      refine vOp_wp2 hT.ok hv (hF.sub2 hsS) (hS.perm (by rw [List.nil_append]; exact List.perm_append_comm)) hH (fun v ro' own' w' hl hkk hs' hw' => ?_)
      obtain ⟨rfl, hp, c', hc', hsup⟩ := hkk
      have hp2 := th.mono _ _ (hsS.push d v) hp
      refine ⟨pushD d v env, cs, hF.pushD hokd v, hw', ?_, hsub.trans (hmono v), hpost2 v hp2, hfr2 v, fun s hsm => hoth v s (hn s) cs rfl hsm⟩
      have h1 := hs'.sup hsup
      have h2 : ∀ (c : Chs) (X : Chs), Sat ro' (c ++ X) w'.heap → Sat ro' X w'.heap := by
        intro c
        induction c with
        | nil => intro X hX; exact hX
        | cons y c ih => intro X hX; exact ih X hX.drop
      exact (h2 c' _ h1).perm List.perm_append_comm
    | some s =>
      have hhas : Has ths s i := ⟨th, hth, hslt⟩
      have hsm : s < m := by
        have := List.all_eq_true.1 hsl th (List.mem_of_getElem? hth)
        rw [hslt] at this
        simpa using this
      rw [hslt] at hob
      obtain ⟨F, hFp⟩ := catN_split cs s m 0 (Nat.zero_le _) (by omega)
      have hself : (fun j => if j = s then cs s else cs j) = cs := by funext j; split; rename_i e; rw [e]; rfl
      have hbefore : contAt ths init s (prevF ths s i) env (cs s) := by
        rcases prevF_spec (ths := ths) (s := s) i with ⟨h1, h2⟩ | ⟨p, h1, h2, h3, h4⟩
        · rw [h1]
          refine (hsl2 s hsm).2 fun j hj => ?_
          rcases Nat.lt_trichotomy j i with h | h | h
          · exact absurd hj (h2 j h)
          · rw [h]; exact hund
          · exact hlate s j hhas hj h
        · rw [h1]
          obtain ⟨thp, hthp, hsp⟩ := h3
          show (match ths[p]? with | some th => th.cont env (cs s) | none => False)
          rw [hthp]
          refine (hsl2 s hsm).1 p ⟨thp, hthp, hsp⟩ (hearly s p hhas ⟨thp, hthp, hsp⟩ h2) (fun j hj hdj => ?_) thp hthp
          rcases Nat.lt_trichotomy j i with h | h | h
          · exact h4 j h hj
          · rw [h, hund] at hdj; cases hdj
          · rw [hlate s j hhas hj h] at hdj; cases hdj
      obtain ⟨envS, hsS, hv⟩ := hob env (cs s) F hsub hap hbefore
      refine vOp_wp2 hT.ok hv (hF.sub2 hsS) (hS.perm ?_) hH (fun v ro' own' w' hl hkk hs' hw' => ?_)
      · have := hFp (cs s)
        rw [hself] at this
        exact (this.append_right base).trans perm_swap
      · obtain ⟨rfl, hp, c', hc', hsup⟩ := hkk
        have hp2 := th.mono _ _ (hsS.push d v) hp
        have hc2 := th.monoC _ _ _ (hsS.push d v) hc'
        refine ⟨pushD d v env, fun j => if j = s then c' else cs j, hF.pushD hokd v, hw', ?_, hsub.trans (hmono v), hpost2 v hp2, hfr2 v, fun s' hsm' => ?_⟩
        · exact (hs'.sup hsup).perm (((hFp c').append_right base).trans perm_swap).symm
        · by_cases hss : s' = s
          · subst hss
            refine ⟨fun p hp hd hmax th' hth' => ?_, fun hall => ?_⟩
            · have h1 : i ≤ p := hmax i hhas hseti
              have h2 : p = i := by
                apply Classical.byContradiction
                intro hne
                have h3 := hlate s' p hhas hp (by omega)
                rw [hset p hne, h3] at hd; cases hd
              subst h2
              rw [hth] at hth'
              cases hth'
              show th.cont _ (if s' = s' then c' else cs s')
              rw [if_pos rfl]; exact hc2
            · have := hall i hhas; rw [hseti] at this; cases this
          · refine hoth v s' (fun ⟨t, h1, h2⟩ => ?_) (fun j => if j = s then c' else cs j) (if_neg hss) hsm'
            rw [hth] at h1; cases h1; rw [hslt] at h2; cases h2; exact hss rfl
  · intro ls a w hz hd ⟨env, cs, hF, hH, hS, hsub, hpost, hfr, hsl2⟩
    obtain ⟨envS, hsS, hkk⟩ := hend env cs hsub (allPost_of fun j hj th hth => hpost j th hth (hd j (List.mem_range.1 hj))) (finC_of m 0 fun s h1 h2 => by
      have hsm : s < m := by omega
      rcases prevF_spec (ths := ths) (s := s) l.length with ⟨h3, h4⟩ | ⟨p, h3, h4, h5, h6⟩
      · rw [h3]
        refine (hsl2 s hsm).2 fun j hj => ?_
        obtain ⟨t, ht1, ht2⟩ := hj
        have := (List.getElem?_eq_some_iff.1 ht1).1
        exact absurd ⟨t, ht1, ht2⟩ (h4 j (by omega))
      · rw [h3]
        obtain ⟨thp, hthp, hsp⟩ := h5
        show (match ths[p]? with | some th => th.cont env (cs s) | none => False)
        rw [hthp]
        refine (hsl2 s hsm).1 p ⟨thp, hthp, hsp⟩ (hd p h4) (fun j hj _ => ?_) thp hthp
        obtain ⟨t, ht1, ht2⟩ := hj
        have := (List.getElem?_eq_some_iff.1 ht1).1
        exact h6 j (by omega) ⟨t, ht1, ht2⟩)
    exact hk .normal envS ro _ n.D w.heap (Le.refl _) hkk hS (Mk.refl _ _ _ _) a w (hF.sub2 hsS) hH
end
/-- The walk, as far as a region that draws its order. -/
theorem wkN {q p : Prop} (h : q) (e : Hd q → p := by
  intro hWk
  first
    | refine Stop.mk ?_
    | (show _ ∧ _; refine And.intro sdAuto ?_)
    | (show OpOk _ _ _ _ _ _ _; first
        | refine OpOk.load rfl rfl Ld.auto ?_
        | refine OpOk.loadRow rfl rfl LdN.hasBlk rfl ?_
        | refine OpOk.loadPart rfl rfl Nf.auto rfAuto ?_
        | refine OpOk.store rfl rfl rfl rfl SetR.auto ?_
        | refine OpOk.storeRow rfl rfl rfl rfl (by rfl) rfl ?_
        | refine OpOk.idx1 rfl rfl rfl (by omega) AOk.auto ?_
        | refine OpOk.idxA rfl rfl rfl (by omega) ?_
        | refine OpOk.idx rfl rfl rfl (by omega) AOk.auto ?_
        | refine OpOk.andN rfl rfl sdAuto ?_
        | refine OpOk.eqlSl rfl rfl ?_
        | refine OpOk.neqSl rfl rfl ?_
        | refine OpOk.clip rfl rfl rfl rfl (by omega) ?_
        | refine OpOk.build rfl rfl Nf.auto ?_
        | refine OpOk.toStr rfl rfl rfl rfl Rds.auto ?_)
    | (show QOk _ _ _ _ _ _ _; first | refine QOk.load rfl rfl Ld.auto ?_ | refine QOk.idx1 rfl rfl rfl (by omega) AOk.auto ?_ | refine QOk.idxA rfl rfl rfl (by omega) ?_ | refine QOk.idx rfl rfl rfl (by omega) AOk.auto ?_ | refine QOk.loadRow rfl rfl LdN.hasBlk rfl ?_ | refine QOk.loadPart rfl rfl Nf.auto rfAuto ?_ | refine QOk.toStr rfl rfl rfl rfl Rds.auto ?_)
    | (show GJ _ _ _ _ _ _ _; first | with_reducible refine GJ.l1 ?_ | with_reducible refine GJ.l2 ?_ | with_reducible refine GJ.l3 ?_ | with_reducible refine GJ.l4 ?_ | with_reducible refine GJ.n1 ?_ | with_reducible refine GJ.n2 ?_ | with_reducible refine GJ.n3 ?_ | with_reducible refine GJ.n4 ?_ | refine GJ.t (by omega) ?_ | refine GJ.f (by omega) ?_ | refine GJ.ft (by omega) ?_ | refine GJ.ff (by omega) ?_)
    | (show Br _ _ _; first | with_reducible refine Br.tt ?_ | with_reducible refine Br.ff ?_ | with_reducible refine Br.nt ?_ | with_reducible refine Br.nf ?_ | refine Br.t (by omega) ?_ | refine Br.f (by omega) ?_)
    | (show Bk _ _ _; refine Bk.all Sup.auto ?_)
    | (show RetOk _ _ _ _ _ _; refine RetOk.of (T := T) RL.auto ?_)
  repeat (first
    | refine Stop.mk ?_
    | (show _ ∧ _; refine And.intro sdAuto ?_)
    | (show OpOk _ _ _ _ _ _ _; first
        | refine OpOk.load rfl rfl Ld.auto ?_
        | refine OpOk.loadRow rfl rfl LdN.hasBlk rfl ?_
        | refine OpOk.loadPart rfl rfl Nf.auto rfAuto ?_
        | refine OpOk.store rfl rfl rfl rfl SetR.auto ?_
        | refine OpOk.storeRow rfl rfl rfl rfl (by rfl) rfl ?_
        | refine OpOk.idx1 rfl rfl rfl (by omega) AOk.auto ?_
        | refine OpOk.idxA rfl rfl rfl (by omega) ?_
        | refine OpOk.idx rfl rfl rfl (by omega) AOk.auto ?_
        | refine OpOk.andN rfl rfl sdAuto ?_
        | refine OpOk.eqlSl rfl rfl ?_
        | refine OpOk.neqSl rfl rfl ?_
        | refine OpOk.clip rfl rfl rfl rfl (by omega) ?_
        | refine OpOk.build rfl rfl Nf.auto ?_
        | refine OpOk.toStr rfl rfl rfl rfl Rds.auto ?_)
    | (show QOk _ _ _ _ _ _ _; first | refine QOk.load rfl rfl Ld.auto ?_ | refine QOk.idx1 rfl rfl rfl (by omega) AOk.auto ?_ | refine QOk.idxA rfl rfl rfl (by omega) ?_ | refine QOk.idx rfl rfl rfl (by omega) AOk.auto ?_ | refine QOk.loadRow rfl rfl LdN.hasBlk rfl ?_ | refine QOk.loadPart rfl rfl Nf.auto rfAuto ?_ | refine QOk.toStr rfl rfl rfl rfl Rds.auto ?_)
    | (show GJ _ _ _ _ _ _ _; first | with_reducible refine GJ.l1 ?_ | with_reducible refine GJ.l2 ?_ | with_reducible refine GJ.l3 ?_ | with_reducible refine GJ.l4 ?_ | with_reducible refine GJ.n1 ?_ | with_reducible refine GJ.n2 ?_ | with_reducible refine GJ.n3 ?_ | with_reducible refine GJ.n4 ?_ | refine GJ.t (by omega) ?_ | refine GJ.f (by omega) ?_ | refine GJ.ft (by omega) ?_ | refine GJ.ff (by omega) ?_)
    | (show Br _ _ _; first | with_reducible refine Br.tt ?_ | with_reducible refine Br.ff ?_ | with_reducible refine Br.nt ?_ | with_reducible refine Br.nf ?_ | refine Br.t (by omega) ?_ | refine Br.f (by omega) ?_)
    | (show Bk _ _ _; refine Bk.all Sup.auto ?_)
    | (show RetOk _ _ _ _ _ _; refine RetOk.of (T := T) RL.auto ?_))
  exact hWk.get) : p := e ⟨h⟩
end Go.E
