/- The reckoning is right: what it says of code holds of its walk. No program in sight. -/
import Derived.Test.YtknfebfdehdapaaDoorV3
namespace Go.E
open Go
set_option linter.unusedVariables false
set_option linter.unusedSimpArgs false

def pushD (d : Option Nat) (v : Value) (env : Env) : Env := match d with
  | some d => (d, v) :: env
  | none => env
theorem setK_eq (d : Option Nat) (v : Value) (k : Kt) (env : Env) (ro : Ro) (own : Chs) : setK d v k env ro own = k (pushD d v env) ro own := by cases d <;> rfl
theorem capA_eq (vs : List Value) (c : Array Value) : capA vs c = vs.toArray ++ c := by
  obtain ⟨l⟩ := c
  cases l <;> simp [capA]
section
variable {P : Program} {T : TT} {all : Array Oper} {Q : Exit → Act → World → Prop} {n : Fr} {σ : World} {env : Env} {h : Heap} {ro : Ro} {own : Chs}
theorem L.sub2 {ops : List Oper} {env' : Env} (hs : Sub2 env' env) (k : L P all Q n σ ops env' h) : L P all Q n σ ops env h := fun a w hf hw => k a w (hf.sub2 hs) hw
theorem C.sub2 {c : Code} {env' : Env} (hs : Sub2 env' env) (k : C P Q n σ c env' h) : C P Q n σ c env h := fun a w hf hw => k a w (hf.sub2 hs) hw
theorem N.sub2 {K : Act → World → Prop} {env' : Env} (hs : Sub2 env' env) (k : N n σ K env' h) : N n σ K env h := fun a w hf hw => k a w (hf.sub2 hs) hw
theorem L.pure0 {rest : List Oper} {op : Op} {ty : TypeId} {pos : String} {af : Array Edge} {v : Value}
    (hp : Pu P ⟨none, op, ty, pos, af, none⟩ env h v) (k : L P all Q n σ rest env h) : L P all Q n σ (⟨none, op, ty, pos, af, none⟩ :: rest) env h := fun a w hf hw =>
  wpList_plain rfl fun _ hK => by
    unfold Oper.wp
    rw [hp.run a.eval w hf.agree hw.heap]
    exact hK _ _ (k _ _ hf hw)
theorem run_callv {x : Operand} {f : FuncId} {cap : Array Value} {xs : List Operand} {vs : List Value} {ats : Array TypeId} {d : Option Nat} {ty : TypeId} {pos : String} {af : Array Edge} {g : Option (Nat × Bool)} {ρ : Operand → Value} {w : World} (hρ : Agree env ρ) (hx : ev env x = some (.func (.func f) #[] cap)) (ha : evs env xs = some vs) :
    (execOp ρ ⟨d, .call { callee := .value x, args := xs.toArray, argTypes := ats }, ty, pos, af, g⟩).run P w = (callFunc f (vs.toArray ++ cap)).run P w := by
  have h2 : xs.map ρ = vs := hρ.list ha
  simp [execOp, resolve, hρ _ _ hx, Deferred.ofValue, invoke, h2]
theorem vOp_sound {op : Op} {ty : TypeId} {d : Option Nat} {pos : String} {af : Array Edge} {rest : List Oper} {k : Kt} (hT : TOk P T) (hd : okD n.size d = true) (hv : vOp P T op ty d k env ro own)
    (hk : ∀ v ro' own' h, Le ro ro' → k (pushD d v env) ro' own' → Sat ro' own' h → L P all Q n σ rest (pushD d v env) h) (hs : Sat ro own h) : L P all Q n σ (⟨d, op, ty, pos, af, none⟩ :: rest) env h := by
  have hpure : ∀ v, (pure1 T op env).has v → k (pushD d v env) ro own → L P all Q n σ (⟨d, op, ty, pos, af, none⟩ :: rest) env h := fun v hp hkv => by
    have h1 := hk v ro own h (Le.refl _) hkv hs
    cases d with
    | none => exact L.pure0 (pure1_ok hT hp) h1
    | some d => exact L.pure (pure1_ok hT hp) hd h1
  unfold vOp at hv
  split at hv
  · rename_i v hp
    exact hpure v (by rw [hp]; rfl) (by rwa [setK_eq] at hv)
  · rename_i p v hp
    obtain ⟨h1, h2⟩ := hv.run
    exact hpure v (by rw [hp]; exact ⟨h1, rfl⟩) (by rwa [setK_eq] at h2)
  · unfold vEff at hv
    split at hv
    · split at hv
      · rename_i hx hvs
        have hc := hv.run
        rw [capA_eq] at hc
        intro a w hf hw
        refine wpList_plain rfl fun _ hK => ?_
        unfold Oper.wp
        rw [run_callv hf.agree hx hvs]
        have hsw : Sat ro own w.heap := by rw [hw.heap]; exact hs
        rcases hc.run w hsw with ⟨he, hcalls⟩ | ⟨v, w', he, hh, ro', own', hl, hs', hKv⟩
        · rw [he]
          refine hcalls.mono fun e w' ⟨v, hev, hh, ro', own', hl, hs', hKv⟩ => ?_
          subst hev
          replace hKv : setK d v k env ro' own' := hKv
          rw [setK_eq] at hKv
          cases d with
          | none => exact hK _ _ (hk v ro' own' _ hl hKv hs' _ _ hf (hw.trans hh))
          | some d => exact hK _ _ (hk v ro' own' _ hl hKv hs' _ _ (hf.put hd v) (hw.trans hh))
        · rw [he]
          replace hKv : setK d v k env ro' own' := hKv
          rw [setK_eq] at hKv
          cases d with
          | none => exact hK _ _ (hk v ro' own' _ hl hKv hs' _ _ hf (hw.trans hh))
          | some d => exact hK _ _ (hk v ro' own' _ hl hKv hs' _ _ (hf.put hd v) (hw.trans hh))
      · exact hv.elim
    · have hc := hv.run.run h hs
      cases d with
      | none => exact L.eff0 (hc none pos af none) (fun v h' ⟨ro', own', hl, hs', hK⟩ => hk v ro' own' h' hl (by rwa [setK_eq] at hK) hs')
      | some d => exact L.eff (hc (some d) pos af none) hd (fun v h' ⟨ro', own', hl, hs', hK⟩ => hk v ro' own' h' hl (by rwa [setK_eq] at hK) hs')
theorem wpList_append {ops : Array Oper} {l2 : List Oper} : ∀ {l1 : List Oper} {a : Act} {w : World}, wpList P ops (fun e a w => match e with | .normal => wpList P ops Q l2 a w | e => Q e a w) l1 a w → wpList P ops Q (l1 ++ l2) a w
  | [], a, w, hh => by simpa [wpList] using hh
  | o :: l1, a, w, hh => by
    rw [List.cons_append]
    unfold wpList at hh ⊢
    split
    · rename_i hw'
      rw [if_pos hw'] at hh
      rcases hh with h0 | ⟨h1, a', w', h2⟩
      · left
        unfold Oper.wp at h0 ⊢
        generalize (execOp a.eval o).run P w = r at h0 ⊢
        cases r with
        | ok nx w' =>
          cases nx <;> simp only [Oper.upon] at h0 ⊢ <;> first
            | exact wpList_append h0
            | exact Calls.mono h0 (fun e w'' he => by cases e <;> first | exact wpList_append he | exact he | (obtain ⟨a3, w3, h3⟩ := he; exact ⟨a3, w3, h3⟩))
            | exact Rows.mono h0 (fun v w'' he => wpList_append he)
        | halt x w' => cases x <;> simp only [Oper.upon] at h0 ⊢ <;> exact h0
      · exact .inr ⟨h1, a', w', h2⟩
    · rename_i hw'
      rw [if_neg hw'] at hh
      exact wpList_append hh
theorem L.append {l1 l2 : List Oper} (k : L P all (fun e a w => match e with | .normal => wpList P all Q l2 a w | e => Q e a w) n σ l1 env h) : L P all Q n σ (l1 ++ l2) env h :=
  fun a w hf hw => wpList_append (k a w hf hw)
/-- A guarded operation that is passed over. -/
theorem L.skip {l rest : List Oper} {d : Option Nat} {op : Op} {ty : TypeId} {pos : String} {af : Array Edge} {j : Nat} {b : Bool} {t : Nat} {u : Value}
    (hj0 : dstOf l j = some t) (ht : look env t = some u) (hu : u ≠ .bool b) (hd : okD n.size d = true) (k : L P l.toArray Q n σ rest (pushD d undef env) h) :
    L P l.toArray Q n σ (⟨d, op, ty, pos, af, some (j, b)⟩ :: rest) env h := fun a w hf hw => by
  have hj := dstOf_spec hj0
  have hy : yielded l.toArray a.tmps j ≠ some b := by
    simp only [yielded, List.getElem?_toArray, hj, Option.bind_some, hf.get _ _ ht]
    intro e
    split at e
    · rename_i b' hb'; simp at hb' e; subst e; exact hu hb'
    · cases e
  have k := k (a.put d undef) w (by cases d with
    | none => exact hf
    | some d => exact hf.put hd undef) hw
  unfold wpList
  rw [if_neg (by simpa [Region.wanted] using hy)]
  exact k
/-- A guarded operation whose guard's slot bears the Bool that is wanted. -/
theorem L.guardOk {l rest : List Oper} {d : Option Nat} {op : Op} {ty : TypeId} {pos : String} {af : Array Edge} {g : Option (Nat × Bool)} (hg : gHolds l env g = true)
    (k : L P l.toArray Q n σ (⟨d, op, ty, pos, af, none⟩ :: rest) env h) : L P l.toArray Q n σ (⟨d, op, ty, pos, af, g⟩ :: rest) env h := by
  cases g with
  | none => exact k
  | some p =>
    obtain ⟨j, b⟩ := p
    simp only [gHolds] at hg
    split at hg
    · rename_i t ht
      split at hg
      · rename_i hl; subst hg; exact L.guard ht hl k
      · rename_i hl; simp at hg; subst hg; exact L.guard ht hl k
      · cases hg
    · cases hg
/-- What env tells is told by env', but for these slots. -/
def Pres (l : List Oper) (env env' : Env) : Prop := ∀ x v, look env x = some v → (∀ o ∈ l, o.dst ≠ some x) → look env' x = some v
theorem look_cons (d t : Nat) (v : Value) (env : Env) : look ((d, v) :: env) t = if d = t then some v else look env t := by
  show (bif Nat.beq d t then some v else look env t) = _
  by_cases e : d = t
  · subst e; simp
  · have : Nat.beq d t = false := by cases hh : Nat.beq d t; rfl; exact absurd (Nat.eq_of_beq_eq_true hh) e
    simp [this, e]
theorem Pres.push {o : Oper} {l : List Oper} {env : Env} {v : Value} {env' : Env} (h : Pres l (pushD o.dst v env) env') : Pres (o :: l) env env' := fun x u hx hn => h x u (by
  have h0 := hn o (by simp)
  cases hd : o.dst with
  | none => exact hx
  | some d =>
    rw [hd] at h0
    simp only [pushD, look_cons]
    rw [if_neg (fun e => h0 (by rw [e]))]
    exact hx) (fun o' ho => hn o' (by simp [ho]))
theorem Pres.lit {l : List Oper} {env env' : Env} {t : Nat} {u : Value} (h : Pres l ((t, u) :: env) env') (ht : look env t = some u) : Pres l env env' := fun x v hx hn => h x v (by
  rw [look_cons]
  by_cases e : t = x
  · subst e; rw [ht] at hx; simpa using hx
  · rw [if_neg e]; exact hx) hn
theorem Sub2.lit {env : Env} {t : Nat} {u : Value} (ht : look env t = some u) : Sub2 ((t, u) :: env) env := fun x v hx => by
  rw [look_cons] at hx
  by_cases e : t = x
  · subst e; simp at hx; subst hx; exact ht
  · rwa [if_neg e] at hx
theorem Sub2.push {e' e : Env} (h : Sub2 e' e) (d : Option Nat) (v : Value) : Sub2 (pushD d v e') (pushD d v e) := fun x u hx => by
  cases d with
  | none => exact h x u hx
  | some d =>
    simp only [pushD, look_cons] at hx ⊢
    by_cases ed : d = x
    · rw [if_pos ed] at hx ⊢; exact hx
    · rw [if_neg ed] at hx ⊢; exact h x u hx
theorem fresh_spec {env : Env} {l : List Oper} (h : fresh env l = true) : ∀ o ∈ l, ∀ d, o.dst = some d → look env d = none := fun o ho d hd => by
  have := (List.all_eq_true.1 h) o ho
  simp only [hd] at this
  split at this
  · cases this
  · assumption
theorem segOf_spec {l0 : List Oper} {t : Nat} {b : Bool} : ∀ {l dead : List Oper} {ds : List Nat} {s r' : List Oper} {p : Oper}, segOf l0 t b ds l = some (s, p, r') → l = s ++ p :: r' ∧ isPick t b p.op = true ∧ ∃ dd, p.dst = some dd
  | [], _, _, _, _, _, h => by cases h
  | o :: r, dead, ds, s, r', p, h => by
    unfold segOf at h
    split at h
    · cases h
    · rename_i d hd
      cases hp : isPick t b o.op with
      | true => simp [hp] at h; obtain ⟨rfl, rfl, rfl⟩ := h; exact ⟨rfl, hp, d, hd⟩
      | false =>
        simp only [hp, cond_false] at h
        cases hg : deadG l0 t b ds o.guard with
        | false => simp [hg] at h
        | true =>
          simp only [hg, cond_true] at h
          split at h
          · rename_i s2 p2 r2 hs2
            simp at h
            obtain ⟨rfl, rfl, rfl⟩ := h
            obtain ⟨h1, h2, h3⟩ := segOf_spec (dead := dead) hs2
            exact ⟨by rw [h1]; rfl, h2, h3⟩
          · cases h
theorem memN_spec : ∀ {l : List Nat} {x : Nat}, memN l x = true → x ∈ l
  | [], _, h => by cases h
  | y :: r, x, h => by
    unfold memN at h
    by_cases e : Nat.beq y x = true
    · have := Nat.eq_of_beq_eq_true e; subst this; simp
    · rw [Bool.not_eq_true] at e; rw [e] at h; simp [memN_spec (by simpa using h)]
/-- The ways where the guard says no: all is passed over, up to the choice. -/
theorem seg_skip {l0 : List Oper} {t : Nat} {b : Bool} : ∀ {l : List Oper} {ds : List Nat} {s r' : List Oper} {p : Oper} {env : Env} {h : Heap}, segOf l0 t b ds l = some (s, p, r') → l.all (fun o => okD n.size o.dst) = true →
    look env t = some (.bool !b) → (∀ x ∈ ds, look env x = some undef) → (∀ o ∈ s, o.dst ≠ some t) → (p.dst ≠ some t) → gHolds l0 env p.guard = true →
    (∀ o ∈ s, ∀ d, o.dst = some d → ∀ j b' t', p.guard = some (j, b') → dstOf l0 j = some t' → d ≠ t') →
    (∀ env' : Env, Pres (s ++ [p]) env env' → (∃ dd, p.dst = some dd ∧ look env' dd = some (.bool !b)) → L P l0.toArray Q n σ r' env' h) → L P l0.toArray Q n σ l env h
  | [], _, _, _, _, _, _, hs, _, _, _, _, _, _, _, _ => by cases hs
  | ⟨od, oop, oty, opos, oaf, og⟩ :: r, ds, s, r', p, env, h, hs, hok, ht, hds, hst, hpt, hg, hgs, hk => by
    have hok1 : okD n.size od = true := by simp at hok; exact hok.1
    unfold segOf at hs
    split at hs
    · cases hs
    · rename_i d hd
      simp only at hd
      subst hd
      cases hp : isPick t b oop with
      | true =>
        simp [hp] at hs
        obtain ⟨rfl, rfl, rfl⟩ := hs
        refine L.guardOk hg ?_
        unfold isPick at hp
        split at hp
        · rename_i t' x y
          simp at hp
          obtain ⟨rfl, hxy⟩ := hp
          have hfin : ∀ v : Value, v = .bool !b → L P l0.toArray Q n σ r ((d, v) :: env) h := fun v hv => hk _ (by
              refine Pres.push (o := ⟨some d, .pick (.tmp t') x y, oty, opos, oaf, og⟩) (v := v) ?_
              exact fun x v hx _ => hx) ⟨d, rfl, by rw [look_cons]; simp [hv]⟩
          cases b with
          | true =>
            simp at hxy
            split at hxy
            · exact L.pure (Pu.pickF ht rfl) hok1 (hfin _ rfl)
            · cases hxy
          | false =>
            simp at hxy
            split at hxy
            · exact L.pure (Pu.pickT ht rfl) hok1 (hfin _ rfl)
            · cases hxy
        · cases hp
      | false =>
        simp only [hp, cond_false] at hs
        cases hgd : deadG l0 t b ds og with
        | false => simp [hgd] at hs
        | true =>
          simp only [hgd, cond_true] at hs
          split at hs
          · rename_i s2 p2 r2 hs2
            simp at hs
            obtain ⟨rfl, rfl, rfl⟩ := hs
            have hdt : d ≠ t := fun e => hst ⟨some d, oop, oty, opos, oaf, og⟩ (by simp) (by simp [e])
            have hrest : L P l0.toArray Q n σ r ((d, undef) :: env) h := by
              refine seg_skip hs2 (by simp at hok; simpa using hok.2) (by rw [look_cons, if_neg hdt]; exact ht) (fun x hx => ?_) (fun o ho => hst o (by simp [ho])) hpt ?_ (fun o ho => hgs o (by simp [ho])) (fun env' hp' hq => hk env' ?_ hq)
              · rw [look_cons]
                by_cases e : d = x
                · rw [if_pos e]
                · rw [if_neg e]; simp at hx; rcases hx with rfl | hx
                  · exact absurd rfl e
                  · exact hds x hx
              · generalize hpg : p2.guard = pg at hg
                cases pg with
                | none => rfl
                | some q =>
                  obtain ⟨j, b'⟩ := q
                  simp only [gHolds] at hg ⊢
                  cases hj : dstOf l0 j with
                  | none => simp [hj] at hg
                  | some t' =>
                    simp only [hj] at hg ⊢
                    have hne : d ≠ t' := hgs ⟨some d, oop, oty, opos, oaf, og⟩ (by simp) d rfl j b' t' hpg hj
                    rw [look_cons, if_neg hne]
                    exact hg
              · exact Pres.push (o := ⟨some d, oop, oty, opos, oaf, og⟩) (v := undef) hp'
            unfold deadG at hgd
            split at hgd
            · rename_i j b'
              split at hgd
              · rename_i t' hj
                simp only [Bool.or_eq_true, Bool.and_eq_true] at hgd
                rcases hgd with ⟨h1, h2⟩ | h1
                · have := Nat.eq_of_beq_eq_true h1
                  subst this
                  have hbb : b = b' := by cases b <;> cases b' <;> simp_all
                  subst hbb
                  exact L.skip hj ht (by cases b <;> simp) hok1 hrest
                · exact L.skip hj (hds _ (memN_spec h1)) (by simp [undef]) hok1 hrest
              · cases hgd
            · cases hgd
          · cases hs
theorem vOps_sound (hT : TOk P T) {l0 : List Oper} : ∀ {fl : List Oper} {K : List (Nat × Bool)} {l : List Oper} {k : Kt} {env : Env} {ro : Ro} {own : Chs} {h : Heap} {Q : Exit → Act → World → Prop}, l.all (fun o => okD n.size o.dst) = true → vOps P T l0 fl K l k env ro own →
    (∀ env' ro' own' h', Pres l env env' → Le ro ro' → k env' ro' own' → Sat ro' own' h' → N n σ (Q .normal) env' h') → Sat ro own h → L P l0.toArray Q n σ l env h
  | fl, K, [], k, env, ro, own, h, Q, hok, hv, hk, hs => by
    have hv : k env ro own := by cases fl <;> exact hv
    exact L.nil (hk env ro own h (fun x v hx _ => hx) (Le.refl _) hv hs)
  | [], K, _ :: _, k, env, ro, own, h, Q, hok, hv, hk, hs => hv.elim
  | _ :: fl, K, ⟨d, op, ty, pos, af, g⟩ :: r, k, env, ro, own, h, Q, hok, hv, hk, hs => by
    have hok1 : okD n.size d = true := by simp at hok; exact hok.1
    have hok2 : r.all (fun o => okD n.size o.dst) = true := by simp at hok; simpa using hok.2
    have hrun : ∀ (K' : List (Nat × Bool)) (k' : Kt) (env0 : Env) (r0 : List Oper) (Q0 : Exit → Act → World → Prop), r0.all (fun o => okD n.size o.dst) = true → vOp P T op ty d (vOps P T l0 fl K' r0 k') env0 ro own →
        (∀ env' ro' own' h', Pres (⟨d, op, ty, pos, af, g⟩ :: r0) env0 env' → Le ro ro' → k' env' ro' own' → Sat ro' own' h' → N n σ (Q0 .normal) env' h') → L P l0.toArray Q0 n σ (⟨d, op, ty, pos, af, none⟩ :: r0) env0 h :=
      fun K' k' env0 r0 Q0 hr0 hv0 hk0 => vOp_sound hT hok1 hv0 (fun v ro' own' h' hl hv' hs' => vOps_sound hT hr0 hv' (fun env' ro2 own2 h2 hp hl2 hk2 hs2 => hk0 env' ro2 own2 h2 (Pres.push (o := ⟨d, op, ty, pos, af, g⟩) hp) (hl.trans hl2) hk2 hs2) hs') hs
    have hskip : ∀ (K' : List (Nat × Bool)) (env0 : Env), vOps P T l0 fl K' r k (pushD d undef env0) ro own → (∀ env', Pres (⟨d, op, ty, pos, af, g⟩ :: r) env0 env' → Pres (⟨d, op, ty, pos, af, g⟩ :: r) env env') → L P l0.toArray Q n σ r (pushD d undef env0) h :=
      fun K' env0 hv0 hpr => vOps_sound hT hok2 hv0 (fun env' ro2 own2 h2 hp hl2 hk2 hs2 => hk env' ro2 own2 h2 (hpr _ (Pres.push (o := ⟨d, op, ty, pos, af, g⟩) hp)) hl2 hk2 hs2) hs
    rw [vOps_cons] at hv
    split at hv
    · exact hrun K k env r Q hok2 hv hk
    · rename_i j b
      split at hv
      · exact hv.elim
      · rename_i t hj
        split at hv
        · rename_i c ht
          have hcase : (c = b → vOp P T op ty d (vOps P T l0 fl ((t, b) :: K) r k) ((t, .bool b) :: env) ro own) → (c = !b → vOps P T l0 fl ((t, !b) :: K) r k (pushD d undef ((t, .bool !b) :: env)) ro own) → L P l0.toArray Q n σ (⟨d, op, ty, pos, af, some (j, b)⟩ :: r) env h := fun h1 h2 => by
            by_cases e : c = b
            · subst e
              refine L.guard hj ht (L.sub2 (Sub2.lit ht) (hrun _ k _ r Q hok2 (h1 rfl) (fun env' ro' own' h' hp => hk env' ro' own' h' (hp.lit ht))))
            · have e' : c = !b := by revert e; cases b <;> cases c <;> simp
              subst e'
              exact L.skip hj ht (by cases b <;> simp) hok1 (L.sub2 ((Sub2.lit ht).push d undef) (hskip _ _ (h2 rfl) (fun env' hp => hp.lit ht)))
          split at hv
          · rename_i c'
            cases hb : sameB c b with
            | true =>
              have : c = b := by cases c <;> cases b <;> simp_all [sameB]
              subst this
              simp only [hb, cond_true] at hv
              exact L.guard hj ht (hrun K k env r Q hok2 hv hk)
            | false =>
              have : c = !b := by cases c <;> cases b <;> simp_all [sameB]
              subst this
              simp only [hb, cond_false, setK_eq] at hv
              exact L.skip hj ht (by cases b <;> simp) hok1 (hskip K env hv (fun _ h => h))
          · split at hv
            · rcases hv.run with ⟨h1, h2⟩ | ⟨q, hc, h1, h2⟩
              · exact hcase h1 h2
              · cases hc
            · rename_i d
              split at hv
              · rename_i s dd pop pty ppos paf pg r' hseg
                rcases hv.run with ⟨h1, h2⟩ | ⟨q, hc, h1, h2⟩
                · exact hcase h1 h2
                · simp only [Bool.and_eq_true] at hc
                  have hfr := fresh_spec hc.1
                  obtain ⟨hl, hpk, _⟩ := segOf_spec (dead := []) hseg
                  have htd : ∀ x, look env x = none → x ≠ t := fun x hx e => by subst e; rw [hx] at ht; cases ht
                  have hfd : look env d = none := hfr ⟨some d, op, ty, "", #[], none⟩ (by simp) d rfl
                  have hfdd : look env dd = none := hfr ⟨some dd, op, ty, "", #[], none⟩ (by simp) dd rfl
                  have hfs : ∀ o ∈ s, ∀ x, o.dst = some x → look env x = none := fun o ho x hx => hfr o (by simp [ho]) x hx
                  have hall := List.all_eq_true.1 hok2
                  rw [hl] at hall
                  have hokr' : r'.all (fun o => okD n.size o.dst) = true := List.all_eq_true.2 fun o ho => hall o (by simp [ho])
                  have hoks : (s ++ [(⟨some dd, pop, pty, ppos, paf, pg⟩ : Oper)]).all (fun o => okD n.size o.dst) = true := List.all_eq_true.2 fun o ho => hall o (by
                    rw [List.mem_append, List.mem_singleton] at ho
                    rcases ho with ho | ho
                    · simp [ho]
                    · subst ho; simp)
                  have hkr : ∀ env' : Env, Sub2 ((dd, .bool (jb b c q)) :: env) env' → ∀ {h' : Heap} {Q'}, Q' = Q → h' = h → L P l0.toArray Q' n σ r' env' h' := fun env' hsub h' Q' e1 e2 => by
                    subst e1; subst e2
                    exact L.sub2 hsub (vOps_sound hT hokr' h2 (fun env2 ro2 own2 h3 hp hl2 hk2 hs2 => hk env2 ro2 own2 h3 (fun x v hx hn => hp x v (by
                      rw [look_cons, if_neg (fun e => by subst e; rw [hfdd] at hx; cases hx)]; exact hx) (fun o ho => hn o (by simp [hl, ho]))) hl2 hk2 hs2) hs)
                  by_cases e : c = b
                  · subst e
                    refine L.guard hj ht ?_
                    have e2 : (⟨some d, op, ty, pos, af, none⟩ :: r : List Oper) = (⟨some d, op, ty, pos, af, none⟩ :: (s ++ [⟨some dd, pop, pty, ppos, paf, pg⟩])) ++ r' := by rw [hl]; simp
                    rw [e2]
                    refine L.append ?_
                    refine L.sub2 (Sub2.lit ht) ?_
                    refine vOp_sound hT hok1 (h1 rfl) (fun v ro' own' h' hl2 hv' hs' => vOps_sound hT hoks hv' (fun env' ro2 own2 h2' hp hl3 hk2 hs2 => ?_) hs') hs
                    obtain ⟨hq, rfl, rfl⟩ := hk2
                    have hjq : jb c c q = q := by cases c <;> simp [jb]
                    have hsub : Sub2 ((dd, .bool (jb c c q)) :: env) env' := fun x v hx => by
                      rw [look_cons] at hx
                      by_cases ed : dd = x
                      · subst ed; rw [if_pos rfl, hjq] at hx; rw [hq]; exact hx
                      · rw [if_neg ed] at hx
                        refine (Pres.push (o := ⟨some d, op, ty, pos, af, none⟩) hp).lit ht x v hx ?_
                        intro o ho e
                        simp at ho
                        rcases ho with rfl | ho | rfl
                        · simp at e; subst e; rw [hfd] at hx; cases hx
                        · rw [hfs o ho x e] at hx; cases hx
                        · simp at e; exact ed e
                    exact L.sub2 hsub (vOps_sound hT hokr' h2 (fun env2 ro2 own2 h3 hp2 hl2 hk2 hs2 => hk env2 ro2 own2 h3 (fun x v hx hn => hp2 x v (by
                      rw [look_cons, if_neg (fun e => by subst e; rw [hfdd] at hx; cases hx)]; exact hx) (fun o ho => hn o (by simp [hl, ho]))) hl2 hk2 hs2) hs2)
                  · have e' : c = !b := by cases b <;> cases c <;> simp_all
                    subst e'
                    refine L.skip hj ht (by cases b <;> simp) hok1 (seg_skip hseg hok2 ?_ ?_ ?_ ?_ ?_ ?_ ?_)
                    · simp only [pushD, look_cons]; rw [if_neg (htd d hfd)]; exact ht
                    · intro x hx; simp at hx; subst hx; simp [pushD, look_cons]
                    · intro o ho e; exact htd t (hfs o ho t e) rfl
                    · intro e; simp at e; exact htd dd hfdd e
                    · have hg := hc.2
                      cases pg with
                      | none => rfl
                      | some q =>
                        obtain ⟨j2, b2⟩ := q
                        simp only [gHolds] at hg ⊢
                        cases hj2 : dstOf l0 j2 with
                        | none => simp [hj2] at hg
                        | some t2 =>
                          simp only [hj2, pushD, look_cons] at hg ⊢
                          rw [if_neg (fun e => by subst e; rw [hfd] at hg; cases hg)]
                          exact hg
                    · intro o ho x hx j2 b2 t2 hg2 hj2 e
                      subst e
                      simp only at hg2
                      subst hg2
                      have hg := hc.2
                      simp only [gHolds, hj2, hfs o ho x hx] at hg
                      cases hg
                    · intro env' hp ⟨d2, e2, hq⟩
                      cases e2
                      have hjq : jb b (!b) q = !b := by cases b <;> simp [jb]
                      refine hkr env' (fun x v hx => ?_) rfl rfl
                      rw [look_cons] at hx
                      by_cases ed : dd = x
                      · subst ed; rw [if_pos rfl, hjq] at hx; rw [hq]; exact hx
                      · rw [if_neg ed] at hx
                        refine hp x v ?_ ?_
                        · simp only [pushD, look_cons]
                          rw [if_neg (fun e => by subst e; rw [hfd] at hx; cases hx)]
                          exact hx
                        · intro o ho e
                          simp at ho
                          rcases ho with ho | rfl
                          · rw [hfs o ho x e] at hx; cases hx
                          · simp at e; exact ed e
              · rcases hv.run with ⟨h1, h2⟩ | ⟨q, hc, h1, h2⟩
                · exact hcase h1 h2
                · cases hc
        · rename_i u hne ht
          rw [setK_eq] at hv
          exact L.skip hj ht (fun e => hne b (by rw [e])) hok1 (hskip K env hv (fun _ h => h))
        · exact hv.elim
termination_by fl K l => (fl.length, l.length)
end
end Go.E
