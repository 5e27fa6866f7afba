/- Walking an iterator: a region that calls its yield; functions that bear marks. No program in sight. -/
import Derived.Test.YtknfebfdehdapaaDoorV23
namespace Go.E
open Go Go.RowKit
set_option linter.unusedVariables false
set_option linter.unusedSimpArgs false
section
variable {P : Program} {T : TT} {al : Array Oper} {Q : Exit → Act → World → Prop} {n : Fr} {σ : World} {env : Env} {h : Heap}
/-- The operations of a region in their order, in the wide fence. -/
def LI (P : Program) (al : Array Oper) (Q : Exit → Act → World → Prop) (n : Fr) (σ : World) (ops : List Oper) (env : Env) (h : Heap) : Prop :=
  ∀ a w, Fits n env a → Hp h σ w → wpListIn Fence.wide 0 P al Q ops a w
theorem C.regionI {id : Nat} {l : List Oper} (k : LI P l.toArray Q n σ l env h) : C P Q n σ (.region id l.toArray false) env h := fun a w hf hw => (wpIn_wide (n := 0)).1 (wpIn_region_lit (k a w hf hw))
theorem upon_inWide {o : Oper} {a : Act} {K : Act → World → Prop} {next next' : Act → World → Prop} (hn : ∀ a w, next a w → next' a w) : ∀ {r : Result Next}, o.upon P a next (fun e a w => e = .normal ∧ K a w) r → o.uponIn Fence.wide 0 P a next' Q r := by
  intro r h
  cases r with
  | ok x w =>
    cases x <;> simp only [Oper.upon] at h <;> try exact h.elim
    all_goals simp only [Oper.uponIn]
    all_goals first
      | exact hn _ _ h
      | exact ⟨fun e => by simp [Fence.wide] at e, callsIn_wide.2 (h.mono fun e w' he => by
          cases e <;> first
            | exact hn _ _ he
            | (obtain ⟨hh, _⟩ := he; cases hh; done)
            | (obtain ⟨_, _, hh, _⟩ := he; cases hh; done))⟩
      | exact ⟨fun e => by simp [Fence.wide] at e, fun c cs _ => by
          obtain ⟨v, w', r, s⟩ := h c cs
          exact ⟨v, w', hn _ _ r, stepsIn_wide.2 s⟩⟩
  | halt x w => cases x <;> simp only [Oper.upon] at h <;> (obtain ⟨hh, _⟩ := h; cases hh)
theorem wpList_splitIn {K : Act → World → Prop} {rest : List Oper} (hK : ∀ a w, K a w → wpListIn Fence.wide 0 P al Q rest a w) : ∀ {ops : List Oper}, ops.all noDef = true → ∀ {a : Act} {w : World}, wpList P al (fun e a w => e = .normal ∧ K a w) ops a w → wpListIn Fence.wide 0 P al Q (ops ++ rest) a w
  | [], _, a, w, h => hK a w h.2
  | o :: ops, hd, a, w, h => by
    simp only [List.all_cons, Bool.and_eq_true] at hd
    unfold wpList at h
    show wpListIn Fence.wide 0 P al Q (o :: (ops ++ rest)) a w
    unfold wpListIn
    split
    · rename_i hw
      rw [if_pos hw] at h
      rcases h with h | ⟨_, h⟩
      · refine ⟨fun f _ => trivial, ?_⟩
        rw [Oper.semAt_eq _ _ _ (noDef_spec hd.1)]
        exact upon_inWide (fun a w h => wpList_splitIn hK hd.2 h) h
      · obtain ⟨_, _, hh, _⟩ := h; cases hh
    · rename_i hw
      rw [if_neg hw] at h
      exact ⟨fun f _ => trivial, wpList_splitIn hK hd.2 h⟩
/-- Its first operations as any. -/
theorem LI.split {rest : List Oper} {ops : List Oper} (hd : ops.all noDef = true) (k : L P al (fun e a w => e = .normal ∧ wpListIn Fence.wide 0 P al Q rest a w) n σ ops env h) : LI P al Q n σ (ops ++ rest) env h :=
  fun a w hf hw => wpList_splitIn (fun a w h => h) hd (k a w hf hw)
theorem LI.all {ops : List Oper} (hd : ops.all noDef = true) (k : L P al (fun e a w => e = .normal ∧ Q .normal a w) n σ ops env h) : LI P al Q n σ ops env h := fun a w hf hw => by
  have := wpList_splitIn (rest := []) (Q := Q) (fun a w h => h) hd (k a w hf hw)
  rwa [List.append_nil] at this
theorem N.normalI {rest : List Oper} (k : LI P al Q n σ rest env h) : N n σ ((fun (e : Exit) a w => e = .normal ∧ wpListIn Fence.wide 0 P al Q rest a w) .normal) env h := fun a w hf hw => ⟨rfl, k a w hf hw⟩
theorem N.normalA {Q' : Act → World → Prop} (k : N n σ Q' env h) : N n σ ((fun (e : Exit) a w => e = .normal ∧ Q' a w) .normal) env h := fun a w hf hw => ⟨rfl, k a w hf hw⟩
/-- Its own yield is called. -/
theorem LI.yield {rest : List Oper} {d l : Nat} {x : Operand} {ys : List Operand} {vs : List Value} {tys : Array TypeId} {ty : TypeId} {pos : String} {af : Array Edge}
    (hx : ev env x = some (.func (.yield l) #[] #[])) (hy : evs env ys = some vs) (hd : Nat.blt d n.size = true)
    (hY : ∀ w, Hp h σ w → YieldAt Fence.wide 0 P l vs.toArray w fun e w' => ∃ v, e = .returned v ∧ Hp w'.heap σ w' ∧ ∀ a', Fits n ((d, v) :: env) a' → wpListIn Fence.wide 0 P al Q rest a' w') :
    LI P al Q n σ (⟨some d, .call ⟨.value x, ys.toArray, tys⟩, ty, pos, af, none⟩ :: rest) env h := fun a w hf hw => by
  obtain ⟨fn, tmps, assign, body, hy1, hR⟩ := hY w hw
  have e1 := hf.agree _ _ hx
  have e2 := hf.agree.list hy
  unfold wpListIn
  rw [if_pos (show Region.wanted _ _ = true from rfl)]
  refine ⟨fun f _ => trivial, ?_⟩
  have hrun : (execOp a.eval ⟨some d, .call ⟨.value x, ys.toArray, tys⟩, ty, pos, af, none⟩).run P w = .ok (.round l fn tmps assign body) w := by
    rw [← hy1]
    simp [execOp, resolve, e1, e2, Deferred.ofValue, invoke, Sem.run_bind, Result.andThen, Sem.run_pure]
  rw [Oper.semAt_eq _ _ _ (fun c e => by cases e)]
  rw [hrun]
  simp only [Oper.uponIn]
  refine ⟨fun e => by simp [Fence.wide] at e, hR.mono fun e w' ⟨v, he, hh, hk⟩ => ?_⟩
  subst he
  exact hk _ (hf.put hd v)
theorem LI.guard {rest : List Oper} {d : Option Nat} {op : Op} {ty : TypeId} {pos : String} {af : Array Edge} {j : Nat} {b : Bool} {t : Nat}
    {l : List Oper} (hj0 : dstOf l j = some t) (ht : look env t = some (.bool b)) (k : LI P l.toArray Q n σ (⟨d, op, ty, pos, af, none⟩ :: rest) env h) :
    LI P l.toArray Q n σ (⟨d, op, ty, pos, af, some (j, b)⟩ :: rest) env h := fun a w hf hw => by
  have hj := dstOf_spec hj0
  have hy : yielded l.toArray a.tmps j = some b := by simp [yielded, hj, hf.get _ _ ht]
  have k := k a w hf hw
  unfold wpListIn at k ⊢
  rw [if_pos (show Region.wanted _ _ = true from rfl)] at k
  rw [if_pos (by simp [Region.wanted, hy])]
  exact k
/-! ### functions that bear marks -/
theorem leavesM {fn : Func} {tmps : Array Value} {R : Ending → World → Prop} {own : Chs} {ro : Ro} {σ : World} {v : Value} (hres : ∀ w, (results fn tmps).run P w = .ok v w) (hR : ∀ w, Hp w.heap σ w → Sat ro own w.heap → R (.returned v) w) :
    ∀ (ms : List Nat) (w : World), ms.Nodup → Hp w.heap σ w → (∀ b ∈ ms, ro b = none) → (∀ b ∈ ms, w.heap[b]? = some (.deferred (some []))) → (∀ b ∈ ms, ∀ c ∈ own, b ∉ c.fp) → Sat ro own w.heap → LeavesInM Fence.wide 0 P fn tmps R (ms.map markOf) .returning w
  | [], w, _, hh, _, _, _, hs => ⟨v, hres w, hR w hh hs⟩
  | b :: ms, w, hn, hh, h1, h2, h3, hs => by
    obtain ⟨n1, n2⟩ := List.nodup_cons.1 hn
    refine ⟨by simp, .inl ⟨b, _, rfl, run_takeDeferred (h2 b (by simp)), ?_⟩⟩
    refine leavesM hres hR ms _ n2 (hp_put _ _ hh) (fun c hc => h1 c (by simp [hc])) (fun c hc => ?_) (fun c hc => h3 c (by simp [hc])) (hs.out (h1 b (by simp)) (h3 b (by simp)) (fun c hc => World.putObj_heap_other hc))
    have hne : c ≠ b := fun e => n1 (by rw [← e]; exact hc)
    rw [World.putObj_heap_other hne]
    exact h2 c (by simp [hc])
/-- What is asked at the end of a function that may bear marks: its results are slots; of what lasts only what lasted ahead of it. -/
def retM (rs : List ResultVar) (Φ : Value → Chs → Prop) : Exit → Kt
  | .ret => fun env ro own => match rvals env rs with
    | some vs => Stop (Wk (fun _ _ own => Φ (tup vs) own) [] ro own)
    | none => False
  | .normal => fun env ro own => match rs with
    | [] => Stop (Wk (fun _ _ own => Φ (tup []) own) [] ro own)
    | _ => False
  | _ => fun _ _ _ => False
theorem results_of {fn : Func} {rs : List ResultVar} {vs : List Value} {a : Act} (hr : fn.results = rs.toArray) (hv : rvals env rs = some vs) (hf : Fits n env a) (w : World) : (results fn a.tmps).run P w = .ok (tup vs) w := by
  have := (RV.of (P := P) (h := w.heap) hv).run hf (rfl : w.heap = w.heap)
  have e : results fn a.tmps = (do let vs ← fn.results.mapM (resOne a.tmps); pure (if h : vs.size = 1 then vs[0] else .tuple vs)) := rfl
  rw [e, hr, List.mapM_toArray]
  simp only [bind_map_left, Sem.run_bind, this, Result.andThen_ok, Sem.run_pure, tup_eq]
/-- A function's contract out of its body's reckoning, where the body may range over a function. -/
theorem CallOk.introM {f : FuncId} {fn : Func} {c : Code} {args : List Value} {rs : List ResultVar} {Φ : Value → Ro → Chs → Prop} {ro : Ro} {own : Chs} (hT : TOk P T) (hf : P.funcs[f]? = some fn) (he : ∀ args w, (callFunc f args).run P w = .ok (.enter f args) w) (hb : fn.body = some c) (hr : fn.results = rs.toArray)
    (hn : okS fn.ntmps c = true) (hl : Nat.ble args.length fn.ntmps = true) (k : V P T c (retM rs (fun v own => Φ v ro own)) (argEnv 0 args) ro own) : CallOk P f args.toArray ro own Φ := by
  refine ⟨fun w hs => .inl ⟨he _ _, (callsIn_wide (n := 0)).1 (callsIn_of_wp_marks hf hb trivial (wpIn_wide.2 ?_))⟩⟩
  have fin : ∀ {env' : Env} {vs : List Value} {ro' : Ro} {own' : Chs} {D : List Deferred} {h' : Heap}, rvals env' rs = some vs → Le ro ro' → Wk (fun _ _ own => Φ (tup vs) ro own) [] ro' own' → Sat ro' own' h' → Mk (rf c) [] D ro ro' →
      ∀ a w2, Fits ⟨fn.ntmps, D⟩ env' a → Hp h' w w2 → LeavesInM Fence.wide 0 P fn a.tmps (fun e w' => ∃ v, e = .returned v ∧ Post ro Φ w v w') a.defers .returning w2 := by
    intro env' vs ro' own' D h' hv hl hk hs' hm a w2 hf2 hw2
    obtain ⟨e1, ro2, own2, h1, h2, h3, h4⟩ := hk.get h' hs'
    obtain ⟨ms, hD, hnd, hms⟩ := hm.yes
    have hw2h := hw2.heap
    subst hw2h
    have hD2 : a.defers = ms.map markOf := by rw [hf2.defers]; simpa using hD
    rw [hD2]
    refine leavesM (σ := w) (ro := ro) (own := own2) (results_of hr hv hf2) (fun w3 hh hs3 => ⟨_, rfl, hh, ro, own2, Le.refl _, hs3, h4⟩) ms w2 hnd (hp_heap hw2) (fun b hb => (hms b hb).1) (fun b hb => hs'.last b _ (hms b hb).2) (fun b hb c hc hbc => ?_) (h3.less (hl.trans h2))
    have := h3.ap c hc b hbc
    rw [h2.le _ _ (hms b hb).2] at this; cases this
  refine (V_sound hT k).run ⟨fn.ntmps, []⟩ w _ hn (fun e env' ro' own' D h' hl hk hs' hm => ?_) w.heap hs _ w ⟨rfl, ?_, fun t v hv => ?_⟩ (Hp.self w)
  · cases e with
    | ret =>
      simp only [retM] at hk
      split at hk
      · rename_i vs hv
        exact fun a w2 hf2 hw2 => fin hv hl hk.run hs' hm a w2 hf2 hw2
      · exact hk.elim
    | normal =>
      simp only [retM] at hk
      split at hk
      · exact fun a w2 hf2 hw2 => fin rfl hl hk.run hs' hm a w2 hf2 hw2
      · exact hk.elim
    | _ => exact hk.elim
  · have : args.length ≤ fn.ntmps := by simpa using hl
    simp; omega
  · have := (look_argEnv args 0 t v hv).2
    simp only [Nat.sub_zero] at this
    have ht : t < args.length := (List.getElem?_eq_some_iff.1 this).1
    rw [Array.getElem?_append_left (by simpa using ht)]
    simpa using this
/-- An iterator's walk, out of its body's. -/
theorem calls_of_C {f : FuncId} {fn : Func} {c : Code} {args : List Value} {W : World} {R : Ending → World → Prop} {m : Nat} (hf : P.funcs[f]? = some fn) (hb : fn.body = some c) (hn : fn.ntmps = m) (hl : Nat.ble args.length m = true)
    (k : C P (bodyPost P fn R) ⟨m, []⟩ W c (argEnv 0 args) W.heap) : Calls P f args.toArray W R :=
  calls_of_wp hf hb (k _ W ⟨rfl, by have : args.length ≤ m := by simpa using hl
                                    simp [hn]; omega, fun t v hv => by
    have := (look_argEnv args 0 t v hv).2
    simp only [Nat.sub_zero] at this
    have ht : t < args.length := (List.getElem?_eq_some_iff.1 this).1
    rw [Array.getElem?_append_left (by simpa using ht)]
    simpa using this⟩ (Hp.self W))
/-- A piece of code by the engine, all that lies there lasting. -/
theorem C.byV (hT : TOk P T) {c : Code} (hok : okS n.size c = true) (hrf : rf c = false) {k : Exit → Kt} (hv : V P T c k env (hm h) []) (hk : ∀ e env' ro' own' h', Le (hm h) ro' → k e env' ro' own' → Sat ro' own' h' → N n σ (Q e) env' h') : C P Q n σ c env h :=
  (V_sound hT hv).run n σ Q hok (fun e env' ro' own' D h' hl hk' hs' hm => by
    have : D = n.D := hm.no hrf
    subst this
    exact hk e env' ro' own' h' hl hk' hs') h (sat_all h)
theorem L.byV (hT : TOk P T) {l0 ops : List Oper} (hok : ops.all (fun o => okD n.size o.dst) = true) {k : Kt} (hv : vOps P T l0 ops [] ops k env (hm h) []) (hk : ∀ env' ro' own' h', Le (hm h) ro' → k env' ro' own' → Sat ro' own' h' → N n σ (Q .normal) env' h') : L P l0.toArray Q n σ ops env h :=
  vOps_sound hT hok hv (fun env' ro' own' h' _ hl hk' hs' => hk env' ro' own' h' hl hk' hs') (sat_all h)
end
end Go.E
