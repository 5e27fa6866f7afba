/- The reckoning of whole code is right; contracts of functions. No program in sight. -/
import Derived.Test.YtknfebfdehdapaaDoorV4
namespace Go.E
open Go
set_option linter.unusedVariables false
set_option linter.unusedSimpArgs false
section
variable {P : Program} {T : TT} {Q : Exit → Act → World → Prop} {n : Fr} {σ : World} {env : Env} {h : Heap} {ro : Ro} {own : Chs}
theorem Wk.sound {k : Kt} {K : Act → World → Prop} {env : Env} {ro ro0 : Ro} {own : Chs} (hw : Wk k env ro own) (hl : Le ro0 ro) (hk : ∀ env' ro' own' h', Le ro0 ro' → Le ro ro' → k env' ro' own' → Sat ro' own' h' → N n σ K env' h') {h : Heap} (hs : Sat ro own h) : N n σ K env h := by
  obtain ⟨env', ro', own', h1, h2, h3, h4⟩ := hw.get h hs
  exact N.sub2 h1 (hk env' ro' own' h (hl.trans h2) h2 h4 h3)
theorem Mk.later {f : Bool} {A B : List Deferred} {r1 r2 r3 : Ro} (h : Mk f A B r1 r2) (hl : Le r2 r3) : Mk f A B r1 r3 := ⟨h.no, by
  obtain ⟨ms, e, hn, h1⟩ := h.yes
  exact ⟨ms, e, hn, fun b hb => ⟨(h1 b hb).1, hl.le _ _ (h1 b hb).2⟩⟩⟩
theorem Fr.eta (n : Fr) : (⟨n.size, n.D⟩ : Fr) = n := rfl
theorem V_sound (hT : TOk P T) : ∀ {c : Code} {k : Exit → Kt} {env : Env} {ro : Ro} {own : Chs}, V P T c k env ro own → CodeOk P c k env ro own
  | .skip, k, env, ro, own, hv => ⟨fun n σ Q hok hk h hs => C.skip (hk .normal env ro own n.D h (Le.refl _) hv hs (Mk.refl _ _ _ _))⟩
  | .region id ops draw, k, env, ro, own, hv => by
    cases draw with
    | true => exact Stop.run hv
    | false =>
      refine ⟨fun n σ Q hok hk h hs => ?_⟩
      obtain ⟨l⟩ := ops
      exact C.region (vOps_sound hT hok hv (fun env' ro' own' h' _ hl hk' hs' => hk .normal env' ro' own' n.D h' hl hk' hs' (Mk.refl _ _ _ _)) hs)
  | .seq a b, k, env, ro, own, hv => by
    refine ⟨fun n σ Q hok hk h hs => ?_⟩
    simp only [okS, Bool.and_eq_true] at hok
    have hb : ∀ env' ro' own' D h', Le ro ro' → V P T b k env' ro' own' → Sat ro' own' h' → Mk (rf a) n.D D ro ro' → N ⟨n.size, D⟩ σ (b.wp P Q) env' h' := fun env' ro' own' D h' hl hv' hs' hm =>
      N.wp ((V_sound hT hv').run ⟨n.size, D⟩ σ Q hok.2 (fun e env2 ro2 own2 D2 h2 hl2 hk2 hs2 hm2 => hk e env2 ro2 own2 D2 h2 (hl.trans hl2) hk2 hs2 (Mk.trans hm hm2 hl hl2)) h' hs')
    have ha : ∀ J : Kt, V P T a (fun e => match e with | .normal => J | e => k e) env ro own → (∀ env' ro' own' D h', Le ro ro' → J env' ro' own' → Sat ro' own' h' → Mk (rf a) n.D D ro ro' → N ⟨n.size, D⟩ σ (b.wp P Q) env' h') → C P Q n σ (.seq a b) env h := fun J hv' hJ =>
      C.seq ((V_sound hT hv').run n σ _ hok.1 (fun e env2 ro2 own2 D2 h2 hl2 hk2 hs2 hm2 => by
        have hm3 : Mk (rf (.seq a b)) n.D D2 ro ro2 := hm2.weak (fun e => by simp only [rf, Bool.or_eq_false_iff] at e; exact e.1)
        cases e <;> first | exact N.then_normal (hJ env2 ro2 own2 D2 h2 hl2 hk2 hs2 hm2) | exact hk _ env2 ro2 own2 D2 h2 hl2 hk2 hs2 hm3) h hs)
    replace hv : vSeq a (V P T a) (V P T b) k env ro own := hv
    unfold vSeq at hv
    cases hj : joins a <;> simp only [hj] at hv
    rotate_left
    · rcases hv.run with h1 | ⟨E, O, I, h1, h2⟩
      · exact ha _ h1 hb
      · exact ha _ h1 (fun env' ro' own' D h' hl hw hs' hm => hw.sound hl (fun env2 ro2 own2 h2' hl2 hl3 ⟨i, hI, hsub, hsup⟩ hs2 => N.sub2 hsub.to2 (hb _ ro2 _ D h2' hl2 (h2 i ro2 hl2 hI) (hs2.sup hsup) (hm.later hl3))) hs')
    · exact ha _ hv hb
  | .cond c a b, k, env, ro, own, hv => by
    refine ⟨fun n σ Q hok hk h hs => ?_⟩
    simp only [okS, Bool.and_eq_true] at hok
    replace hv : vCond c (V P T a) (V P T b) k env ro own := hv
    unfold vCond at hv
    split at hv
    · rename_i v hx
      obtain ⟨h1, h2⟩ := hv.run
      exact C.cond hx (fun e => (V_sound hT (h1 e)).run n σ Q hok.1 (fun e env2 ro2 own2 D2 h2 hl2 hk2 hs2 hm2 => hk e env2 ro2 own2 D2 h2 hl2 hk2 hs2 (hm2.weak (fun e => by simp only [rf, Bool.or_eq_false_iff] at e; exact e.1))) h hs)
        (fun e => (V_sound hT (h2 e)).run n σ Q hok.2 (fun e env2 ro2 own2 D2 h2 hl2 hk2 hs2 hm2 => hk e env2 ro2 own2 D2 h2 hl2 hk2 hs2 (hm2.weak (fun e => by simp only [rf, Bool.or_eq_false_iff] at e; exact e.2))) h hs)
    · exact hv.elim
  | .block id a, k, env, ro, own, hv => by
    refine ⟨fun n σ Q hok hk h hs => ?_⟩
    replace hv : vBlock id (V P T a) k env ro own := hv
    unfold vBlock at hv
    refine C.block ((V_sound hT hv).run n σ _ hok (fun e env2 ro2 own2 D2 h2 hl2 hk2 hs2 hm2 => ?_) h hs)
    have hm3 : Mk (rf (.block id a)) n.D D2 ro ro2 := hm2
    cases e with
    | exit j =>
      cases hj : Nat.beq j id with
      | true =>
        have := Nat.eq_of_beq_eq_true hj
        subst this
        simp only [hj, cond_true] at hk2
        exact N.block_same (hk _ env2 ro2 own2 D2 h2 hl2 hk2 hs2 hm3)
      | false =>
        simp only [hj, cond_false] at hk2
        exact N.block_other hj (hk _ env2 ro2 own2 D2 h2 hl2 hk2 hs2 hm3)
    | _ => exact hk _ env2 ro2 own2 D2 h2 hl2 hk2 hs2 hm3
  | .loop a, k, env, ro, own, hv => by
    refine ⟨fun n σ Q hok hk h hs => ?_⟩
    replace hv : vLoop a (V P T a) k env ro own := hv
    unfold vLoop at hv
    obtain ⟨E, O, I, μ, init, round⟩ := hv.run
    obtain ⟨env0, ro0, own0, he, hl0, hs0, i0, hI0, hsub0, hsup0⟩ := init.get h hs
    refine C.sub2 he (C.loop (n := fun p => (⟨n.size, p.2⟩ : Fr)) (f := fun p => E p.1) (fun p h' => ∃ ro', Le ro ro' ∧ I p.1 ro' ∧ Sat ro' (O p.1) h' ∧ Mk (rf a) n.D p.2 ro ro') (fun p => μ p.1) (i0, n.D) ⟨ro0, hl0, hI0, hs0.sup hsup0, Mk.refl _ _ _ _⟩ hsub0 ?_)
    rintro ⟨i, D⟩ h' ⟨ro', hl, hI, hs', hm⟩
    refine (V_sound hT (round i ro' hl hI)).run ⟨n.size, D⟩ σ _ hok (fun e env2 ro2 own2 D2 h2 hl2 hk2 hs2 hm2 => ?_) h' hs'
    have hm3 : Mk (rf a) n.D D2 ro ro2 := (Mk.trans hm hm2 hl hl2).weak (fun e => by simp [e])
    have hm4 : Mk (rf (.loop a)) n.D D2 ro ro2 := hm3
    cases e with
    | normal =>
      exact N.then_normal (Wk.sound hk2 hl2 (fun env3 ro3 own3 h3 hl3 hl4 ⟨j, hI3, hμ, hsub, hsup⟩ hs3 => N.round (n := fun p => (⟨n.size, p.2⟩ : Fr)) (j, D2) ⟨ro3, hl.trans hl3, hI3, hs3.sup hsup, hm3.later hl4⟩ hμ hsub) hs2)
    | _ => exact hk _ env2 ro2 own2 D2 h2 (hl.trans hl2) hk2 hs2 hm4
  | .exit id, k, env, ro, own, hv => ⟨fun n σ Q hok hk h hs => C.exit (hk _ env ro own n.D h (Le.refl _) hv hs (Mk.refl _ _ _ _))⟩
  | .ret, k, env, ro, own, hv => ⟨fun n σ Q hok hk h hs => C.ret (hk _ env ro own n.D h (Le.refl _) hv hs (Mk.refl _ _ _ _))⟩
  | .label _, k, env, ro, own, hv => ⟨fun n σ Q hok hk h hs => C.label (hk _ env ro own n.D h (Le.refl _) hv hs (Mk.refl _ _ _ _))⟩
  | .rangeFunc f p x y, k, env, ro, own, hv => Stop.run hv
  | .scope x, k, env, ro, own, hv => Stop.run hv
  | .goto x, k, env, ro, own, hv => Stop.run hv
  | .refuse x, k, env, ro, own, hv => Stop.run hv

theorem N.ret4 {fn : Func} {Φ : Value → Heap → Prop} {t1 t2 t3 t4 : Nat} {v1 v2 v3 v4 : Value} (hD : n.D = []) (hr : fn.results = #[.tmp t1, .tmp t2, .tmp t3, .tmp t4]) (h1 : look env t1 = some v1) (h2 : look env t2 = some v2) (h3 : look env t3 = some v3) (h4 : look env t4 = some v4)
    (hΦ : Φ (.tuple #[v1, v2, v3, v4]) h) : N n σ (bodyPost P fn (Ret σ Φ) .ret) env h :=
  fun a w hf hw => ⟨hf.defers.trans hD, .tuple #[v1, v2, v3, v4], by simp [results, hr, hf.get _ _ h1, hf.get _ _ h2, hf.get _ _ h3, hf.get _ _ h4], _, rfl, hw.heap ▸ hw, hw.heap ▸ hΦ⟩
theorem rvals_cons {t : Nat} {r : List ResultVar} {vs : List Value} (h : rvals env (.tmp t :: r) = some vs) : ∃ v vs', vs = v :: vs' ∧ look env t = some v ∧ rvals env r = some vs' := by
  unfold rvals at h
  split at h
  · cases h; exact ⟨_, _, rfl, by assumption, by assumption⟩
  · cases h
def few : List ResultVar → Bool
  | [] | [.tmp _] | [.tmp _, .tmp _] | [.tmp _, .tmp _, .tmp _] | [.tmp _, .tmp _, .tmp _, .tmp _] => true
  | _ => false
def fewC (_ : List ResultVar) : Bool := true
theorem N.retAll {fn : Func} {Φ : Value → Heap → Prop} {rs : List ResultVar} {vs : List Value} (hw : few rs = true) (hD : n.D = []) (hr : fn.results = rs.toArray) (hv : rvals env rs = some vs) (hΦ : Φ (tup vs) h) : N n σ (bodyPost P fn (Ret σ Φ) .ret) env h := by
  unfold few at hw
  split at hw
  · simp [rvals] at hv; subst hv; exact N.ret0 hD hr hΦ
  · obtain ⟨v1, _, rfl, h1, hv⟩ := rvals_cons hv
    simp [rvals] at hv; subst hv; exact N.ret1 hD hr h1 hΦ
  · obtain ⟨v1, _, rfl, h1, hv⟩ := rvals_cons hv
    obtain ⟨v2, _, rfl, h2, hv⟩ := rvals_cons hv
    simp [rvals] at hv; subst hv; exact N.ret2 hD hr h1 h2 hΦ
  · obtain ⟨v1, _, rfl, h1, hv⟩ := rvals_cons hv
    obtain ⟨v2, _, rfl, h2, hv⟩ := rvals_cons hv
    obtain ⟨v3, _, rfl, h3, hv⟩ := rvals_cons hv
    simp [rvals] at hv; subst hv; exact N.ret3 hD hr h1 h2 h3 hΦ
  · obtain ⟨v1, _, rfl, h1, hv⟩ := rvals_cons hv
    obtain ⟨v2, _, rfl, h2, hv⟩ := rvals_cons hv
    obtain ⟨v3, _, rfl, h3, hv⟩ := rvals_cons hv
    obtain ⟨v4, _, rfl, h4, hv⟩ := rvals_cons hv
    simp [rvals] at hv; subst hv; exact N.ret4 hD hr h1 h2 h3 h4 hΦ
  · cases hw
theorem tup_eq (vs : List Value) : (if h : vs.toArray.size = 1 then vs.toArray[0] else .tuple vs.toArray) = tup vs := by
  match vs with
  | [] => rfl
  | [v] => rfl
  | v :: u :: r => simp [tup]
theorem RV.of : ∀ {rs : List ResultVar} {vs : List Value}, rvals env rs = some vs → RV P env h rs vs
  | [], vs, hv => by simp [rvals] at hv; subst hv; exact .nil
  | .tmp t :: r, vs, hv => by
    obtain ⟨v, vs', rfl, h1, h2⟩ := rvals_cons hv
    exact .tmp h1 (RV.of h2)
  | .cell _ _ :: r, vs, hv => by simp [rvals] at hv
def resOne (tmps : Array Value) : ResultVar → Sem Value
  | .tmp t => pure (tmps.getD t undef)
  | .cell x t => do loadVar t (← asAddr (tmps.getD x undef))
theorem RV.run {rs : List ResultVar} {vs : List Value} {h : Heap} {a : Act} {w : World} (hv : RV P env h rs vs) (hf : Fits n env a) (hw : w.heap = h) :
    (rs.mapM (resOne a.tmps)).run P w = .ok vs w := by
  induction hv with
  | nil => simp
  | @tmp t v r vs hv hr ih =>
    have e : (resOne a.tmps (.tmp t)).run P w = .ok v w := by have := hf.get t v hv; simp [resOne, Array.getD_eq_getD_getElem?, this]
    rw [List.mapM_cons]
    simp only [Sem.run_bind, e, Result.andThen_ok, ih, Sem.run_pure]
  | @cell t ty b o v r vs hx hv hr ih =>
    have e : (resOne a.tmps (.cell t ty)).run P w = .ok v w := by have := hf.get t _ hx; simp [resOne, Array.getD_eq_getD_getElem?, this, asAddr, hv w hw, Result.andThen]
    rw [List.mapM_cons]
    simp only [Sem.run_bind, e, Result.andThen_ok, ih, Sem.run_pure]
theorem N.retCells {fn : Func} {Φ : Value → Heap → Prop} {rs : List ResultVar} {vs : List Value} (hD : n.D = []) (hr : fn.results = rs.toArray) (hv : RV P env h rs vs) (hΦ : Φ (tup vs) h) : N n σ (bodyPost P fn (Ret σ Φ) .ret) env h :=
  fun a w hf hw => ⟨hf.defers.trans hD, tup vs, by
    have := hv.run hf hw.heap
    have e : results fn a.tmps = (do let vs ← fn.results.mapM (resOne a.tmps); pure (if h : vs.size = 1 then vs[0] else .tuple vs)) := rfl
    rw [e, hr, List.mapM_toArray]
    simp only [bind_map_left, Sem.run_bind, this, Result.andThen_ok, Sem.run_pure, tup_eq], tup vs, rfl, hw.heap ▸ hw, hw.heap ▸ hΦ⟩
/-- No range over a function. -/
def okF (n : Nat) (c : Code) : Bool := okS n c && !rf c
theorem okF_ok {n : Nat} {c : Code} (h : okF n c = true) : okS n c = true := by unfold okF at h; simp only [Bool.and_eq_true] at h; exact h.1
theorem okF_rf {n : Nat} {c : Code} (h : okF n c = true) : rf c = false := by unfold okF at h; simp at h; exact h.2
/-- A function's contract out of its body's reckoning. -/
theorem CallOk.intro {f : FuncId} {fn : Func} {c : Code} {args : List Value} {rs : List ResultVar} {Φ : Value → Ro → Chs → Prop} (hT : TOk P T) (hf : P.funcs[f]? = some fn) (he : ∀ args w, (callFunc f args).run P w = .ok (.enter f args) w) (hb : fn.body = some c) (hr : fn.results = rs.toArray)
    (hn : okF fn.ntmps c = true) (hw : fewC rs = true) (hl : Nat.ble args.length fn.ntmps = true) (k : V P T c (retK P rs Φ) (argEnv 0 args) ro own) : CallOk P f args.toArray ro own Φ :=
  CallOk.body he fun h hs => Meets.intro hf hb rfl hl fun σ => (V_sound hT k).run ⟨fn.ntmps, []⟩ σ _ (okF_ok hn) (fun e env' ro' own' D h' hl hk hs' hm => by
    have hD : D = [] := hm.no (okF_rf hn)
    subst hD
    cases e with
    | ret =>
      simp only [retK] at hk
      split at hk
      · rename_i vs hv
        obtain ⟨e1, ro2, own2, h1, h2, h3, h4⟩ := hk.run.get h' hs'
        exact N.retCells rfl hr (RV.of hv) ⟨ro2, own2, hl.trans h2, h3, h4⟩
      · obtain ⟨vs, hv, hwk⟩ := hk.run.run
        obtain ⟨e1, ro2, own2, h1, h2, h3, h4⟩ := hwk.get h' hs'
        exact N.retCells rfl hr (hv h' hs') ⟨ro2, own2, hl.trans h2, h3, h4⟩
    | normal =>
      simp only [retK] at hk
      split at hk
      · obtain ⟨e1, ro2, own2, h1, h2, h3, h4⟩ := hk.run.get h' hs'
        exact N.end0 rfl hr ⟨ro2, own2, hl.trans h2, h3, h4⟩
      · exact hk.elim
    | _ => exact hk.elim) h hs
end
end Go.E
