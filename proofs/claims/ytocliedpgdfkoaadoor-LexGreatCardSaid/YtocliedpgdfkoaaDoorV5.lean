/- The reckoning of whole code is right; contracts of functions. No program in sight. -/
import Derived.Test.YtocliedpgdfkoaaDoorV4
namespace Go.E
open Go
set_option linter.unusedVariables false
set_option linter.unusedSimpArgs false
section
variable {P : Program} {T : TT} {Q : Exit → Act → World → Prop} {n : Nat} {σ : World} {env : Env} {h : Heap} {ro : Ro} {own : Chs}
theorem Wk.sound {k : Kt} {K : Act → World → Prop} {env : Env} {ro ro0 : Ro} {own : Chs} (hw : Wk k env ro own) (hl : Le ro0 ro) (hk : ∀ env' ro' own' h', Le ro0 ro' → k env' ro' own' → Sat ro' own' h' → N n σ K env' h') {h : Heap} (hs : Sat ro own h) : N n σ K env h := by
  obtain ⟨env', ro', own', h1, h2, h3, h4⟩ := hw.get h hs
  exact N.sub2 h1 (hk env' ro' own' h (hl.trans h2) h4 h3)
theorem V_sound (hT : TOk P T) : ∀ {c : Code} {k : Exit → Kt} {env : Env} {ro : Ro} {own : Chs}, V P T c k env ro own → CodeOk P c k env ro own
  | .skip, k, env, ro, own, hv => ⟨fun n σ Q hok hk h hs => C.skip (hk .normal env ro own h (Le.refl _) hv hs)⟩
  | .region id ops draw, k, env, ro, own, hv => by
    cases draw with
    | true => exact Stop.run hv
    | false =>
      refine ⟨fun n σ Q hok hk h hs => ?_⟩
      obtain ⟨l⟩ := ops
      exact C.region (vOps_sound hT hok hv (fun env' ro' own' h' _ hl hk' hs' => hk .normal env' ro' own' h' hl hk' hs') hs)
  | .seq a b, k, env, ro, own, hv => by
    refine ⟨fun n σ Q hok hk h hs => ?_⟩
    simp only [okS, Bool.and_eq_true] at hok
    have hb : ∀ env' ro' own' h', Le ro ro' → V P T b k env' ro' own' → Sat ro' own' h' → N n σ (b.wp P Q) env' h' := fun env' ro' own' h' hl hv' hs' =>
      N.wp ((V_sound hT hv').run n σ Q hok.2 (fun e env2 ro2 own2 h2 hl2 hk2 hs2 => hk e env2 ro2 own2 h2 (hl.trans hl2) hk2 hs2) h' hs')
    have ha : ∀ J : Kt, V P T a (fun e => match e with | .normal => J | e => k e) env ro own → (∀ env' ro' own' h', Le ro ro' → J env' ro' own' → Sat ro' own' h' → N n σ (b.wp P Q) env' h') → C P Q n σ (.seq a b) env h := fun J hv' hJ =>
      C.seq ((V_sound hT hv').run n σ _ hok.1 (fun e env2 ro2 own2 h2 hl2 hk2 hs2 => by
        cases e <;> first | exact N.then_normal (hJ env2 ro2 own2 h2 hl2 hk2 hs2) | exact hk _ env2 ro2 own2 h2 hl2 hk2 hs2) h hs)
    replace hv : vSeq a (V P T a) (V P T b) k env ro own := hv
    unfold vSeq at hv
    cases hj : joins a <;> simp only [hj] at hv
    rotate_left
    · rcases hv.run with h1 | ⟨E, O, I, h1, h2⟩
      · exact ha _ h1 hb
      · exact ha _ h1 (fun env' ro' own' h' hl hw hs' => hw.sound hl (fun env2 ro2 own2 h2' hl2 ⟨i, hI, hsub, hsup⟩ hs2 => N.sub2 hsub.to2 (hb _ ro2 _ h2' hl2 (h2 i ro2 hl2 hI) (hs2.sup hsup))) hs')
    · exact ha _ hv hb
  | .cond c a b, k, env, ro, own, hv => by
    refine ⟨fun n σ Q hok hk h hs => ?_⟩
    simp only [okS, Bool.and_eq_true] at hok
    replace hv : vCond c (V P T a) (V P T b) k env ro own := hv
    unfold vCond at hv
    split at hv
    · rename_i v hx
      obtain ⟨h1, h2⟩ := hv.run
      exact C.cond hx (fun e => (V_sound hT (h1 e)).run n σ Q hok.1 hk h hs) (fun e => (V_sound hT (h2 e)).run n σ Q hok.2 hk h hs)
    · exact hv.elim
  | .block id a, k, env, ro, own, hv => by
    refine ⟨fun n σ Q hok hk h hs => ?_⟩
    replace hv : vBlock id (V P T a) k env ro own := hv
    unfold vBlock at hv
    refine C.block ((V_sound hT hv).run n σ _ hok (fun e env2 ro2 own2 h2 hl2 hk2 hs2 => ?_) h hs)
    cases e with
    | exit j =>
      cases hj : Nat.beq j id with
      | true =>
        have := Nat.eq_of_beq_eq_true hj
        subst this
        simp only [hj, cond_true] at hk2
        exact N.block_same (hk _ env2 ro2 own2 h2 hl2 hk2 hs2)
      | false =>
        simp only [hj, cond_false] at hk2
        exact N.block_other hj (hk _ env2 ro2 own2 h2 hl2 hk2 hs2)
    | _ => exact hk _ env2 ro2 own2 h2 hl2 hk2 hs2
  | .loop a, k, env, ro, own, hv => by
    refine ⟨fun n σ Q hok hk h hs => ?_⟩
    replace hv : vLoop a (V P T a) k env ro own := hv
    unfold vLoop at hv
    obtain ⟨E, O, I, μ, init, round⟩ := hv.run
    obtain ⟨env0, ro0, own0, he, hl0, hs0, i0, hI0, hsub0, hsup0⟩ := init.get h hs
    refine C.sub2 he (C.loop (f := E) (fun i h' => ∃ ro', Le ro ro' ∧ I i ro' ∧ Sat ro' (O i) h') μ i0 ⟨ro0, hl0, hI0, hs0.sup hsup0⟩ hsub0 ?_)
    rintro i h' ⟨ro', hl, hI, hs'⟩
    refine (V_sound hT (round i ro' hl hI)).run n σ _ hok (fun e env2 ro2 own2 h2 hl2 hk2 hs2 => ?_) h' hs'
    cases e with
    | normal =>
      exact N.then_normal (Wk.sound hk2 hl2 (fun env3 ro3 own3 h3 hl3 ⟨j, hI3, hμ, hsub, hsup⟩ hs3 => N.round j ⟨ro3, hl.trans hl3, hI3, hs3.sup hsup⟩ hμ hsub) hs2)
    | _ => exact hk _ env2 ro2 own2 h2 (hl.trans hl2) hk2 hs2
  | .exit id, k, env, ro, own, hv => ⟨fun n σ Q hok hk h hs => C.exit (hk _ env ro own h (Le.refl _) hv hs)⟩
  | .ret, k, env, ro, own, hv => ⟨fun n σ Q hok hk h hs => C.ret (hk _ env ro own h (Le.refl _) hv hs)⟩
  | .label _, k, env, ro, own, hv => ⟨fun n σ Q hok hk h hs => C.label (hk _ env ro own h (Le.refl _) hv hs)⟩
  | .rangeFunc f p x y, k, env, ro, own, hv => Stop.run hv
  | .scope x, k, env, ro, own, hv => Stop.run hv
  | .goto x, k, env, ro, own, hv => Stop.run hv
  | .refuse x, k, env, ro, own, hv => Stop.run hv

theorem N.ret4 {fn : Func} {Φ : Value → Heap → Prop} {t1 t2 t3 t4 : Nat} {v1 v2 v3 v4 : Value} (hr : fn.results = #[.tmp t1, .tmp t2, .tmp t3, .tmp t4]) (h1 : look env t1 = some v1) (h2 : look env t2 = some v2) (h3 : look env t3 = some v3) (h4 : look env t4 = some v4)
    (hΦ : Φ (.tuple #[v1, v2, v3, v4]) h) : N n σ (bodyPost P fn (Ret σ Φ) .ret) env h :=
  fun a w hf hw => ⟨hf.defers, .tuple #[v1, v2, v3, v4], by simp [results, hr, hf.get _ _ h1, hf.get _ _ h2, hf.get _ _ h3, hf.get _ _ h4], _, rfl, hw.heap ▸ hw, hw.heap ▸ hΦ⟩
theorem rvals_cons {t : Nat} {r : List ResultVar} {vs : List Value} (h : rvals env (.tmp t :: r) = some vs) : ∃ v vs', vs = v :: vs' ∧ look env t = some v ∧ rvals env r = some vs' := by
  unfold rvals at h
  split at h
  · cases h; exact ⟨_, _, rfl, by assumption, by assumption⟩
  · cases h
def few : List ResultVar → Bool
  | [] | [.tmp _] | [.tmp _, .tmp _] | [.tmp _, .tmp _, .tmp _] | [.tmp _, .tmp _, .tmp _, .tmp _] => true
  | _ => false
def fewC (_ : List ResultVar) : Bool := true
theorem N.retAll {fn : Func} {Φ : Value → Heap → Prop} {rs : List ResultVar} {vs : List Value} (hw : few rs = true) (hr : fn.results = rs.toArray) (hv : rvals env rs = some vs) (hΦ : Φ (tup vs) h) : N n σ (bodyPost P fn (Ret σ Φ) .ret) env h := by
  unfold few at hw
  split at hw
  · simp [rvals] at hv; subst hv; exact N.ret0 hr hΦ
  · obtain ⟨v1, _, rfl, h1, hv⟩ := rvals_cons hv
    simp [rvals] at hv; subst hv; exact N.ret1 hr h1 hΦ
  · obtain ⟨v1, _, rfl, h1, hv⟩ := rvals_cons hv
    obtain ⟨v2, _, rfl, h2, hv⟩ := rvals_cons hv
    simp [rvals] at hv; subst hv; exact N.ret2 hr h1 h2 hΦ
  · obtain ⟨v1, _, rfl, h1, hv⟩ := rvals_cons hv
    obtain ⟨v2, _, rfl, h2, hv⟩ := rvals_cons hv
    obtain ⟨v3, _, rfl, h3, hv⟩ := rvals_cons hv
    simp [rvals] at hv; subst hv; exact N.ret3 hr h1 h2 h3 hΦ
  · obtain ⟨v1, _, rfl, h1, hv⟩ := rvals_cons hv
    obtain ⟨v2, _, rfl, h2, hv⟩ := rvals_cons hv
    obtain ⟨v3, _, rfl, h3, hv⟩ := rvals_cons hv
    obtain ⟨v4, _, rfl, h4, hv⟩ := rvals_cons hv
    simp [rvals] at hv; subst hv; exact N.ret4 hr h1 h2 h3 h4 hΦ
  · cases hw
theorem tup_eq (vs : List Value) : (if h : vs.toArray.size = 1 then vs.toArray[0] else .tuple vs.toArray) = tup vs := by
  match vs with
  | [] => rfl
  | [v] => rfl
  | v :: u :: r => simp [tup]
theorem RV.of : ∀ {rs : List ResultVar} {vs : List Value}, rvals env rs = some vs → RV P env h rs vs
  | [], vs, hv => by simp [rvals] at hv; subst hv; exact .nil
  | .tmp t :: r, vs, hv => by
    obtain ⟨v, vs', rfl, h1, h2⟩ := rvals_cons hv
    exact .tmp h1 (RV.of h2)
  | .cell _ _ :: r, vs, hv => by simp [rvals] at hv
def resOne (tmps : Array Value) : ResultVar → Sem Value
  | .tmp t => pure (tmps.getD t undef)
  | .cell x t => do loadVar t (← asAddr (tmps.getD x undef))
theorem RV.run {rs : List ResultVar} {vs : List Value} {h : Heap} {a : Act} {w : World} (hv : RV P env h rs vs) (hf : Fits n env a) (hw : w.heap = h) :
    (rs.mapM (resOne a.tmps)).run P w = .ok vs w := by
  induction hv with
  | nil => simp
  | @tmp t v r vs hv hr ih =>
    have e : (resOne a.tmps (.tmp t)).run P w = .ok v w := by have := hf.get t v hv; simp [resOne, Array.getD_eq_getD_getElem?, this]
    rw [List.mapM_cons]
    simp only [Sem.run_bind, e, Result.andThen_ok, ih, Sem.run_pure]
  | @cell t ty b o v r vs hx hv hr ih =>
    have e : (resOne a.tmps (.cell t ty)).run P w = .ok v w := by have := hf.get t _ hx; simp [resOne, Array.getD_eq_getD_getElem?, this, asAddr, hv w hw, Result.andThen]
    rw [List.mapM_cons]
    simp only [Sem.run_bind, e, Result.andThen_ok, ih, Sem.run_pure]
theorem N.retCells {fn : Func} {Φ : Value → Heap → Prop} {rs : List ResultVar} {vs : List Value} (hr : fn.results = rs.toArray) (hv : RV P env h rs vs) (hΦ : Φ (tup vs) h) : N n σ (bodyPost P fn (Ret σ Φ) .ret) env h :=
  fun a w hf hw => ⟨hf.defers, tup vs, by
    have := hv.run hf hw.heap
    have e : results fn a.tmps = (do let vs ← fn.results.mapM (resOne a.tmps); pure (if h : vs.size = 1 then vs[0] else .tuple vs)) := rfl
    rw [e, hr, List.mapM_toArray]
    simp only [bind_map_left, Sem.run_bind, this, Result.andThen_ok, Sem.run_pure, tup_eq], tup vs, rfl, hw.heap ▸ hw, hw.heap ▸ hΦ⟩
/-- A function's contract out of its body's reckoning. -/
theorem CallOk.intro {f : FuncId} {fn : Func} {c : Code} {args : List Value} {rs : List ResultVar} {Φ : Value → Ro → Chs → Prop} (hT : TOk P T) (hf : P.funcs[f]? = some fn) (he : ∀ args w, (callFunc f args).run P w = .ok (.enter f args) w) (hb : fn.body = some c) (hr : fn.results = rs.toArray)
    (hn : okS fn.ntmps c = true) (hw : fewC rs = true) (hl : Nat.ble args.length fn.ntmps = true) (k : V P T c (retK P rs Φ) (argEnv 0 args) ro own) : CallOk P f args.toArray ro own Φ :=
  CallOk.body he fun h hs => Meets.intro hf hb rfl hl fun σ => (V_sound hT k).run fn.ntmps σ _ hn (fun e env' ro' own' h' hl hk hs' => by
    cases e with
    | ret =>
      simp only [retK] at hk
      split at hk
      · rename_i vs hv
        obtain ⟨e1, ro2, own2, h1, h2, h3, h4⟩ := hk.run.get h' hs'
        exact N.retCells hr (RV.of hv) ⟨ro2, own2, hl.trans h2, h3, h4⟩
      · obtain ⟨vs, hv, hwk⟩ := hk.run.run
        obtain ⟨e1, ro2, own2, h1, h2, h3, h4⟩ := hwk.get h' hs'
        exact N.retCells hr (hv h' hs') ⟨ro2, own2, hl.trans h2, h3, h4⟩
    | normal =>
      simp only [retK] at hk
      split at hk
      · obtain ⟨e1, ro2, own2, h1, h2, h3, h4⟩ := hk.run.get h' hs'
        exact N.end0 hr ⟨ro2, own2, hl.trans h2, h3, h4⟩
      · exact hk.elim
    | _ => exact hk.elim) h hs
end
end Go.E
