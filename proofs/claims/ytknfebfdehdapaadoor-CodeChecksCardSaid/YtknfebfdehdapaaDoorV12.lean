/- Calls that yield at once: atomics, marks of the race detector; a pointer as an unsafe one. No program in sight. -/
import Derived.Test.YtknfebfdehdapaaDoorV10
import Derived.Laws.LoneSync
import Derived.Defers
namespace Go.E
open Go
set_option linter.unusedVariables false
theorem setCell_blk {w : World} {b o : Nat} {t : TypeId} {cs : List Value} {v : Value} (hr : w.heap[b]? = some (.cells cs.toArray t (0, 0))) :
    (w.setCell ⟨b, o, none⟩ v).heap[b]? = some (.cells (cs.set o v).toArray t (0, 0)) ∧ (∀ k, k ≠ b → (w.setCell ⟨b, o, none⟩ v).heap[k]? = w.heap[k]?) ∧ Hp (w.setCell ⟨b, o, none⟩ v).heap w (w.setCell ⟨b, o, none⟩ v) := by
  refine ⟨?_, fun k hk => ?_, rfl, rfl, rfl, rfl⟩
  · simp [World.setCell, Array.getElem?_modify, hr]
  · simp [World.setCell, Array.getElem?_modify, Ne.symm hk]
section
variable {P : Program} {f : FuncId} {fn : Func} {ro : Ro} {own : Chs} {K : Value → Ro → Chs → Prop}
theorem CallOk.at0 {args : Array Value} {v : Value} (h : ∀ w, Sat ro own w.heap → (callFunc f args).run P w = .ok (.value v) w) (hk : K v ro own) : CallOk P f args ro own K :=
  ⟨fun w hs => .inr ⟨v, w, h w hs, Hp.self w, ro, own, Le.refl _, hs, hk⟩⟩
theorem CallOk.atSet {args : Array Value} {b o : Nat} {t : TypeId} {cs cs' : List Value} {u v : Value} {g : Chunk → Chs} [hb : HasBlk own b t cs g] (hs : SetR cs o u cs')
    (h : ∀ w : World, w.heap[b]? = some (.cells cs.toArray t (0, 0)) → (callFunc f args).run P w = .ok (.value v) (w.setCell ⟨b, o, none⟩ u)) (hk : K v ro (g (.blk b t cs'))) : CallOk P f args ro own K :=
  ⟨fun w hsat => by
    obtain ⟨rfl, hlt⟩ := hs.spec
    obtain ⟨r, p1, p2⟩ := (hb.repl (.blk b t (cs.set o u))).perm
    have hsat := hsat.perm p1
    have hrow : w.heap[b]? = some (.cells cs.toArray t (0, 0)) := hsat.cons.1
    obtain ⟨k1, k2, k3⟩ := setCell_blk (o := o) (v := u) hrow
    exact .inr ⟨v, _, h w hrow, k3, ro, _, Le.refl _, (hsat.put (c' := .blk b t (cs.set o u)) (fun k _ hk => k2 k (by simpa [Chunk.fp] using hk)) k1 (fun k hk => .inl hk) (by simp [Chunk.fp])).perm p2.symm, hk⟩⟩
theorem cell_of_blk {w : World} {b o : Nat} {t : TypeId} {cs : List Value} {v : Value} (hr : w.heap[b]? = some (.cells cs.toArray t (0, 0))) (hv : cs[o]? = some v) : w.cell? ⟨b, o, none⟩ = some v := by
  rw [cell_eq]; exact Row.cell (h := w.heap) (t := t) hr hv
theorem unfrozen_blk {w : World} {b o : Nat} {t : TypeId} {cs : List Value} (hr : w.heap[b]? = some (.cells cs.toArray t (0, 0))) : w.frozen? ⟨b, o, none⟩ = false := by
  simp [World.frozen?, hr]
theorem CallOk.calls {args : Array Value} {w : World} (he : ∀ args w, (callFunc f args).run P w = .ok (.enter f args) w) (hc : CallOk P f args ro own K) (hs : Sat ro own w.heap) : Calls P f args w (fun e w' => ∃ v, e = .returned v ∧ Post ro K w v w') := by
  rcases hc.run w hs with ⟨_, hcalls⟩ | ⟨v, w', h1, _⟩
  · exact hcalls
  · rw [he] at h1; cases h1
/-- A contract of a function entered as a deferred call. -/
structure DefOk (P : Program) (f : FuncId) (args : Array Value) (ro : Ro) (own : Chs) (K : Value → Ro → Chs → Prop) : Prop where
  run : ∀ w u, Sat ro own w.heap → CallsD P f args u w (fun e u' w' => u' = u ∧ ∃ v, e = .returned v ∧ Post ro K w v w')
theorem DefOk.intro {T : TT} {c : Code} {args : List Value} {rs : List ResultVar} (hT : TOk P T) (hf : P.funcs[f]? = some fn) (he : ∀ args w, (callFunc f args).run P w = .ok (.enter f args) w) (hb : fn.body = some c) (hr : fn.results = rs.toArray)
    (hn : okF fn.ntmps c = true) (hw : fewC rs = true) (hl : Nat.ble args.length fn.ntmps = true) (k : V P T c (retK P rs K) (argEnv 0 args) ro own) : DefOk P f args.toArray ro own K := by
  refine ⟨fun w u hs => callsD_of_wp hf hb ?_⟩
  refine (V_sound hT k).run ⟨fn.ntmps, []⟩ w _ (okF_ok hn) (fun e env' ro' own' D h' hl hk hs' hm => ?_) w.heap hs _ w ⟨rfl, ?_, fun t v hv => ?_⟩ (Hp.self w)
  · have hD : D = [] := hm.no (okF_rf hn)
    subst hD
    cases e with
    | ret =>
      simp only [retK] at hk
      split at hk
      · rename_i vs hv
        obtain ⟨e1, ro2, own2, h1, h2, h3, h4⟩ := hk.run.get h' hs'
        exact fun a w2 hf2 hw2 => by
          obtain ⟨q1, v, q2, v2, q3, q4, q5⟩ := N.retCells (σ := w) (Φ := fun v h' => ∃ ro' own', Le ro ro' ∧ Sat ro' own' h' ∧ K v ro' own') rfl hr (RV.of hv) ⟨ro2, own2, hl.trans h2, h3, h4⟩ a w2 hf2 hw2
          exact ⟨q1, v, q2, v2, q3, q4, q5⟩
      · obtain ⟨vs, hv, hwk⟩ := hk.run.run
        obtain ⟨e1, ro2, own2, h1, h2, h3, h4⟩ := hwk.get h' hs'
        exact fun a w2 hf2 hw2 => by
          obtain ⟨q1, v, q2, v2, q3, q4, q5⟩ := N.retCells (σ := w) (Φ := fun v h' => ∃ ro' own', Le ro ro' ∧ Sat ro' own' h' ∧ K v ro' own') rfl hr (hv h' hs') ⟨ro2, own2, hl.trans h2, h3, h4⟩ a w2 hf2 hw2
          exact ⟨q1, v, q2, v2, q3, q4, q5⟩
    | normal =>
      simp only [retK] at hk
      split at hk
      · obtain ⟨e1, ro2, own2, h1, h2, h3, h4⟩ := hk.run.get h' hs'
        exact fun a w2 hf2 hw2 => by
          obtain ⟨q1, v, q2, v2, q3, q4, q5⟩ := N.end0 (σ := w) (Φ := fun v h' => ∃ ro' own', Le ro ro' ∧ Sat ro' own' h' ∧ K v ro' own') rfl hr ⟨ro2, own2, hl.trans h2, h3, h4⟩ a w2 hf2 hw2
          exact ⟨q1, v, q2, v2, q3, q4, q5⟩
      · exact hk.elim
    | _ => exact hk.elim
  · have : args.length ≤ fn.ntmps := by simpa using hl
    simp; omega
  · have := (look_argEnv args 0 t v hv).2
    simp only [Nat.sub_zero] at this
    have ht : t < args.length := (List.getElem?_eq_some_iff.1 this).1
    rw [Array.getElem?_append_left (by simpa using ht)]
    simpa using this
variable (hf : P.funcs[f]? = some fn) (hname : (fn.name == "runtime.NumGoroutine") = false) (hbd : fn.body.isNone = true) (hn : Extern.findNext fn = none)
include hf hname hbd hn
theorem CallOk.mark0 (m : Mark) (he : Extern.find fn = some (fun _ => do mark m; pure Extern.Race.none_)) (hk : K (.tuple #[]) ro own) : CallOk P f #[] ro own K :=
  CallOk.at0 (fun w _ => run_call_mark0 hf hname hbd hn m he w) hk
theorem CallOk.marked (m : Addr → Mark) (he : Extern.find fn = some (Extern.Race.marked m)) {a : Addr} (hk : K (.tuple #[]) ro own) : CallOk P f #[.pointer (some a)] ro own K :=
  CallOk.at0 (fun w _ => run_call_marked hf hname hbd hn m he a w) hk
theorem CallOk.aload (k : IntKind) (he : Extern.find fn = some (Extern.Atomic.loadT (.int k))) {b o : Nat} {x : Int} (hl : Ld ro own b o (.int k x)) (hk : K (.int k x) ro own) : CallOk P f #[.pointer (some ⟨b, o, none⟩)] ro own K :=
  CallOk.at0 (fun w hs => run_call_load hf hname hbd hn k he (by rw [cell_eq]; exact hl _ hs)) hk
theorem CallOk.astore (he : Extern.find fn = some Extern.Atomic.storeT) {b o : Nat} {t : TypeId} {cs cs' : List Value} {k : IntKind} {y : Int} {g : Chunk → Chs} [hb : HasBlk own b t cs g] (hs : SetR cs o (.int k y) cs')
    (hk : K (.tuple #[]) ro (g (.blk b t cs'))) : CallOk P f #[.pointer (some ⟨b, o, none⟩), .int k y] ro own K :=
  CallOk.atSet hs (fun w hr => run_call_store hf hname hbd hn he (cell_of_blk hr (List.getElem?_eq_getElem hs.spec.2)) (unfrozen_blk hr)) hk
theorem CallOk.acas (k : IntKind) (he : Extern.find fn = some (Extern.Atomic.casT (.int k))) {b o : Nat} {t : TypeId} {cs cs' : List Value} {x y : Int} {g : Chunk → Chs} [hb : HasBlk own b t cs g] (hx : nthV cs o = some (.int k x)) (hs : SetR cs o (.int k y) cs')
    (hk : K (.bool true) ro (g (.blk b t cs'))) : CallOk P f #[.pointer (some ⟨b, o, none⟩), .int k x, .int k y] ro own K :=
  CallOk.atSet hs (fun w hr => run_call_cas_hit hf hname hbd hn k he (cell_of_blk hr (nthV_spec hx)) (unfrozen_blk hr)) hk
theorem CallOk.aadd (k : IntKind) (he : Extern.find fn = some (Extern.Atomic.update (Op.intArith .add) k true)) {b o : Nat} {t : TypeId} {cs cs' : List Value} {x y s : Int} {g : Chunk → Chs} [hb : HasBlk own b t cs g] (hx : nthV cs o = some (.int k x))
    (hsum : s = k.wrap (x + y)) (hs : SetR cs o (.int k s) cs') (hk : K (.int k s) ro (g (.blk b t cs'))) : CallOk P f #[.pointer (some ⟨b, o, none⟩), .int k y] ro own K :=
  CallOk.atSet hs (fun w hr => run_call_add hf hname hbd hn k he (cell_of_blk hr (nthV_spec hx)) (unfrozen_blk hr) (by rw [hsum]; simp [Op.intArith])) hk
theorem CallOk.aaddAt (k : IntKind) (he : Extern.find fn = some (Extern.Atomic.update (Op.intArith .add) k true)) {b o : Nat} {t : TypeId} {cs : List Value} {x y s : Int} {g : Chunk → Chs} [hb : HasBlk own b t cs g] (hx : cs[o]? = some (.int k x))
    (hsum : s = k.wrap (x + y)) (hk : K (.int k s) ro (g (.blk b t (cs.set o (.int k s))))) : CallOk P f #[.pointer (some ⟨b, o, none⟩), .int k y] ro own K :=
  ⟨fun w hsat => by
    obtain ⟨r, p1, p2⟩ := (hb.repl (.blk b t (cs.set o (.int k s)))).perm
    have hsat := hsat.perm p1
    have hrow : w.heap[b]? = some (.cells cs.toArray t (0, 0)) := hsat.cons.1
    obtain ⟨k1, k2, k3⟩ := setCell_blk (o := o) (v := .int k s) hrow
    exact .inr ⟨.int k s, _, run_call_add hf hname hbd hn k he (cell_of_blk hrow hx) (unfrozen_blk hrow) (by rw [hsum]; simp [Op.intArith]), k3, ro, _, Le.refl _, (hsat.put (c' := .blk b t (cs.set o (.int k s))) (fun k _ hk => k2 k (by simpa [Chunk.fp] using hk)) k1 (fun k hk => .inl hk) (by simp [Chunk.fp])).perm p2.symm, hk⟩⟩
end
section
variable {P : Program} {T : TT} [hT : TTab P T] {ty : TypeId} {env : Env} {ro : Ro} {own : Chs} {K : Value → Ro → Chs → Prop}
theorem OpOk.unsafe {s t e : TypeId} {x : Operand} {b o : Nat} {v : Value} (hx : ev env x = some (.pointer (some ⟨b, o, none⟩))) {z1 : Nat} {z2 : List Value} (hs : T.get s = some ⟨.ptr e, z1, z2⟩) (ht : P.underlying t = some .unsafePointer) (hz : (P.info? e).map (fun i => decide (i.size = 0)) = some false)
    (hl : Ld ro own b o v) (hk : K (.pointer (some ⟨b, o, none⟩)) ro own) : OpOk P (.convert s t x) ty env ro own K :=
  OpOk.pu (fun h hsat d pos af g => .mk fun ρ w hρ hw => by
    have hc : w.cell? ⟨b, o, none⟩ = some v := by rw [cell_eq, hw]; exact hl h hsat
    simp only [execOp, hρ _ _ hx, Sem.run_bind, run_convert_to_unsafe (hT.ok.ptr hs) ht hz hc, Result.andThen_ok, Sem.run_pure]) hk
end
end Go.E
