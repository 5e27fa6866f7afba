/- A range over a function: the iterator's contract, the rule, and functions that have such a range. No program in sight. -/
import Derived.Test.YtknfebfdehdapaaDoorV22
namespace Go.E
open Go Go.RowKit
set_option linter.unusedVariables false
set_option linter.unusedSimpArgs false
/-- All that lies there, but what is one's own. -/
def fullR (h : Heap) (own : Chs) : Ro := fun b => if b ∈ own.flatMap Chunk.fp then none else h[b]?
theorem fullR_own {h : Heap} {own : Chs} {c : Chunk} (hc : c ∈ own) {b : Nat} (hb : b ∈ c.fp) : fullR h own b = none := if_pos (List.mem_flatMap.2 ⟨c, hc, hb⟩)
theorem fullR_other {h : Heap} {own : Chs} {b : Nat} (hb : ∀ c ∈ own, b ∉ c.fp) : fullR h own b = h[b]? := if_neg (fun e => by obtain ⟨c, hc, hbc⟩ := List.mem_flatMap.1 e; exact hb c hc hbc)
theorem Sat.full {ro : Ro} {own : Chs} {h : Heap} (hs : Sat ro own h) : Sat (fullR h own) own h :=
  ⟨fun b o hb => by
    by_cases hm : b ∈ own.flatMap Chunk.fp
    · rw [fullR, if_pos hm] at hb; cases hb
    · rwa [fullR, if_neg hm] at hb, hs.parts, hs.nd, fun c hc b hb => fullR_own hc hb⟩
theorem Sat.leFull {ro : Ro} {own : Chs} {h : Heap} (hs : Sat ro own h) : Le ro (fullR h own) := ⟨fun b o hb => by
  rw [fullR_other (fun c hc hbc => by rw [hs.ap c hc b hbc] at hb; cases hb)]
  exact hs.last b o hb⟩
theorem Sat.less {ro ro' : Ro} {own : Chs} {h : Heap} (hs : Sat ro' own h) (hl : Le ro ro') : Sat ro own h :=
  ⟨fun b o hb => hs.last b o (hl.le b o hb), hs.parts, hs.nd, fun c hc b hb => by
    cases hr : ro b with
    | none => rfl
    | some o => have := hl.le b o hr; rw [hs.ap c hc b hb] at this; cases this⟩
/-- What neither lasts nor is one's own may change. -/
theorem Sat.out {ro : Ro} {own : Chs} {h h' : Heap} (hs : Sat ro own h) {L : Nat} (hL : ro L = none) (hL2 : ∀ c ∈ own, L ∉ c.fp) (hk : ∀ b, b ≠ L → h'[b]? = h[b]?) : Sat ro own h' :=
  ⟨fun b o hb => by
    rw [hk b (fun e => by subst e; rw [hL] at hb; cases hb)]
    exact hs.last b o hb, fun c hc => (hs.parts c hc).congr (fun b hb => hk b (fun e => by subst e; exact hL2 c hc hb)), hs.nd, hs.ap⟩
theorem Sat.up {ro ro' : Ro} {own : Chs} {h : Heap} (hs : Sat ro own h) (h1 : ∀ b o, ro' b = some o → h[b]? = some o) (h2 : ∀ b o, ro' b = some o → ro b = some o ∨ ∀ c ∈ own, b ∉ c.fp) : Sat ro' own h :=
  ⟨h1, hs.parts, hs.nd, fun c hc b hb => by
    cases hr : ro' b with
    | none => rfl
    | some o =>
      rcases h2 b o hr with h | h
      · rw [hs.ap c hc b hb] at h; cases h
      · exact absurd hb (h c hc)⟩
/-- A function that yields the values xs, one by one, each told as encs x; behind a round that says 'no more' it returns. -/
structure IterOk {α : Type} (P : Program) (f : FuncId) (bs : Array Value) (encs : α → Array Value) (xs : List α) : Prop where
  run : ∀ (l : Nat) (J : Ro → List α → World → Prop) (Jx : World → Prop) (ρ : Ro) (W : World),
    (∀ ρ pre W, J ρ pre W → ∀ b o, ρ b = some o → W.heap[b]? = some o) →
    (∀ ρ ρ' pre W W', J ρ pre W → Le ρ ρ' → (∀ b o, ρ' b = some o → ρ b = some o ∨ W.heap.size ≤ b) → (∀ b, b < W.heap.size → W'.heap[b]? = W.heap[b]?) → (∀ b o, ρ' b = some o → W'.heap[b]? = some o) → Hp W'.heap W W' → J ρ' pre W') →
    (∀ ρ pre x rest W, xs = pre ++ x :: rest → J ρ pre W → YieldAt Fence.wide 0 P l (encs x) W fun e W' => (e = .returned (.bool true) ∧ J ρ (pre ++ [x]) W') ∨ (e = .returned (.bool false) ∧ Jx W')) →
    (∀ W W', Jx W → W'.heap = W.heap → Hp W'.heap W W' → Jx W') →
    (∀ ρ pre W', J ρ pre W' → Hp W'.heap W W') → (∀ W', Jx W' → Hp W'.heap W W') →
    J ρ [] W →
    CallsIn Fence.wide 0 P f (bs ++ #[.func (.yield l) #[] #[]]) W fun e W' => ∃ v, e = .returned v ∧ ((∃ ρ', J ρ' xs W') ∨ Jx W')
/-- The parameters of a round, told. -/
def parEnv (env : Env) : List Nat → List Value → Env
  | p :: ps, v :: vs => parEnv ((p, v) :: env) ps vs
  | _, _ => env
theorem Fits.pars {n : Fr} : ∀ {ps : List Nat} {vs : List Value} {env : Env} {t : Array Value}, ps.all (fun p => Nat.blt p n.size) = true → Fits n env ⟨t, n.D⟩ → Fits n (parEnv env ps vs) ⟨(ps.zip vs).foldl (fun t (p, v) => t.setIfInBounds p v) t, n.D⟩
  | [], _, env, t, _, h => h
  | _ :: _, [], env, t, _, h => h
  | p :: ps, v :: vs, env, t, hp, h => by
    simp only [List.all_cons, Bool.and_eq_true] at hp
    have := h.put (d := p) hp.1 v
    exact Fits.pars (ps := ps) (vs := vs) (env := (p, v) :: env) (t := t.setIfInBounds p v) hp.2 this
/-- What is to hold where a round ends. -/
def rndK {ι κ : Type} (O : ι → Chs) (A : ι → Prop) (Ox : κ → Chs) (Ix : Exit → κ → Prop) : Exit → Kt
  | .normal => Wk fun _ _ own => ∃ i, A i ∧ Sup own (O i)
  | .ret => Wk fun _ _ own => ∃ j, Ix .ret j ∧ Sup own (Ox j)
  | .exit id => Wk fun _ _ own => ∃ j, Ix (.exit id) j ∧ Sup own (Ox j)
  | _ => fun _ _ _ => False
/-- The left sides of a round get their values. -/
def asgK (env1 : Env) (own1 : Chs) : Exit → Kt
  | .normal => fun env _ own => Sub env1 env ∧ Sup own own1
  | _ => fun _ _ _ => False
def jumpOf : Exit → Option Code
  | .ret => some .ret
  | .exit id => some (.exit id)
  | _ => none
section
variable {P : Program} {T : TT} {env : Env} {ro : Ro} {own : Chs}
theorem hp_put {w σ : World} {h : Heap} (L : Nat) (o : Obj) (hw : Hp h σ w) : Hp (w.putObj L o).heap σ (w.putObj L o) := ⟨rfl, hw.os, hw.tape, hw.output⟩
theorem hp_heap {w σ : World} {h : Heap} (hw : Hp h σ w) : Hp w.heap σ w := ⟨rfl, hw.os, hw.tape, hw.output⟩
theorem rec_off {L : Nat} {o : Obj} {own own' : Chs} {h h' : Heap} (hs : Sat (fullR h own) own' h') (hL : h[L]? = some o) (hL2 : ∀ c ∈ own, L ∉ c.fp) : h'[L]? = some o ∧ ∀ c ∈ own', L ∉ c.fp := by
  have e : fullR h own L = some o := (fullR_other hL2).trans hL
  refine ⟨hs.last L o e, fun c hc hb => ?_⟩
  have := hs.ap c hc L hb
  rw [e] at this; cases this
/-- **A range over a function.** -/
theorem CodeOk.rangeFunc {α : Type} [hT : TTab P T] {g : Operand} {ps : List Nat} {assign body : Code} {k : Exit → Kt} {f : FuncId} {bs : List Value} {encs : α → List Value} {xs : List α}
    (hg : ev env g = some (.func (.func f) bs.toArray #[])) (enter : ∀ args w, (callFunc f args).run P w = .ok (.enter f args) w)
    (hit : IterOk P f bs.toArray (fun x => (encs x).toArray) xs) (hps : ∀ x, (encs x).length = ps.length) (hR : (okR assign && okR body) = true)
    {ι κ : Type} (O : ι → Chs) (I : List α → ι → Prop) (Ox : κ → Chs) (Ix : Exit → κ → Prop) (env1 : α → Env) (i0 : ι) (hI : I [] i0) (ho : Sup own (O i0))
    (asg : ∀ x own' ro', Le ro ro' → V P T assign (asgK (env1 x) own') (parEnv env ps (encs x)) ro' own')
    (round : ∀ pre x rest i ro', Le ro ro' → xs = pre ++ x :: rest → I pre i → V P T body (rndK O (I (pre ++ [x])) Ox Ix) (env1 x) ro' (O i))
    (done : ∀ i ro', Le ro ro' → I xs i → k .normal env ro' (O i))
    (stop : ∀ e j ro', Le ro ro' → Ix e j → k e env ro' (Ox j)) : CodeOk P (.rangeFunc g ps.toArray assign body) k env ro own := by
  refine ⟨fun n σ Q hok hk h hs a w hf hw => ?_⟩
  simp only [okS, Bool.and_eq_true] at hok
  simp only [Bool.and_eq_true] at hR
  obtain ⟨⟨hok1, hok2⟩, hok3⟩ := hok
  have hwh := hw.heap
  subst hwh
  refine (wpIn_wide (n := 0)).1 (wpIn_rangeFunc fun fn _ => ?_)
  obtain ⟨rec, hrec⟩ : ∃ rec : LoopState → Option Code → Loop, rec = fun st pe => { state := st, pending := pe, fn, tmps := a.tmps, params := ps.toArray, assign, body, defers := w.heap.size } := ⟨_, rfl⟩
  obtain ⟨W1, hW1⟩ : ∃ W1, (w.alloc (.deferred (some []))).alloc (.loop (rec .ready none)) = W1 := ⟨_, rfl⟩
  obtain ⟨L, hLe⟩ : ∃ L, w.heap.size + 1 = L := ⟨_, rfl⟩
  have hsz1 : W1.heap.size = w.heap.size + 2 := by rw [← hW1]; simp
  have hL1 : W1.heap[L]? = some (.loop (rec .ready none)) := by
    rw [← hW1, ← hLe]; have := World.alloc_heap_new (w.alloc (.deferred (some []))) (.loop (rec .ready none)); rwa [World.size_alloc] at this
  have hK1 : W1.heap[w.heap.size]? = some (.deferred (some [])) := by
    rw [← hW1]; exact (Below.heap_alloc _ _ _ (by simp)).trans (World.alloc_heap_new w _)
  have hlow : ∀ b, b < w.heap.size → W1.heap[b]? = w.heap[b]? := fun b hb => by
    rw [← hW1]; exact (Below.heap_alloc _ _ _ (by simp; omega)).trans (Below.heap_alloc _ _ _ hb)
  have hHp1 : Hp W1.heap σ W1 := by rw [← hW1]; exact ⟨rfl, hw.os, hw.tape, hw.output⟩
  have hroD : ro w.heap.size = none := by
    cases hr : ro w.heap.size with
    | none => rfl
    | some o => have := (Array.getElem?_eq_some_iff.1 (hs.last _ _ hr)).1; omega
  have hroL : ro L = none := by
    cases hr : ro L with
    | none => rfl
    | some o => have := (Array.getElem?_eq_some_iff.1 (hs.last _ _ hr)).1; omega
  obtain ⟨ro1, hro1⟩ : ∃ ro1 : Ro, ro1 = fun b => if b = w.heap.size then some (.deferred (some [])) else ro b := ⟨_, rfl⟩
  have hv1 : ∀ b, ro1 b = if b = w.heap.size then some (.deferred (some [])) else ro b := fun b => by rw [hro1]
  have hle1 : Le ro ro1 := ⟨fun b o hb => by
    rw [hv1, if_neg (fun e => by subst e; rw [hroD] at hb; cases hb)]
    exact hb⟩
  have hro1D : ro1 w.heap.size = some (.deferred (some [])) := by rw [hv1]; exact if_pos rfl
  have hro1L : ro1 L = none := by
    rw [hv1, if_neg (by omega)]; exact hroL
  have hmk : Mk (rf (.rangeFunc g ps.toArray assign body)) n.D (markOf w.heap.size :: n.D) ro ro1 := ⟨fun e => by simp [rf] at e, [w.heap.size], rfl, by simp, fun b hb => by
    simp only [List.mem_singleton] at hb; subst hb; exact ⟨hroD, hro1D⟩⟩
  have hs1 : Sat ro1 (O i0) W1.heap := by
    have h0 : Sat ro (O i0) W1.heap := (hs.keep hlow).sup ho
    have h00 : Sat ro (O i0) w.heap := hs.sup ho
    refine h0.up (fun b o hb => ?_) (fun b o hb => ?_)
    · rw [hv1] at hb
      by_cases e : b = w.heap.size
      · subst e; rw [if_pos rfl] at hb; cases hb; exact hK1
      · rw [if_neg e] at hb; exact h0.last b o hb
    · rw [hv1] at hb
      by_cases e : b = w.heap.size
      · subst e
        exact .inr (fun c hc hbc => by have := (h00.parts c hc).lt _ hbc; omega)
      · rw [if_neg e] at hb; exact .inl hb
  have hL10 : ∀ c ∈ O i0, L ∉ c.fp := fun c hc hbc => by
    have := ((hs.sup ho).parts c hc).lt _ hbc; omega
  have hfm : ∀ {W : World} {h' : Heap}, Hp h' σ W → Fits ⟨n.size, markOf w.heap.size :: n.D⟩ env { a with defers := [{ target := .collected w.heap.size, args := #[] }] ++ a.defers } := fun _ => ⟨by simp [hf.defers, markOf], hf.size, hf.get⟩
  refine ⟨L, [{ target := .collected w.heap.size, args := #[] }], W1, { target := .fn (.func f) #[], args := bs.toArray ++ #[.func (.yield L) #[] #[]] }, W1, f, bs.toArray ++ #[.func (.yield L) #[] #[]], W1, ?_, ?_, fun _ _ => trivial, ?_, fun e => by simp [Fence.wide] at e, ?_⟩
  · rw [← hW1, hrec, ← hLe]; exact run_enterLoop_outer _ _ _ _ _
  · have := hf.agree _ _ hg
    simp only [resolve, this]
    simp [Deferred.ofValue, Act.eval, go_sem]
  · simp [invoke, go_sem, enter]
  · refine (hit.run L (fun ρ pre W => ∃ i, I pre i ∧ Sat ρ (O i) W.heap ∧ Le ro1 ρ ∧ W.heap[L]? = some (.loop (rec .ready none)) ∧ ρ L = none ∧ (∀ c ∈ O i, L ∉ c.fp) ∧ Hp W.heap σ W)
      (fun W => ∃ e c j, jumpOf e = some c ∧ Ix e j ∧ Sat ro1 (Ox j) W.heap ∧ W.heap[L]? = some (.loop (rec .done (some c))) ∧ (∀ c ∈ Ox j, L ∉ c.fp) ∧ Hp W.heap σ W) ro1 W1 ?_ ?_ ?_ ?_ ?_ ?_ ⟨i0, hI, hs1, Le.refl _, hL1, hro1L, hL10, hHp1⟩).mono ?_
    · rintro ρ pre W ⟨i, _, h2, _⟩ b o hb
      exact h2.last b o hb
    · rintro ρ ρ' pre W W' ⟨i, h1, h2, h3, h4, h5, h6, h7⟩ hl hn hkp hlast hh
      have hLlt : L < W.heap.size := (Array.getElem?_eq_some_iff.1 h4).1
      refine ⟨i, h1, (h2.keep hkp).up hlast (fun b o hb => ?_), h3.trans hl, (hkp L hLlt).trans h4, ?_, h6, h7.trans hh⟩
      · rcases hn b o hb with h | h
        · exact .inl h
        · exact .inr (fun c hc hbc => by have := (h2.parts c hc).lt _ hbc; omega)
      · cases hr : ρ' L with
        | none => rfl
        | some o =>
          rcases hn L o hr with h | h
          · rw [h5] at h; cases h
          · omega
    · rintro ρ pre x rest W hx ⟨i, h1, h2, h3, h4, h5, h6, h7⟩
      have hy := run_yield (P := P) (args := (encs x).toArray) h4 (by rw [hrec]; simpa using hps x)
      rw [hrec] at hy
      refine ⟨fn, _, assign, body, hy, roundIn_of_wpIn trivial ?_⟩
      have hf0 : Fits ⟨n.size, []⟩ (parEnv env ps (encs x)) { tmps := (ps.toArray.zip (encs x).toArray).foldl (fun t (p, v) => t.setIfInBounds p v) a.tmps, defers := [] } := by
        have := Fits.pars (n := ⟨n.size, []⟩) (ps := ps) (vs := encs x) (env := env) (t := a.tmps) (by simpa using hok1) ⟨rfl, hf.size, hf.get⟩
        simpa using this
      refine (V_soundR hT.ok (asg x (O i) (fullR W.heap (O i)) ((hle1.trans h3).trans h2.leFull))).run L 0 ⟨n.size, []⟩ σ _ (fun _ _ h => h) hok2 hR.1 (fun e env' ro' own' h' hl hk' hs' => ?_) W.heap h2.full _ W hf0 h7
      cases e <;> first | exact hk'.elim | skip
      intro a1 w1 hf1 hw1
      have hw1h := hw1.heap
      subst hw1h
      have hs2 : Sat (fullR W.heap (O i)) (O i) w1.heap := (hs'.sup hk'.2).less hl
      have hL2 := (rec_off hs2 h4 h6).1
      have hlt : L < w1.heap.size := (Array.getElem?_eq_some_iff.1 hL2).1
      refine ⟨_, run_beginRound hL2 (by rw [hrec]), ?_⟩
      have hL3 : (w1.putObj L (.loop { rec .ready none with state := .busy })).heap[L]? = some (.loop { rec .ready none with state := .busy }) := World.putObj_heap_same hlt
      have hs3 : Sat ρ (O i) (w1.putObj L (.loop { rec .ready none with state := .busy })).heap := (hs2.less h2.leFull).out h5 h6 (fun b hb => World.putObj_heap_other hb)
      generalize hW2 : w1.putObj L (.loop { rec .ready none with state := .busy }) = W2 at hL3 hs3 ⊢
      have hH2 : Hp W2.heap σ W2 := by rw [← hW2]; exact hp_put _ _ hw1
      have hro : Le ro (fullR W2.heap (O i)) := (hle1.trans h3).trans hs3.leFull
      refine (V_soundR hT.ok (round pre x rest i (fullR W2.heap (O i)) hro hx h1)).run L 0 ⟨n.size, []⟩ σ _ (fun _ _ h => h) hok3 hR.2 (fun e env' ro' own' h' hl hk' hs' => ?_) W2.heap hs3.full _ W2 (hf1.sub hk'.1) hH2
      have fin : ∀ (jump : Option Code) (w3 : World) (own3 : Chs), Hp w3.heap σ w3 → Sat (fullR W2.heap (O i)) own3 w3.heap →
          ∃ w4, (Instr.endRound L jump).run P w3 = .ok (.bool jump.isNone) w4 ∧ Hp w4.heap σ w4 ∧ Sat ρ own3 w4.heap ∧ w4.heap[L]? = some (.loop (rec (if jump.isNone then .ready else .done) jump)) ∧ (∀ c ∈ own3, L ∉ c.fp) := fun jump w3 own3 hh hsat => by
        obtain ⟨q1, q2⟩ := rec_off hsat hL3 h6
        have hr := run_endRound (P := P) jump q1
        have hlt3 : L < w3.heap.size := (Array.getElem?_eq_some_iff.1 q1).1
        refine ⟨_, hr, hp_put _ _ hh, (hsat.less hs3.leFull).out h5 q2 (fun b hb => World.putObj_heap_other hb), ?_, q2⟩
        rw [World.putObj_heap_same hlt3, hrec]
      cases e with
      | normal =>
        obtain ⟨e1, ro2, own2, k1, k2, k3, i', k4, k5⟩ := hk'.get h' hs'
        intro a3 w3 hf3 hw3
        have hw3h := hw3.heap
        subst hw3h
        obtain ⟨w4, r1, r2, r3, r4, r5⟩ := fin none w3 (O i') (hp_heap hw3) ((k3.sup k5).less (hl.trans k2))
        exact ⟨_, w4, r1, .inl ⟨rfl, i', k4, r3, h3, r4, h5, r5, r2⟩⟩
      | ret =>
        obtain ⟨e1, ro2, own2, k1, k2, k3, i', k4, k5⟩ := hk'.get h' hs'
        intro a3 w3 hf3 hw3
        have hw3h := hw3.heap
        subst hw3h
        obtain ⟨w4, r1, r2, r3, r4, r5⟩ := fin (some .ret) w3 (Ox i') (hp_heap hw3) ((k3.sup k5).less (hl.trans k2))
        exact ⟨_, w4, r1, .inr ⟨rfl, .ret, _, i', rfl, k4, r3.less h3, r4, r5, r2⟩⟩
      | exit id =>
        obtain ⟨e1, ro2, own2, k1, k2, k3, i', k4, k5⟩ := hk'.get h' hs'
        intro a3 w3 hf3 hw3
        have hw3h := hw3.heap
        subst hw3h
        obtain ⟨w4, r1, r2, r3, r4, r5⟩ := fin (some (.exit id)) w3 (Ox i') (hp_heap hw3) ((k3.sup k5).less (hl.trans k2))
        exact ⟨_, w4, r1, .inr ⟨rfl, .exit id, _, i', rfl, k4, r3.less h3, r4, r5, r2⟩⟩
      | goto t => exact hk'.elim
      | panic c => exact hk'.elim
      | outgrown => exact hk'.elim
    · rintro W W' ⟨e, c, j, h1, h2, h3, h4, h5, h6⟩ hh hp
      exact ⟨e, c, j, h1, h2, by rw [hh]; exact h3, by rw [hh]; exact h4, h5, h6.trans hp⟩
    · rintro ρ pre W' ⟨i, h1, h2, h3, h4, h5, h6, h7⟩
      exact ⟨rfl, h7.os.trans hHp1.os.symm, h7.tape.trans hHp1.tape.symm, h7.output.trans hHp1.output.symm⟩
    · rintro W' ⟨e, c, j, h1, h2, h3, h4, h5, h7⟩
      exact ⟨rfl, h7.os.trans hHp1.os.symm, h7.tape.trans hHp1.tape.symm, h7.output.trans hHp1.output.symm⟩
    · rintro e W2 ⟨v, rfl, (⟨ρ', i, h1, h2, h3, h4, h5, h6, h7⟩ | ⟨e, c, j, h1, h2, h3, h4, h5, h6⟩)⟩
      · refine ⟨none, _, by have := run_endLoop (P := P) h4 (by rw [hrec]; simp); rw [hrec] at this; exact this, ?_⟩
        have hs4 : Sat ro1 (O i) (W2.putObj L (.loop { rec .ready none with state := .exhausted })).heap := (h2.less h3).out hro1L h6 (fun b hb => World.putObj_heap_other hb)
        exact hk .normal env ro1 (O i) _ _ hle1 (done i ro1 hle1 h1) (by rw [hrec] at hs4; exact hs4) hmk _ _ (hfm h7) (hp_put _ _ h7)
      · refine ⟨some c, _, by have := run_endLoop (P := P) h4 (by rw [hrec]; simp); rw [hrec] at this; exact this, ?_⟩
        have hs4 : Sat ro1 (Ox j) (W2.putObj L (.loop { rec .done (some c) with state := .exhausted })).heap := h3.out hro1L h5 (fun b hb => World.putObj_heap_other hb)
        have key := hk e env ro1 (Ox j) _ _ hle1 (stop e j ro1 hle1 h2) (by rw [hrec] at hs4; exact hs4) hmk _ _ (hfm h6) (hp_put _ _ h6)
        cases e <;> simp only [jumpOf, Option.some.injEq, reduceCtorEq] at h1 <;> subst h1
        · exact wpIn_exit key
        · exact wpIn_ret key
end
end Go.E
