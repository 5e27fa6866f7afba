/- Merged of: V21 V22 V23 V24. A contract of this engine as one of the kit's; what a round over a function keeps. No program in sight. -/
import Derived.Test.YtkpdnpcmeadggaaDoorEn2
import Derived.RangeFuncNested
import Derived.RangeFuncBound
import Derived.RangeFuncCalls
import Derived.RangeFuncLeaves
/-! A contract of this engine as one of the kit's; what a round over a function keeps. No program in sight. -/
namespace Go.E
open Go Go.RowKit
set_option linter.unusedVariables false
theorem CallOk.callsV {P : Program} {f : FuncId} {args : Array Value} {v0 : Value} (he : ∀ args w, (callFunc f args).run P w = .ok (.enter f args) w) (hc : ∀ h, CallOk P f args (hm h) [] (fun v _ _ => v = v0)) (w : World) :
    Calls P f args w fun e w' => e = .returned v0 ∧ Below w.heap.size w w' := by
  rcases (hc w.heap).run w (sat_all _) with ⟨_, hcalls⟩ | ⟨v, w', h1, _⟩
  · exact hcalls.mono fun e w' ⟨v, hev, hh, ro', own', hl, hs, hv⟩ => by subst hv; exact ⟨hev, below_of hh (Ext.ofSat hl hs)⟩
  · rw [he] at h1; cases h1
/-- The rows of one type stay as they are. -/
def KeepsT (t : TypeId) (W W' : World) : Prop := ∀ (b : Nat) (cs : Array Value) (fr : Nat × Nat), W.heap[b]? = some (.cells cs t fr) → W'.heap[b]? = some (.cells cs t fr)
theorem KeepsT.trans {t : TypeId} {A B C : World} (h : KeepsT t A B) (k : KeepsT t B C) : KeepsT t A C := fun b cs fr hb => k b cs fr (h b cs fr hb)
theorem KeepsT.refl (t : TypeId) (A : World) : KeepsT t A A := fun b cs fr hb => hb
theorem KeepsT.putObj {t : TypeId} {W : World} {l : Nat} {o o' : Obj} (hl : W.heap[l]? = some o) (ho : o.isCells = false) : KeepsT t W (W.putObj l o') := fun b cs fr hb => by
  have hne : b ≠ l := fun e => by
    subst e
    rw [hl] at hb
    cases Option.some.inj hb
    cases ho
  rw [World.putObj_heap_other hne]
  exact hb
end Go.E
/-! A round's body, walked as any code, in a round's frame. No program in sight. -/
namespace Go.E
open Go Go.RowKit
set_option linter.unusedVariables false
set_option linter.unusedSimpArgs false
def noDef (o : Oper) : Bool := match o.op with
  | .defer _ => false
  | _ => true
theorem noDef_spec {o : Oper} (h : noDef o = true) : ∀ c, o.op ≠ .defer c := fun c e => by unfold noDef at h; rw [e] at h; cases h
section
variable {P : Program} {Q : Exit → Act → World → Prop}
theorem LetsOut_no (hQ : ∀ a w, ¬ Q .outgrown a w) : ¬ LetsOut Q := fun ⟨a, w, h⟩ => hQ a w h
theorem upon_inRound (l n : Nat) (hQ : ∀ a w, ¬ Q .outgrown a w) {o : Oper} {a : Act} {next next' : Act → World → Prop} (hn : ∀ a w, next a w → next' a w) : ∀ {r : Result Next}, o.upon P a next Q r → o.uponIn (Fence.wide.inRound l) n P a next' Q r := by
  intro r h
  cases r with
  | ok x w =>
    cases x <;> simp only [Oper.upon] at h <;> try exact h.elim
    all_goals simp only [Oper.uponIn]
    all_goals first
      | exact hn _ _ h
      | exact ⟨fun e => by simp [Fence.wide] at e, CallsIn.inRound l (callsIn_wide.2 (h.mono fun e w' he => by cases e <;> first | exact hn _ _ he | exact he))⟩
      | exact ⟨fun e => by simp [Fence.wide] at e, fun c cs _ => by
          obtain ⟨v, w', r, s⟩ := h c cs
          exact ⟨v, w', hn _ _ r, stepsIn_wide.2 s⟩⟩
  | halt x w => cases x <;> simp only [Oper.upon, Oper.uponIn] at h ⊢ <;> exact h
theorem wpList_inRound (l n : Nat) {all : Array Oper} (hQ : ∀ a w, ¬ Q .outgrown a w) : ∀ {ops : List Oper}, ops.all noDef = true → ∀ {a : Act} {w : World}, wpList P all Q ops a w → wpListIn (Fence.wide.inRound l) n P all Q ops a w
  | [], _, a, w, h => h
  | o :: ops, hd, a, w, h => by
    simp only [List.all_cons, Bool.and_eq_true] at hd
    unfold wpList at h
    unfold wpListIn
    split
    · rename_i hw
      rw [if_pos hw] at h
      rcases h with h | ⟨_, h⟩
      · refine ⟨fun f _ => trivial, ?_⟩
        rw [Oper.semAt_eq _ _ _ (noDef_spec hd.1)]
        exact upon_inRound l n hQ (fun a w h => wpList_inRound l n hQ hd.2 h) h
      · exact absurd h (LetsOut_no hQ)
    · rename_i hw
      rw [if_neg hw] at h
      exact ⟨fun f _ => trivial, wpList_inRound l n hQ hd.2 h⟩
/-- What may stand in a round's body here. -/
def okR : Code → Bool
  | .skip => true
  | .region _ ops draw => ops.toList.all noDef && !draw
  | .seq a b => okR a && okR b
  | .cond _ a b => okR a && okR b
  | .block _ a => okR a
  | .exit _ => true
  | .ret => true
  | _ => false
theorem okR_rf : ∀ {c : Code}, okR c = true → rf c = false
  | .skip, _ => rfl
  | .region .., _ => rfl
  | .seq a b, h => by simp only [okR, Bool.and_eq_true] at h; simp only [rf, okR_rf h.1, okR_rf h.2]; rfl
  | .cond _ a b, h => by simp only [okR, Bool.and_eq_true] at h; simp only [rf, okR_rf h.1, okR_rf h.2]; rfl
  | .block _ a, h => by simp only [okR] at h; simp only [rf, okR_rf h]
  | .exit _, _ => rfl
  | .ret, _ => rfl
/-- The same as CodeOk, in a round's frame. -/
structure CodeR (P : Program) (c : Code) (k : Exit → Kt) (env : Env) (ro : Ro) (own : Chs) : Prop where
  run : ∀ l m n σ Q, (∀ a w, ¬ Q .outgrown a w) → okS n.size c = true → okR c = true → (∀ e env' ro' own' h, Le ro ro' → k e env' ro' own' → Sat ro' own' h → N n σ (Q e) env' h) → ∀ h, Sat ro own h → ∀ a w, Fits n env a → Hp h σ w → c.wpIn (Fence.wide.inRound l) m P Q a w
theorem V_soundR {T : TT} (hT : TOk P T) : ∀ {c : Code} {k : Exit → Kt} {env : Env} {ro : Ro} {own : Chs}, V P T c k env ro own → CodeR P c k env ro own
  | .skip, k, env, ro, own, hv => ⟨fun l m n σ Q hQ hok hR hk h hs a w hf hw => wpIn_skip (hk .normal env ro own h (Le.refl _) hv hs a w hf hw)⟩
  | .region id ops draw, k, env, ro, own, hv => by
    refine ⟨fun l m n σ Q hQ hok hR hk h hs a w hf hw => ?_⟩
    simp only [okR, Bool.and_eq_true, Bool.not_eq_true'] at hR
    obtain ⟨hR, rfl⟩ := hR
    obtain ⟨ol⟩ := ops
    exact wpIn_region_lit (wpList_inRound l m hQ hR (vOps_sound hT hok hv (fun env' ro' own' h' _ hl hk' hs' => hk .normal env' ro' own' h' hl hk' hs') hs a w hf hw))
  | .seq a b, k, env, ro, own, hv => by
    refine ⟨fun l m n σ Q hQ hok hR hk h hs ac w hf hw => ?_⟩
    simp only [okS, okR, Bool.and_eq_true] at hok hR
    have hb : ∀ env' ro' own' h', Le ro ro' → V P T b k env' ro' own' → Sat ro' own' h' → N n σ (b.wpIn (Fence.wide.inRound l) m P Q) env' h' := fun env' ro' own' h' hl hv' hs' a2 w2 hf2 hw2 =>
      (V_soundR hT hv').run l m n σ Q hQ hok.2 hR.2 (fun e env2 ro2 own2 h2 hl2 hk2 hs2 => hk e env2 ro2 own2 h2 (hl.trans hl2) hk2 hs2) h' hs' a2 w2 hf2 hw2
    have ha : ∀ J : Kt, V P T a (fun e => match e with | .normal => J | e => k e) env ro own → (∀ env' ro' own' h', Le ro ro' → J env' ro' own' → Sat ro' own' h' → N n σ (b.wpIn (Fence.wide.inRound l) m P Q) env' h') → (Code.seq a b).wpIn (Fence.wide.inRound l) m P Q ac w := fun J hv' hJ =>
      wpIn_seq ((V_soundR hT hv').run l m n σ (Exit.then (b.wpIn (Fence.wide.inRound l) m P Q) Q) (fun a w h => hQ a w h) hok.1 hR.1 (fun e env2 ro2 own2 h2 hl2 hk2 hs2 => by
        cases e <;> first | exact hJ env2 ro2 own2 h2 hl2 hk2 hs2 | exact hk _ env2 ro2 own2 h2 hl2 hk2 hs2) h hs ac w hf hw)
    replace hv : vSeq a (V P T a) (V P T b) k env ro own := hv
    unfold vSeq at hv
    cases hj : joins a <;> simp only [hj] at hv
    rotate_left
    · rcases hv.run with h1 | ⟨E, O, I, h1, h2⟩
      · exact ha _ h1 hb
      · exact ha _ h1 (fun env' ro' own' h' hl hw' hs' => hw'.sound hl (fun env2 ro2 own2 h2' hl2 hl3 ⟨i, hI, hsub, hsup⟩ hs2 => N.sub2 hsub.to2 (hb _ ro2 _ h2' hl2 (h2 i ro2 hl2 hI) (hs2.sup hsup))) hs')
    · exact ha _ hv hb
  | .cond c a b, k, env, ro, own, hv => by
    refine ⟨fun l m n σ Q hQ hok hR hk h hs ac w hf hw => ?_⟩
    simp only [okS, okR, Bool.and_eq_true] at hok hR
    replace hv : vCond c (V P T a) (V P T b) k env ro own := hv
    unfold vCond at hv
    split at hv
    · rename_i v hx
      obtain ⟨h1, h2⟩ := hv.run
      have hev : ac.eval c = .bool v := hf.agree _ _ hx
      cases v with
      | true => exact wpIn_cond_true hev ((V_soundR hT (h1 rfl)).run l m n σ Q hQ hok.1 hR.1 hk h hs ac w hf hw)
      | false => exact wpIn_cond_false hev ((V_soundR hT (h2 rfl)).run l m n σ Q hQ hok.2 hR.2 hk h hs ac w hf hw)
    · exact hv.elim
  | .block id a, k, env, ro, own, hv => by
    refine ⟨fun l m n σ Q hQ hok hR hk h hs ac w hf hw => ?_⟩
    replace hv : vBlock id (V P T a) k env ro own := hv
    unfold vBlock at hv
    refine wpIn_block ((V_soundR hT hv).run l m n σ (Exit.inBlock id Q) (fun a w h => hQ a w h) hok hR (fun e env2 ro2 own2 h2 hl2 hk2 hs2 => ?_) h hs ac w hf hw)
    cases e with
    | exit j =>
      cases hj : Nat.beq j id with
      | true =>
        have := Nat.eq_of_beq_eq_true hj
        subst this
        simp only [hj, cond_true] at hk2
        exact N.block_same (hk _ env2 ro2 own2 h2 hl2 hk2 hs2)
      | false =>
        simp only [hj, cond_false] at hk2
        exact N.block_other hj (hk _ env2 ro2 own2 h2 hl2 hk2 hs2)
    | _ => exact hk _ env2 ro2 own2 h2 hl2 hk2 hs2
  | .exit id, k, env, ro, own, hv => ⟨fun l m n σ Q hQ hok hR hk h hs a w hf hw => wpIn_exit (hk _ env ro own h (Le.refl _) hv hs a w hf hw)⟩
  | .ret, k, env, ro, own, hv => ⟨fun l m n σ Q hQ hok hR hk h hs a w hf hw => wpIn_ret (hk _ env ro own h (Le.refl _) hv hs a w hf hw)⟩
  | .loop _, _, _, _, _, _ => ⟨fun l m n σ Q hQ hok hR => by cases hR⟩
  | .label _, _, _, _, _, _ => ⟨fun l m n σ Q hQ hok hR => by cases hR⟩
  | .rangeFunc .., _, _, _, _, _ => ⟨fun l m n σ Q hQ hok hR => by cases hR⟩
  | .scope _, _, _, _, _, _ => ⟨fun l m n σ Q hQ hok hR => by cases hR⟩
  | .goto _, _, _, _, _, _ => ⟨fun l m n σ Q hQ hok hR => by cases hR⟩
  | .refuse _, _, _, _, _, _ => ⟨fun l m n σ Q hQ hok hR => by cases hR⟩
end
end Go.E
/-! A range over a function: the iterator's contract, the rule, and functions that have such a range. No program in sight. -/
namespace Go.E
open Go Go.RowKit
set_option linter.unusedVariables false
set_option linter.unusedSimpArgs false
/-- All that lies there, but what is one's own. -/
def fullR (h : Heap) (own : Chs) : Ro := fun b => if b ∈ own.flatMap Chunk.fp then none else h[b]?
theorem fullR_own {h : Heap} {own : Chs} {c : Chunk} (hc : c ∈ own) {b : Nat} (hb : b ∈ c.fp) : fullR h own b = none := if_pos (List.mem_flatMap.2 ⟨c, hc, hb⟩)
theorem fullR_other {h : Heap} {own : Chs} {b : Nat} (hb : ∀ c ∈ own, b ∉ c.fp) : fullR h own b = h[b]? := if_neg (fun e => by obtain ⟨c, hc, hbc⟩ := List.mem_flatMap.1 e; exact hb c hc hbc)
theorem Sat.full {ro : Ro} {own : Chs} {h : Heap} (hs : Sat ro own h) : Sat (fullR h own) own h :=
  ⟨fun b o hb => by
    by_cases hm : b ∈ own.flatMap Chunk.fp
    · rw [fullR, if_pos hm] at hb; cases hb
    · rwa [fullR, if_neg hm] at hb, hs.parts, hs.nd, fun c hc b hb => fullR_own hc hb⟩
theorem Sat.leFull {ro : Ro} {own : Chs} {h : Heap} (hs : Sat ro own h) : Le ro (fullR h own) := ⟨fun b o hb => by
  rw [fullR_other (fun c hc hbc => by rw [hs.ap c hc b hbc] at hb; cases hb)]
  exact hs.last b o hb⟩
theorem Sat.less {ro ro' : Ro} {own : Chs} {h : Heap} (hs : Sat ro' own h) (hl : Le ro ro') : Sat ro own h :=
  ⟨fun b o hb => hs.last b o (hl.le b o hb), hs.parts, hs.nd, fun c hc b hb => by
    cases hr : ro b with
    | none => rfl
    | some o => have := hl.le b o hr; rw [hs.ap c hc b hb] at this; cases this⟩
/-- What neither lasts nor is one's own may change. -/
theorem Sat.out {ro : Ro} {own : Chs} {h h' : Heap} (hs : Sat ro own h) {L : Nat} (hL : ro L = none) (hL2 : ∀ c ∈ own, L ∉ c.fp) (hk : ∀ b, b ≠ L → h'[b]? = h[b]?) : Sat ro own h' :=
  ⟨fun b o hb => by
    rw [hk b (fun e => by subst e; rw [hL] at hb; cases hb)]
    exact hs.last b o hb, fun c hc => (hs.parts c hc).congr (fun b hb => hk b (fun e => by subst e; exact hL2 c hc hb)), hs.nd, hs.ap⟩
theorem Sat.up {ro ro' : Ro} {own : Chs} {h : Heap} (hs : Sat ro own h) (h1 : ∀ b o, ro' b = some o → h[b]? = some o) (h2 : ∀ b o, ro' b = some o → ro b = some o ∨ ∀ c ∈ own, b ∉ c.fp) : Sat ro' own h :=
  ⟨h1, hs.parts, hs.nd, fun c hc b hb => by
    cases hr : ro' b with
    | none => rfl
    | some o =>
      rcases h2 b o hr with h | h
      · rw [hs.ap c hc b hb] at h; cases h
      · exact absurd hb (h c hc)⟩
/-- A function that yields the values xs, one by one, each told as encs x; behind a round that says 'no more' it returns. -/
structure IterOk {α : Type} (P : Program) (f : FuncId) (bs : Array Value) (encs : α → Array Value) (xs : List α) : Prop where
  run : ∀ (l : Nat) (J : Ro → List α → World → Prop) (Jx : World → Prop) (ρ : Ro) (W : World),
    (∀ ρ pre W, J ρ pre W → ∀ b o, ρ b = some o → W.heap[b]? = some o) →
    (∀ ρ ρ' pre W W', J ρ pre W → Le ρ ρ' → (∀ b o, ρ' b = some o → ρ b = some o ∨ W.heap.size ≤ b) → (∀ b, b < W.heap.size → W'.heap[b]? = W.heap[b]?) → (∀ b o, ρ' b = some o → W'.heap[b]? = some o) → Hp W'.heap W W' → J ρ' pre W') →
    (∀ ρ pre x rest W, xs = pre ++ x :: rest → J ρ pre W → YieldAt Fence.wide 0 P l (encs x) W fun e W' => (e = .returned (.bool true) ∧ J ρ (pre ++ [x]) W') ∨ (e = .returned (.bool false) ∧ Jx W')) →
    (∀ W W', Jx W → W'.heap = W.heap → Hp W'.heap W W' → Jx W') →
    (∀ ρ pre W', J ρ pre W' → Hp W'.heap W W') → (∀ W', Jx W' → Hp W'.heap W W') →
    J ρ [] W →
    CallsIn Fence.wide 0 P f (bs ++ #[.func (.yield l) #[] #[]]) W fun e W' => ∃ v, e = .returned v ∧ ((∃ ρ', J ρ' xs W') ∨ Jx W')
/-- The parameters of a round, told. -/
def parEnv (env : Env) : List Nat → List Value → Env
  | p :: ps, v :: vs => parEnv ((p, v) :: env) ps vs
  | _, _ => env
theorem Fits.pars {n : Fr} : ∀ {ps : List Nat} {vs : List Value} {env : Env} {t : Array Value}, ps.all (fun p => Nat.blt p n.size) = true → Fits n env ⟨t, n.D⟩ → Fits n (parEnv env ps vs) ⟨(ps.zip vs).foldl (fun t (p, v) => t.setIfInBounds p v) t, n.D⟩
  | [], _, env, t, _, h => h
  | _ :: _, [], env, t, _, h => h
  | p :: ps, v :: vs, env, t, hp, h => by
    simp only [List.all_cons, Bool.and_eq_true] at hp
    have := h.put (d := p) hp.1 v
    exact Fits.pars (ps := ps) (vs := vs) (env := (p, v) :: env) (t := t.setIfInBounds p v) hp.2 this
/-- What is to hold where a round ends. -/
def rndK {ι κ : Type} (O : ι → Chs) (A : ι → Prop) (Ox : κ → Chs) (Ix : Exit → κ → Prop) : Exit → Kt
  | .normal => Wk fun _ _ own => ∃ i, A i ∧ Sup own (O i)
  | .ret => Wk fun _ _ own => ∃ j, Ix .ret j ∧ Sup own (Ox j)
  | .exit id => Wk fun _ _ own => ∃ j, Ix (.exit id) j ∧ Sup own (Ox j)
  | _ => fun _ _ _ => False
/-- The left sides of a round get their values. -/
def asgK (env1 : Env) (own1 : Chs) : Exit → Kt
  | .normal => fun env _ own => Sub env1 env ∧ Sup own own1
  | _ => fun _ _ _ => False
def jumpOf : Exit → Option Code
  | .ret => some .ret
  | .exit id => some (.exit id)
  | _ => none
section
variable {P : Program} {T : TT} {env : Env} {ro : Ro} {own : Chs}
theorem hp_put {w σ : World} {h : Heap} (L : Nat) (o : Obj) (hw : Hp h σ w) : Hp (w.putObj L o).heap σ (w.putObj L o) := ⟨rfl, hw.os, hw.tape, hw.output⟩
theorem hp_heap {w σ : World} {h : Heap} (hw : Hp h σ w) : Hp w.heap σ w := ⟨rfl, hw.os, hw.tape, hw.output⟩
theorem rec_off {L : Nat} {o : Obj} {own own' : Chs} {h h' : Heap} (hs : Sat (fullR h own) own' h') (hL : h[L]? = some o) (hL2 : ∀ c ∈ own, L ∉ c.fp) : h'[L]? = some o ∧ ∀ c ∈ own', L ∉ c.fp := by
  have e : fullR h own L = some o := (fullR_other hL2).trans hL
  refine ⟨hs.last L o e, fun c hc hb => ?_⟩
  have := hs.ap c hc L hb
  rw [e] at this; cases this
/-- **A range over a function.** -/
theorem CodeOk.rangeFunc {α : Type} [hT : TTab P T] {g : Operand} {ps : List Nat} {assign body : Code} {k : Exit → Kt} {f : FuncId} {bs : List Value} {encs : α → List Value} {xs : List α}
    (hg : ev env g = some (.func (.func f) bs.toArray #[])) (enter : ∀ args w, (callFunc f args).run P w = .ok (.enter f args) w)
    (hit : IterOk P f bs.toArray (fun x => (encs x).toArray) xs) (hps : ∀ x, (encs x).length = ps.length) (hR : (okR assign && okR body) = true)
    {ι κ : Type} (O : ι → Chs) (I : List α → ι → Prop) (Ox : κ → Chs) (Ix : Exit → κ → Prop) (env1 : α → Env) (i0 : ι) (hI : I [] i0) (ho : Sup own (O i0))
    (asg : ∀ x own' ro', Le ro ro' → V P T assign (asgK (env1 x) own') (parEnv env ps (encs x)) ro' own')
    (round : ∀ pre x rest i ro', Le ro ro' → xs = pre ++ x :: rest → I pre i → V P T body (rndK O (I (pre ++ [x])) Ox Ix) (env1 x) ro' (O i))
    (done : ∀ i ro', Le ro ro' → I xs i → k .normal env ro' (O i))
    (stop : ∀ e j ro', Le ro ro' → Ix e j → k e env ro' (Ox j)) : CodeOk P (.rangeFunc g ps.toArray assign body) k env ro own := by
  refine ⟨fun n σ Q hok hk h hs a w hf hw => ?_⟩
  simp only [okS, Bool.and_eq_true] at hok
  simp only [Bool.and_eq_true] at hR
  obtain ⟨⟨hok1, hok2⟩, hok3⟩ := hok
  have hwh := hw.heap
  subst hwh
  refine (wpIn_wide (n := 0)).1 (wpIn_rangeFunc fun fn _ => ?_)
  obtain ⟨rec, hrec⟩ : ∃ rec : LoopState → Option Code → Loop, rec = fun st pe => { state := st, pending := pe, fn, tmps := a.tmps, params := ps.toArray, assign, body, defers := w.heap.size } := ⟨_, rfl⟩
  obtain ⟨W1, hW1⟩ : ∃ W1, (w.alloc (.deferred (some []))).alloc (.loop (rec .ready none)) = W1 := ⟨_, rfl⟩
  obtain ⟨L, hLe⟩ : ∃ L, w.heap.size + 1 = L := ⟨_, rfl⟩
  have hsz1 : W1.heap.size = w.heap.size + 2 := by rw [← hW1]; simp
  have hL1 : W1.heap[L]? = some (.loop (rec .ready none)) := by
    rw [← hW1, ← hLe]; have := World.alloc_heap_new (w.alloc (.deferred (some []))) (.loop (rec .ready none)); rwa [World.size_alloc] at this
  have hK1 : W1.heap[w.heap.size]? = some (.deferred (some [])) := by
    rw [← hW1]; exact (Below.heap_alloc _ _ _ (by simp)).trans (World.alloc_heap_new w _)
  have hlow : ∀ b, b < w.heap.size → W1.heap[b]? = w.heap[b]? := fun b hb => by
    rw [← hW1]; exact (Below.heap_alloc _ _ _ (by simp; omega)).trans (Below.heap_alloc _ _ _ hb)
  have hHp1 : Hp W1.heap σ W1 := by rw [← hW1]; exact ⟨rfl, hw.os, hw.tape, hw.output⟩
  have hroD : ro w.heap.size = none := by
    cases hr : ro w.heap.size with
    | none => rfl
    | some o => have := (Array.getElem?_eq_some_iff.1 (hs.last _ _ hr)).1; omega
  have hroL : ro L = none := by
    cases hr : ro L with
    | none => rfl
    | some o => have := (Array.getElem?_eq_some_iff.1 (hs.last _ _ hr)).1; omega
  obtain ⟨ro1, hro1⟩ : ∃ ro1 : Ro, ro1 = fun b => if b = w.heap.size then some (.deferred (some [])) else ro b := ⟨_, rfl⟩
  have hv1 : ∀ b, ro1 b = if b = w.heap.size then some (.deferred (some [])) else ro b := fun b => by rw [hro1]
  have hle1 : Le ro ro1 := ⟨fun b o hb => by
    rw [hv1, if_neg (fun e => by subst e; rw [hroD] at hb; cases hb)]
    exact hb⟩
  have hro1D : ro1 w.heap.size = some (.deferred (some [])) := by rw [hv1]; exact if_pos rfl
  have hro1L : ro1 L = none := by
    rw [hv1, if_neg (by omega)]; exact hroL
  have hmk : Mk (rf (.rangeFunc g ps.toArray assign body)) n.D (markOf w.heap.size :: n.D) ro ro1 := ⟨fun e => by simp [rf] at e, [w.heap.size], rfl, by simp, fun b hb => by
    simp only [List.mem_singleton] at hb; subst hb; exact ⟨hroD, hro1D⟩⟩
  have hs1 : Sat ro1 (O i0) W1.heap := by
    have h0 : Sat ro (O i0) W1.heap := (hs.keep hlow).sup ho
    have h00 : Sat ro (O i0) w.heap := hs.sup ho
    refine h0.up (fun b o hb => ?_) (fun b o hb => ?_)
    · rw [hv1] at hb
      by_cases e : b = w.heap.size
      · subst e; rw [if_pos rfl] at hb; cases hb; exact hK1
      · rw [if_neg e] at hb; exact h0.last b o hb
    · rw [hv1] at hb
      by_cases e : b = w.heap.size
      · subst e
        exact .inr (fun c hc hbc => by have := (h00.parts c hc).lt _ hbc; omega)
      · rw [if_neg e] at hb; exact .inl hb
  have hL10 : ∀ c ∈ O i0, L ∉ c.fp := fun c hc hbc => by
    have := ((hs.sup ho).parts c hc).lt _ hbc; omega
  have hfm : ∀ {W : World} {h' : Heap}, Hp h' σ W → Fits ⟨n.size, markOf w.heap.size :: n.D⟩ env { a with defers := [{ target := .collected w.heap.size, args := #[] }] ++ a.defers } := fun _ => ⟨by simp [hf.defers, markOf], hf.size, hf.get⟩
  refine ⟨L, [{ target := .collected w.heap.size, args := #[] }], W1, { target := .fn (.func f) #[], args := bs.toArray ++ #[.func (.yield L) #[] #[]] }, W1, f, bs.toArray ++ #[.func (.yield L) #[] #[]], W1, ?_, ?_, fun _ _ => trivial, ?_, fun e => by simp [Fence.wide] at e, ?_⟩
  · rw [← hW1, hrec, ← hLe]; exact run_enterLoop_outer _ _ _ _ _
  · have := hf.agree _ _ hg
    simp only [resolve, this]
    simp [Deferred.ofValue, Act.eval, go_sem]
  · simp [invoke, go_sem, enter]
  · refine (hit.run L (fun ρ pre W => ∃ i, I pre i ∧ Sat ρ (O i) W.heap ∧ Le ro1 ρ ∧ W.heap[L]? = some (.loop (rec .ready none)) ∧ ρ L = none ∧ (∀ c ∈ O i, L ∉ c.fp) ∧ Hp W.heap σ W)
      (fun W => ∃ e c j, jumpOf e = some c ∧ Ix e j ∧ Sat ro1 (Ox j) W.heap ∧ W.heap[L]? = some (.loop (rec .done (some c))) ∧ (∀ c ∈ Ox j, L ∉ c.fp) ∧ Hp W.heap σ W) ro1 W1 ?_ ?_ ?_ ?_ ?_ ?_ ⟨i0, hI, hs1, Le.refl _, hL1, hro1L, hL10, hHp1⟩).mono ?_
    · rintro ρ pre W ⟨i, _, h2, _⟩ b o hb
      exact h2.last b o hb
    · rintro ρ ρ' pre W W' ⟨i, h1, h2, h3, h4, h5, h6, h7⟩ hl hn hkp hlast hh
      have hLlt : L < W.heap.size := (Array.getElem?_eq_some_iff.1 h4).1
      refine ⟨i, h1, (h2.keep hkp).up hlast (fun b o hb => ?_), h3.trans hl, (hkp L hLlt).trans h4, ?_, h6, h7.trans hh⟩
      · rcases hn b o hb with h | h
        · exact .inl h
        · exact .inr (fun c hc hbc => by have := (h2.parts c hc).lt _ hbc; omega)
      · cases hr : ρ' L with
        | none => rfl
        | some o =>
          rcases hn L o hr with h | h
          · rw [h5] at h; cases h
          · omega
    · rintro ρ pre x rest W hx ⟨i, h1, h2, h3, h4, h5, h6, h7⟩
      have hy := run_yield (P := P) (args := (encs x).toArray) h4 (by rw [hrec]; simpa using hps x)
      rw [hrec] at hy
      refine ⟨fn, _, assign, body, hy, roundIn_of_wpIn trivial ?_⟩
      have hf0 : Fits ⟨n.size, []⟩ (parEnv env ps (encs x)) { tmps := (ps.toArray.zip (encs x).toArray).foldl (fun t (p, v) => t.setIfInBounds p v) a.tmps, defers := [] } := by
        have := Fits.pars (n := ⟨n.size, []⟩) (ps := ps) (vs := encs x) (env := env) (t := a.tmps) (by simpa using hok1) ⟨rfl, hf.size, hf.get⟩
        simpa using this
      refine (V_soundR hT.ok (asg x (O i) (fullR W.heap (O i)) ((hle1.trans h3).trans h2.leFull))).run L 0 ⟨n.size, []⟩ σ _ (fun _ _ h => h) hok2 hR.1 (fun e env' ro' own' h' hl hk' hs' => ?_) W.heap h2.full _ W hf0 h7
      cases e <;> first | exact hk'.elim | skip
      intro a1 w1 hf1 hw1
      have hw1h := hw1.heap
      subst hw1h
      have hs2 : Sat (fullR W.heap (O i)) (O i) w1.heap := (hs'.sup hk'.2).less hl
      have hL2 := (rec_off hs2 h4 h6).1
      have hlt : L < w1.heap.size := (Array.getElem?_eq_some_iff.1 hL2).1
      refine ⟨_, run_beginRound hL2 (by rw [hrec]), ?_⟩
      have hL3 : (w1.putObj L (.loop { rec .ready none with state := .busy })).heap[L]? = some (.loop { rec .ready none with state := .busy }) := World.putObj_heap_same hlt
      have hs3 : Sat ρ (O i) (w1.putObj L (.loop { rec .ready none with state := .busy })).heap := (hs2.less h2.leFull).out h5 h6 (fun b hb => World.putObj_heap_other hb)
      generalize hW2 : w1.putObj L (.loop { rec .ready none with state := .busy }) = W2 at hL3 hs3 ⊢
      have hH2 : Hp W2.heap σ W2 := by rw [← hW2]; exact hp_put _ _ hw1
      have hro : Le ro (fullR W2.heap (O i)) := (hle1.trans h3).trans hs3.leFull
      refine (V_soundR hT.ok (round pre x rest i (fullR W2.heap (O i)) hro hx h1)).run L 0 ⟨n.size, []⟩ σ _ (fun _ _ h => h) hok3 hR.2 (fun e env' ro' own' h' hl hk' hs' => ?_) W2.heap hs3.full _ W2 (hf1.sub hk'.1) hH2
      have fin : ∀ (jump : Option Code) (w3 : World) (own3 : Chs), Hp w3.heap σ w3 → Sat (fullR W2.heap (O i)) own3 w3.heap →
          ∃ w4, (Instr.endRound L jump).run P w3 = .ok (.bool jump.isNone) w4 ∧ Hp w4.heap σ w4 ∧ Sat ρ own3 w4.heap ∧ w4.heap[L]? = some (.loop (rec (if jump.isNone then .ready else .done) jump)) ∧ (∀ c ∈ own3, L ∉ c.fp) := fun jump w3 own3 hh hsat => by
        obtain ⟨q1, q2⟩ := rec_off hsat hL3 h6
        have hr := run_endRound (P := P) jump q1
        have hlt3 : L < w3.heap.size := (Array.getElem?_eq_some_iff.1 q1).1
        refine ⟨_, hr, hp_put _ _ hh, (hsat.less hs3.leFull).out h5 q2 (fun b hb => World.putObj_heap_other hb), ?_, q2⟩
        rw [World.putObj_heap_same hlt3, hrec]
      cases e with
      | normal =>
        obtain ⟨e1, ro2, own2, k1, k2, k3, i', k4, k5⟩ := hk'.get h' hs'
        intro a3 w3 hf3 hw3
        have hw3h := hw3.heap
        subst hw3h
        obtain ⟨w4, r1, r2, r3, r4, r5⟩ := fin none w3 (O i') (hp_heap hw3) ((k3.sup k5).less (hl.trans k2))
        exact ⟨_, w4, r1, .inl ⟨rfl, i', k4, r3, h3, r4, h5, r5, r2⟩⟩
      | ret =>
        obtain ⟨e1, ro2, own2, k1, k2, k3, i', k4, k5⟩ := hk'.get h' hs'
        intro a3 w3 hf3 hw3
        have hw3h := hw3.heap
        subst hw3h
        obtain ⟨w4, r1, r2, r3, r4, r5⟩ := fin (some .ret) w3 (Ox i') (hp_heap hw3) ((k3.sup k5).less (hl.trans k2))
        exact ⟨_, w4, r1, .inr ⟨rfl, .ret, _, i', rfl, k4, r3.less h3, r4, r5, r2⟩⟩
      | exit id =>
        obtain ⟨e1, ro2, own2, k1, k2, k3, i', k4, k5⟩ := hk'.get h' hs'
        intro a3 w3 hf3 hw3
        have hw3h := hw3.heap
        subst hw3h
        obtain ⟨w4, r1, r2, r3, r4, r5⟩ := fin (some (.exit id)) w3 (Ox i') (hp_heap hw3) ((k3.sup k5).less (hl.trans k2))
        exact ⟨_, w4, r1, .inr ⟨rfl, .exit id, _, i', rfl, k4, r3.less h3, r4, r5, r2⟩⟩
      | goto t => exact hk'.elim
      | panic c => exact hk'.elim
      | outgrown => exact hk'.elim
    · rintro W W' ⟨e, c, j, h1, h2, h3, h4, h5, h6⟩ hh hp
      exact ⟨e, c, j, h1, h2, by rw [hh]; exact h3, by rw [hh]; exact h4, h5, h6.trans hp⟩
    · rintro ρ pre W' ⟨i, h1, h2, h3, h4, h5, h6, h7⟩
      exact ⟨rfl, h7.os.trans hHp1.os.symm, h7.tape.trans hHp1.tape.symm, h7.output.trans hHp1.output.symm⟩
    · rintro W' ⟨e, c, j, h1, h2, h3, h4, h5, h7⟩
      exact ⟨rfl, h7.os.trans hHp1.os.symm, h7.tape.trans hHp1.tape.symm, h7.output.trans hHp1.output.symm⟩
    · rintro e W2 ⟨v, rfl, (⟨ρ', i, h1, h2, h3, h4, h5, h6, h7⟩ | ⟨e, c, j, h1, h2, h3, h4, h5, h6⟩)⟩
      · refine ⟨none, _, by have := run_endLoop (P := P) h4 (by rw [hrec]; simp); rw [hrec] at this; exact this, ?_⟩
        have hs4 : Sat ro1 (O i) (W2.putObj L (.loop { rec .ready none with state := .exhausted })).heap := (h2.less h3).out hro1L h6 (fun b hb => World.putObj_heap_other hb)
        exact hk .normal env ro1 (O i) _ _ hle1 (done i ro1 hle1 h1) (by rw [hrec] at hs4; exact hs4) hmk _ _ (hfm h7) (hp_put _ _ h7)
      · refine ⟨some c, _, by have := run_endLoop (P := P) h4 (by rw [hrec]; simp); rw [hrec] at this; exact this, ?_⟩
        have hs4 : Sat ro1 (Ox j) (W2.putObj L (.loop { rec .done (some c) with state := .exhausted })).heap := h3.out hro1L h5 (fun b hb => World.putObj_heap_other hb)
        have key := hk e env ro1 (Ox j) _ _ hle1 (stop e j ro1 hle1 h2) (by rw [hrec] at hs4; exact hs4) hmk _ _ (hfm h6) (hp_put _ _ h6)
        cases e <;> simp only [jumpOf, Option.some.injEq, reduceCtorEq] at h1 <;> subst h1
        · exact wpIn_exit key
        · exact wpIn_ret key
end
end Go.E
/-! Walking an iterator: a region that calls its yield; functions that bear marks. No program in sight. -/
namespace Go.E
open Go Go.RowKit
set_option linter.unusedVariables false
set_option linter.unusedSimpArgs false
section
variable {P : Program} {T : TT} {al : Array Oper} {Q : Exit → Act → World → Prop} {n : Fr} {σ : World} {env : Env} {h : Heap}
/-- The operations of a region in their order, in the wide fence. -/
def LI (P : Program) (al : Array Oper) (Q : Exit → Act → World → Prop) (n : Fr) (σ : World) (ops : List Oper) (env : Env) (h : Heap) : Prop :=
  ∀ a w, Fits n env a → Hp h σ w → wpListIn Fence.wide 0 P al Q ops a w
theorem C.regionI {id : Nat} {l : List Oper} (k : LI P l.toArray Q n σ l env h) : C P Q n σ (.region id l.toArray false) env h := fun a w hf hw => (wpIn_wide (n := 0)).1 (wpIn_region_lit (k a w hf hw))
theorem upon_inWide {o : Oper} {a : Act} {K : Act → World → Prop} {next next' : Act → World → Prop} (hn : ∀ a w, next a w → next' a w) : ∀ {r : Result Next}, o.upon P a next (fun e a w => e = .normal ∧ K a w) r → o.uponIn Fence.wide 0 P a next' Q r := by
  intro r h
  cases r with
  | ok x w =>
    cases x <;> simp only [Oper.upon] at h <;> try exact h.elim
    all_goals simp only [Oper.uponIn]
    all_goals first
      | exact hn _ _ h
      | exact ⟨fun e => by simp [Fence.wide] at e, callsIn_wide.2 (h.mono fun e w' he => by
          cases e <;> first
            | exact hn _ _ he
            | (obtain ⟨hh, _⟩ := he; cases hh; done)
            | (obtain ⟨_, _, hh, _⟩ := he; cases hh; done))⟩
      | exact ⟨fun e => by simp [Fence.wide] at e, fun c cs _ => by
          obtain ⟨v, w', r, s⟩ := h c cs
          exact ⟨v, w', hn _ _ r, stepsIn_wide.2 s⟩⟩
  | halt x w => cases x <;> simp only [Oper.upon] at h <;> (obtain ⟨hh, _⟩ := h; cases hh)
theorem wpList_splitIn {K : Act → World → Prop} {rest : List Oper} (hK : ∀ a w, K a w → wpListIn Fence.wide 0 P al Q rest a w) : ∀ {ops : List Oper}, ops.all noDef = true → ∀ {a : Act} {w : World}, wpList P al (fun e a w => e = .normal ∧ K a w) ops a w → wpListIn Fence.wide 0 P al Q (ops ++ rest) a w
  | [], _, a, w, h => hK a w h.2
  | o :: ops, hd, a, w, h => by
    simp only [List.all_cons, Bool.and_eq_true] at hd
    unfold wpList at h
    show wpListIn Fence.wide 0 P al Q (o :: (ops ++ rest)) a w
    unfold wpListIn
    split
    · rename_i hw
      rw [if_pos hw] at h
      rcases h with h | ⟨_, h⟩
      · refine ⟨fun f _ => trivial, ?_⟩
        rw [Oper.semAt_eq _ _ _ (noDef_spec hd.1)]
        exact upon_inWide (fun a w h => wpList_splitIn hK hd.2 h) h
      · obtain ⟨_, _, hh, _⟩ := h; cases hh
    · rename_i hw
      rw [if_neg hw] at h
      exact ⟨fun f _ => trivial, wpList_splitIn hK hd.2 h⟩
/-- Its first operations as any. -/
theorem LI.split {rest : List Oper} {ops : List Oper} (hd : ops.all noDef = true) (k : L P al (fun e a w => e = .normal ∧ wpListIn Fence.wide 0 P al Q rest a w) n σ ops env h) : LI P al Q n σ (ops ++ rest) env h :=
  fun a w hf hw => wpList_splitIn (fun a w h => h) hd (k a w hf hw)
theorem LI.all {ops : List Oper} (hd : ops.all noDef = true) (k : L P al (fun e a w => e = .normal ∧ Q .normal a w) n σ ops env h) : LI P al Q n σ ops env h := fun a w hf hw => by
  have := wpList_splitIn (rest := []) (Q := Q) (fun a w h => h) hd (k a w hf hw)
  rwa [List.append_nil] at this
theorem N.normalI {rest : List Oper} (k : LI P al Q n σ rest env h) : N n σ ((fun (e : Exit) a w => e = .normal ∧ wpListIn Fence.wide 0 P al Q rest a w) .normal) env h := fun a w hf hw => ⟨rfl, k a w hf hw⟩
theorem N.normalA {Q' : Act → World → Prop} (k : N n σ Q' env h) : N n σ ((fun (e : Exit) a w => e = .normal ∧ Q' a w) .normal) env h := fun a w hf hw => ⟨rfl, k a w hf hw⟩
/-- Its own yield is called. -/
theorem LI.yield {rest : List Oper} {d l : Nat} {x : Operand} {ys : List Operand} {vs : List Value} {tys : Array TypeId} {ty : TypeId} {pos : String} {af : Array Edge}
    (hx : ev env x = some (.func (.yield l) #[] #[])) (hy : evs env ys = some vs) (hd : Nat.blt d n.size = true)
    (hY : ∀ w, Hp h σ w → YieldAt Fence.wide 0 P l vs.toArray w fun e w' => ∃ v, e = .returned v ∧ Hp w'.heap σ w' ∧ ∀ a', Fits n ((d, v) :: env) a' → wpListIn Fence.wide 0 P al Q rest a' w') :
    LI P al Q n σ (⟨some d, .call ⟨.value x, ys.toArray, tys⟩, ty, pos, af, none⟩ :: rest) env h := fun a w hf hw => by
  obtain ⟨fn, tmps, assign, body, hy1, hR⟩ := hY w hw
  have e1 := hf.agree _ _ hx
  have e2 := hf.agree.list hy
  unfold wpListIn
  rw [if_pos (show Region.wanted _ _ = true from rfl)]
  refine ⟨fun f _ => trivial, ?_⟩
  have hrun : (execOp a.eval ⟨some d, .call ⟨.value x, ys.toArray, tys⟩, ty, pos, af, none⟩).run P w = .ok (.round l fn tmps assign body) w := by
    rw [← hy1]
    simp [execOp, resolve, e1, e2, Deferred.ofValue, invoke, Sem.run_bind, Result.andThen, Sem.run_pure]
  rw [Oper.semAt_eq _ _ _ (fun c e => by cases e)]
  rw [hrun]
  simp only [Oper.uponIn]
  refine ⟨fun e => by simp [Fence.wide] at e, hR.mono fun e w' ⟨v, he, hh, hk⟩ => ?_⟩
  subst he
  exact hk _ (hf.put hd v)
theorem LI.guard {rest : List Oper} {d : Option Nat} {op : Op} {ty : TypeId} {pos : String} {af : Array Edge} {j : Nat} {b : Bool} {t : Nat}
    {l : List Oper} (hj0 : dstOf l j = some t) (ht : look env t = some (.bool b)) (k : LI P l.toArray Q n σ (⟨d, op, ty, pos, af, none⟩ :: rest) env h) :
    LI P l.toArray Q n σ (⟨d, op, ty, pos, af, some (j, b)⟩ :: rest) env h := fun a w hf hw => by
  have hj := dstOf_spec hj0
  have hy : yielded l.toArray a.tmps j = some b := by simp [yielded, hj, hf.get _ _ ht]
  have k := k a w hf hw
  unfold wpListIn at k ⊢
  rw [if_pos (show Region.wanted _ _ = true from rfl)] at k
  rw [if_pos (by simp [Region.wanted, hy])]
  exact k
/-! ### functions that bear marks -/
theorem leavesM {fn : Func} {tmps : Array Value} {R : Ending → World → Prop} {own : Chs} {ro : Ro} {σ : World} {v : Value} (hres : ∀ w, (results fn tmps).run P w = .ok v w) (hR : ∀ w, Hp w.heap σ w → Sat ro own w.heap → R (.returned v) w) :
    ∀ (ms : List Nat) (w : World), ms.Nodup → Hp w.heap σ w → (∀ b ∈ ms, ro b = none) → (∀ b ∈ ms, w.heap[b]? = some (.deferred (some []))) → (∀ b ∈ ms, ∀ c ∈ own, b ∉ c.fp) → Sat ro own w.heap → LeavesInM Fence.wide 0 P fn tmps R (ms.map markOf) .returning w
  | [], w, _, hh, _, _, _, hs => ⟨v, hres w, hR w hh hs⟩
  | b :: ms, w, hn, hh, h1, h2, h3, hs => by
    obtain ⟨n1, n2⟩ := List.nodup_cons.1 hn
    refine ⟨by simp, .inl ⟨b, _, rfl, run_takeDeferred (h2 b (by simp)), ?_⟩⟩
    refine leavesM hres hR ms _ n2 (hp_put _ _ hh) (fun c hc => h1 c (by simp [hc])) (fun c hc => ?_) (fun c hc => h3 c (by simp [hc])) (hs.out (h1 b (by simp)) (h3 b (by simp)) (fun c hc => World.putObj_heap_other hc))
    have hne : c ≠ b := fun e => n1 (by rw [← e]; exact hc)
    rw [World.putObj_heap_other hne]
    exact h2 c (by simp [hc])
/-- What is asked at the end of a function that may bear marks: its results are slots; of what lasts only what lasted ahead of it. -/
def retM (rs : List ResultVar) (Φ : Value → Chs → Prop) : Exit → Kt
  | .ret => fun env ro own => match rvals env rs with
    | some vs => Stop (Wk (fun _ _ own => Φ (tup vs) own) [] ro own)
    | none => False
  | .normal => fun env ro own => match rs with
    | [] => Stop (Wk (fun _ _ own => Φ (tup []) own) [] ro own)
    | _ => False
  | _ => fun _ _ _ => False
theorem results_of {fn : Func} {rs : List ResultVar} {vs : List Value} {a : Act} (hr : fn.results = rs.toArray) (hv : rvals env rs = some vs) (hf : Fits n env a) (w : World) : (results fn a.tmps).run P w = .ok (tup vs) w := by
  have := (RV.of (P := P) (h := w.heap) hv).run hf (rfl : w.heap = w.heap)
  have e : results fn a.tmps = (do let vs ← fn.results.mapM (resOne a.tmps); pure (if h : vs.size = 1 then vs[0] else .tuple vs)) := rfl
  rw [e, hr, List.mapM_toArray]
  simp only [bind_map_left, Sem.run_bind, this, Result.andThen_ok, Sem.run_pure, tup_eq]
/-- A function's contract out of its body's reckoning, where the body may range over a function. -/
theorem CallOk.introM {f : FuncId} {fn : Func} {c : Code} {args : List Value} {rs : List ResultVar} {Φ : Value → Ro → Chs → Prop} {ro : Ro} {own : Chs} (hT : TOk P T) (hf : P.funcs[f]? = some fn) (he : ∀ args w, (callFunc f args).run P w = .ok (.enter f args) w) (hb : fn.body = some c) (hr : fn.results = rs.toArray)
    (hn : okS fn.ntmps c = true) (hl : Nat.ble args.length fn.ntmps = true) (k : V P T c (retM rs (fun v own => Φ v ro own)) (argEnv 0 args) ro own) : CallOk P f args.toArray ro own Φ := by
  refine ⟨fun w hs => .inl ⟨he _ _, (callsIn_wide (n := 0)).1 (callsIn_of_wp_marks hf hb trivial (wpIn_wide.2 ?_))⟩⟩
  have fin : ∀ {env' : Env} {vs : List Value} {ro' : Ro} {own' : Chs} {D : List Deferred} {h' : Heap}, rvals env' rs = some vs → Le ro ro' → Wk (fun _ _ own => Φ (tup vs) ro own) [] ro' own' → Sat ro' own' h' → Mk (rf c) [] D ro ro' →
      ∀ a w2, Fits ⟨fn.ntmps, D⟩ env' a → Hp h' w w2 → LeavesInM Fence.wide 0 P fn a.tmps (fun e w' => ∃ v, e = .returned v ∧ Post ro Φ w v w') a.defers .returning w2 := by
    intro env' vs ro' own' D h' hv hl hk hs' hm a w2 hf2 hw2
    obtain ⟨e1, ro2, own2, h1, h2, h3, h4⟩ := hk.get h' hs'
    obtain ⟨ms, hD, hnd, hms⟩ := hm.yes
    have hw2h := hw2.heap
    subst hw2h
    have hD2 : a.defers = ms.map markOf := by rw [hf2.defers]; simpa using hD
    rw [hD2]
    refine leavesM (σ := w) (ro := ro) (own := own2) (results_of hr hv hf2) (fun w3 hh hs3 => ⟨_, rfl, hh, ro, own2, Le.refl _, hs3, h4⟩) ms w2 hnd (hp_heap hw2) (fun b hb => (hms b hb).1) (fun b hb => hs'.last b _ (hms b hb).2) (fun b hb c hc hbc => ?_) (h3.less (hl.trans h2))
    have := h3.ap c hc b hbc
    rw [h2.le _ _ (hms b hb).2] at this; cases this
  refine (V_sound hT k).run ⟨fn.ntmps, []⟩ w _ hn (fun e env' ro' own' D h' hl hk hs' hm => ?_) w.heap hs _ w ⟨rfl, ?_, fun t v hv => ?_⟩ (Hp.self w)
  · cases e with
    | ret =>
      simp only [retM] at hk
      split at hk
      · rename_i vs hv
        exact fun a w2 hf2 hw2 => fin hv hl hk.run hs' hm a w2 hf2 hw2
      · exact hk.elim
    | normal =>
      simp only [retM] at hk
      split at hk
      · exact fun a w2 hf2 hw2 => fin rfl hl hk.run hs' hm a w2 hf2 hw2
      · exact hk.elim
    | _ => exact hk.elim
  · have : args.length ≤ fn.ntmps := by simpa using hl
    simp; omega
  · have := (look_argEnv args 0 t v hv).2
    simp only [Nat.sub_zero] at this
    have ht : t < args.length := (List.getElem?_eq_some_iff.1 this).1
    rw [Array.getElem?_append_left (by simpa using ht)]
    simpa using this
/-- An iterator's walk, out of its body's. -/
theorem calls_of_C {f : FuncId} {fn : Func} {c : Code} {args : List Value} {W : World} {R : Ending → World → Prop} {m : Nat} (hf : P.funcs[f]? = some fn) (hb : fn.body = some c) (hn : fn.ntmps = m) (hl : Nat.ble args.length m = true)
    (k : C P (bodyPost P fn R) ⟨m, []⟩ W c (argEnv 0 args) W.heap) : Calls P f args.toArray W R :=
  calls_of_wp hf hb (k _ W ⟨rfl, by have : args.length ≤ m := by simpa using hl
                                    simp [hn]; omega, fun t v hv => by
    have := (look_argEnv args 0 t v hv).2
    simp only [Nat.sub_zero] at this
    have ht : t < args.length := (List.getElem?_eq_some_iff.1 this).1
    rw [Array.getElem?_append_left (by simpa using ht)]
    simpa using this⟩ (Hp.self W))
/-- A piece of code by the engine, all that lies there lasting. -/
theorem C.byV (hT : TOk P T) {c : Code} (hok : okS n.size c = true) (hrf : rf c = false) {k : Exit → Kt} (hv : V P T c k env (hm h) []) (hk : ∀ e env' ro' own' h', Le (hm h) ro' → k e env' ro' own' → Sat ro' own' h' → N n σ (Q e) env' h') : C P Q n σ c env h :=
  (V_sound hT hv).run n σ Q hok (fun e env' ro' own' D h' hl hk' hs' hm => by
    have : D = n.D := hm.no hrf
    subst this
    exact hk e env' ro' own' h' hl hk' hs') h (sat_all h)
theorem L.byV (hT : TOk P T) {l0 ops : List Oper} (hok : ops.all (fun o => okD n.size o.dst) = true) {k : Kt} (hv : vOps P T l0 ops [] ops k env (hm h) []) (hk : ∀ env' ro' own' h', Le (hm h) ro' → k env' ro' own' → Sat ro' own' h' → N n σ (Q .normal) env' h') : L P l0.toArray Q n σ ops env h :=
  vOps_sound hT hok hv (fun env' ro' own' h' _ hl hk' hs' => hk env' ro' own' h' hl hk' hs') (sat_all h)
end
end Go.E
