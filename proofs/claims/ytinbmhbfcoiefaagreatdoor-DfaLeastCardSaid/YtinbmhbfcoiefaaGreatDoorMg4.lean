/- Texts of a walk, one behind the other. -/
import Derived.OrdersIn
import Derived.RangeFuncNested
import Derived.RangeFuncBound
import Derived.RangeFuncCalls
import Derived.RangeFuncLeaves
import Derived.Test.YtinbmhbfcoiefaaGreatDoorMg2
import Derived.Test.YtinbmhbfcoiefaaGreatDoorMg3
section
/- Merged of: V21 V22 V23 V24. A contract of this engine as one of the kit's; what a round over a function keeps. No program in sight. -/
/-! A contract of this engine as one of the kit's; what a round over a function keeps. No program in sight. -/
namespace Go.E
open Go Go.RowKit
set_option linter.unusedVariables false
end Go.E
/-! A round's body, walked as any code, in a round's frame. No program in sight. -/
namespace Go.E
open Go Go.RowKit
set_option linter.unusedVariables false
set_option linter.unusedSimpArgs false
def noDef (o : Oper) : Bool := match o.op with
  | .defer _ => false
  | _ => true
theorem noDef_spec {o : Oper} (h : noDef o = true) : ∀ c, o.op ≠ .defer c := fun c e => by unfold noDef at h; rw [e] at h; cases h
section
variable {P : Program} {Q : Exit → Act → World → Prop}
theorem LetsOut_no (hQ : ∀ a w, ¬ Q .outgrown a w) : ¬ LetsOut Q := fun ⟨a, w, h⟩ => hQ a w h
theorem upon_inRound (l n : Nat) (hQ : ∀ a w, ¬ Q .outgrown a w) {o : Oper} {a : Act} {next next' : Act → World → Prop} (hn : ∀ a w, next a w → next' a w) : ∀ {r : Result Next}, o.upon P a next Q r → o.uponIn (Fence.wide.inRound l) n P a next' Q r := by
  intro r h
  cases r with
  | ok x w =>
    cases x <;> simp only [Oper.upon] at h <;> try exact h.elim
    all_goals simp only [Oper.uponIn]
    all_goals first
      | exact hn _ _ h
      | exact ⟨fun e => by simp [Fence.wide] at e, CallsIn.inRound l (callsIn_wide.2 (h.mono fun e w' he => by cases e <;> first | exact hn _ _ he | exact he))⟩
      | exact ⟨fun e => by simp [Fence.wide] at e, fun c cs _ => by
          obtain ⟨v, w', r, s⟩ := h c cs
          exact ⟨v, w', hn _ _ r, stepsIn_wide.2 s⟩⟩
  | halt x w => cases x <;> simp only [Oper.upon, Oper.uponIn] at h ⊢ <;> exact h
theorem wpList_inRound (l n : Nat) {all : Array Oper} (hQ : ∀ a w, ¬ Q .outgrown a w) : ∀ {ops : List Oper}, ops.all noDef = true → ∀ {a : Act} {w : World}, wpList P all Q ops a w → wpListIn (Fence.wide.inRound l) n P all Q ops a w
  | [], _, a, w, h => h
  | o :: ops, hd, a, w, h => by
    simp only [List.all_cons, Bool.and_eq_true] at hd
    unfold wpList at h
    unfold wpListIn
    split
    · rename_i hw
      rw [if_pos hw] at h
      rcases h with h | ⟨_, h⟩
      · refine ⟨fun f _ => trivial, ?_⟩
        rw [Oper.semAt_eq _ _ _ (noDef_spec hd.1)]
        exact upon_inRound l n hQ (fun a w h => wpList_inRound l n hQ hd.2 h) h
      · exact absurd h (LetsOut_no hQ)
    · rename_i hw
      rw [if_neg hw] at h
      exact ⟨fun f _ => trivial, wpList_inRound l n hQ hd.2 h⟩
/-- What may stand in a round's body here. -/
def okR : Code → Bool
  | .skip => true
  | .region _ ops draw => ops.toList.all noDef && !draw
  | .seq a b => okR a && okR b
  | .cond _ a b => okR a && okR b
  | .block _ a => okR a
  | .exit _ => true
  | .ret => true
  | _ => false
/-- The same as CodeOk, in a round's frame. -/
structure CodeR (P : Program) (c : Code) (k : Exit → Kt) (env : Env) (ro : Ro) (own : Chs) : Prop where
  run : ∀ l m n σ Q, (∀ a w, ¬ Q .outgrown a w) → okS n.size c = true → okR c = true → (∀ e env' ro' own' h, Le ro ro' → k e env' ro' own' → Sat ro' own' h → N n σ (Q e) env' h) → ∀ h, Sat ro own h → ∀ a w, Fits n env a → Hp h σ w → c.wpIn (Fence.wide.inRound l) m P Q a w
theorem V_soundR {T : TT} (hT : TOk P T) : ∀ {c : Code} {k : Exit → Kt} {env : Env} {ro : Ro} {own : Chs}, V P T c k env ro own → CodeR P c k env ro own
  | .skip, k, env, ro, own, hv => ⟨fun l m n σ Q hQ hok hR hk h hs a w hf hw => wpIn_skip (hk .normal env ro own h (Le.refl _) hv hs a w hf hw)⟩
  | .region id ops draw, k, env, ro, own, hv => by
    refine ⟨fun l m n σ Q hQ hok hR hk h hs a w hf hw => ?_⟩
    simp only [okR, Bool.and_eq_true, Bool.not_eq_true'] at hR
    obtain ⟨hR, rfl⟩ := hR
    obtain ⟨ol⟩ := ops
    exact wpIn_region_lit (wpList_inRound l m hQ hR (vOps_sound hT hok hv (fun env' ro' own' h' _ hl hk' hs' => hk .normal env' ro' own' h' hl hk' hs') hs a w hf hw))
  | .seq a b, k, env, ro, own, hv => by
    refine ⟨fun l m n σ Q hQ hok hR hk h hs ac w hf hw => ?_⟩
    simp only [okS, okR, Bool.and_eq_true] at hok hR
    have hb : ∀ env' ro' own' h', Le ro ro' → V P T b k env' ro' own' → Sat ro' own' h' → N n σ (b.wpIn (Fence.wide.inRound l) m P Q) env' h' := fun env' ro' own' h' hl hv' hs' a2 w2 hf2 hw2 =>
      (V_soundR hT hv').run l m n σ Q hQ hok.2 hR.2 (fun e env2 ro2 own2 h2 hl2 hk2 hs2 => hk e env2 ro2 own2 h2 (hl.trans hl2) hk2 hs2) h' hs' a2 w2 hf2 hw2
    have ha : ∀ J : Kt, V P T a (fun e => match e with | .normal => J | e => k e) env ro own → (∀ env' ro' own' h', Le ro ro' → J env' ro' own' → Sat ro' own' h' → N n σ (b.wpIn (Fence.wide.inRound l) m P Q) env' h') → (Code.seq a b).wpIn (Fence.wide.inRound l) m P Q ac w := fun J hv' hJ =>
      wpIn_seq ((V_soundR hT hv').run l m n σ (Exit.then (b.wpIn (Fence.wide.inRound l) m P Q) Q) (fun a w h => hQ a w h) hok.1 hR.1 (fun e env2 ro2 own2 h2 hl2 hk2 hs2 => by
        cases e <;> first | exact hJ env2 ro2 own2 h2 hl2 hk2 hs2 | exact hk _ env2 ro2 own2 h2 hl2 hk2 hs2) h hs ac w hf hw)
    replace hv : vSeq a (V P T a) (V P T b) k env ro own := hv
    unfold vSeq at hv
    cases hj : joins a <;> simp only [hj] at hv
    rotate_left
    · rcases hv.run with h1 | ⟨E, O, I, h1, h2⟩
      · exact ha _ h1 hb
      · exact ha _ h1 (fun env' ro' own' h' hl hw' hs' => hw'.sound hl (fun env2 ro2 own2 h2' hl2 hl3 ⟨i, hI, hsub, hsup⟩ hs2 => N.sub2 hsub.to2 (hb _ ro2 _ h2' hl2 (h2 i ro2 hl2 hI) (hs2.sup hsup))) hs')
    · exact ha _ hv hb
  | .cond c a b, k, env, ro, own, hv => by
    refine ⟨fun l m n σ Q hQ hok hR hk h hs ac w hf hw => ?_⟩
    simp only [okS, okR, Bool.and_eq_true] at hok hR
    replace hv : vCond c (V P T a) (V P T b) k env ro own := hv
    unfold vCond at hv
    split at hv
    · rename_i v hx
      obtain ⟨h1, h2⟩ := hv.run
      have hev : ac.eval c = .bool v := hf.agree _ _ hx
      cases v with
      | true => exact wpIn_cond_true hev ((V_soundR hT (h1 rfl)).run l m n σ Q hQ hok.1 hR.1 hk h hs ac w hf hw)
      | false => exact wpIn_cond_false hev ((V_soundR hT (h2 rfl)).run l m n σ Q hQ hok.2 hR.2 hk h hs ac w hf hw)
    · exact hv.elim
  | .block id a, k, env, ro, own, hv => by
    refine ⟨fun l m n σ Q hQ hok hR hk h hs ac w hf hw => ?_⟩
    replace hv : vBlock id (V P T a) k env ro own := hv
    unfold vBlock at hv
    refine wpIn_block ((V_soundR hT hv).run l m n σ (Exit.inBlock id Q) (fun a w h => hQ a w h) hok hR (fun e env2 ro2 own2 h2 hl2 hk2 hs2 => ?_) h hs ac w hf hw)
    cases e with
    | exit j =>
      cases hj : Nat.beq j id with
      | true =>
        have := Nat.eq_of_beq_eq_true hj
        subst this
        simp only [hj, cond_true] at hk2
        exact N.block_same (hk _ env2 ro2 own2 h2 hl2 hk2 hs2)
      | false =>
        simp only [hj, cond_false] at hk2
        exact N.block_other hj (hk _ env2 ro2 own2 h2 hl2 hk2 hs2)
    | _ => exact hk _ env2 ro2 own2 h2 hl2 hk2 hs2
  | .exit id, k, env, ro, own, hv => ⟨fun l m n σ Q hQ hok hR hk h hs a w hf hw => wpIn_exit (hk _ env ro own h (Le.refl _) hv hs a w hf hw)⟩
  | .ret, k, env, ro, own, hv => ⟨fun l m n σ Q hQ hok hR hk h hs a w hf hw => wpIn_ret (hk _ env ro own h (Le.refl _) hv hs a w hf hw)⟩
  | .loop _, _, _, _, _, _ => ⟨fun l m n σ Q hQ hok hR => by cases hR⟩
  | .label _, _, _, _, _, _ => ⟨fun l m n σ Q hQ hok hR => by cases hR⟩
  | .rangeFunc .., _, _, _, _, _ => ⟨fun l m n σ Q hQ hok hR => by cases hR⟩
  | .scope _, _, _, _, _, _ => ⟨fun l m n σ Q hQ hok hR => by cases hR⟩
  | .goto _, _, _, _, _, _ => ⟨fun l m n σ Q hQ hok hR => by cases hR⟩
  | .refuse _, _, _, _, _, _ => ⟨fun l m n σ Q hQ hok hR => by cases hR⟩
/-- The same as CodeR, of code that may have regions that draw. -/
structure CodeRR (P : Program) (c : Code) (k : Exit → Kt) (env : Env) (ro : Ro) (own : Chs) : Prop where
  run : ∀ l m n σ Q, (∀ a w, ¬ Q .outgrown a w) → okS n.size c = true → (∀ e env' ro' own' h, Le ro ro' → k e env' ro' own' → Sat ro' own' h → N n σ (Q e) env' h) → ∀ h, Sat ro own h → ∀ a w, Fits n env a → Hp h σ w → c.wpIn (Fence.wide.inRound l) m P Q a w
theorem CodeRR.block {id : Nat} {a : Code} {k : Exit → Kt} {env : Env} {ro : Ro} {own : Chs} (h : CodeRR P a (fun e => match e with
  | .exit j => bif Nat.beq j id then k .normal else k (.exit j)
  | e => k e) env ro own) : CodeRR P (.block id a) k env ro own :=
  ⟨fun l m n σ Q hQ hok hk g hs ac w hf hw => by
    refine wpIn_block (h.run l m n σ (Exit.inBlock id Q) (fun a w h => hQ a w h) hok (fun e env2 ro2 own2 h2 hl2 hk2 hs2 => ?_) g hs ac w hf hw)
    cases e with
    | exit j =>
      cases hj : Nat.beq j id with
      | true =>
        have := Nat.eq_of_beq_eq_true hj
        subst this
        simp only [hj, cond_true] at hk2
        exact N.block_same (hk _ env2 ro2 own2 h2 hl2 hk2 hs2)
      | false =>
        simp only [hj, cond_false] at hk2
        exact N.block_other hj (hk _ env2 ro2 own2 h2 hl2 hk2 hs2)
    | _ => exact hk _ env2 ro2 own2 h2 hl2 hk2 hs2⟩
theorem wpOp_inRound (l n : Nat) {all : Array Oper} (hd : ∀ (i : Nat) (o : Oper), all[i]? = some o → noDef o = true) (hQ : ∀ a w, ¬ Q .outgrown a w) {i : Nat} {K K' : Act → World → Prop} (hK : ∀ a w, K a w → K' a w) {a : Act} {w : World} (h : wpOp P all Q i K a w) : wpOpIn (Fence.wide.inRound l) n P all Q i K' a w := by
  unfold wpOp at h
  unfold wpOpIn
  cases ho : all[i]? with
  | none => rw [ho] at h; exact hK _ _ h
  | some o =>
    rw [ho] at h
    dsimp only at h ⊢
    split
    · rename_i hw
      rw [if_pos hw] at h
      rcases h with h | ⟨_, h⟩
      · refine ⟨fun f _ => trivial, ?_⟩
        rw [Oper.semAt_eq _ _ _ (noDef_spec (hd i o ho))]
        exact upon_inRound l n hQ hK h
      · exact absurd h (LetsOut_no hQ)
    · rename_i hw
      rw [if_neg hw] at h
      exact ⟨fun f _ => trivial, hK _ _ h⟩
theorem wpAny_inRound (l n : Nat) {all : Array Oper} (hd : ∀ (i : Nat) (o : Oper), all[i]? = some o → noDef o = true) (hQ : ∀ a w, ¬ Q .outgrown a w) {md : Region.Mode} : ∀ (fuel : Nat) (listed : Array Bool) (a : Act) (w : World), wpAny P md all Q fuel listed a w → wpAnyIn (Fence.wide.inRound l) n P md all Q fuel listed a w
  | 0, _, _, _, h => h
  | fuel + 1, listed, a, w, h => ⟨h.1, fun i hi => wpOp_inRound l n hd hQ (fun a w h => wpAny_inRound l n hd hQ fuel _ a w h) (h.2 i hi)⟩
/-- A region that draws its order, in a round. -/
theorem CodeRR.drawn {T : TT} {id : Nat} {l : List Oper} {k : Exit → Kt} {env : Env} {ro : Ro} {own : Chs} [hT : TTab P T] {plan : List Tk} (hnf : NfT (planOf l) plan) (hm : P.follows .mixedOrders = true) (hns : Region.noSelect l.toArray = true) (hd : l.all noDef = true) (hlen : Nat.beq plan.length l.length = true) (hp : planOk l.toArray plan (Array.replicate l.length false) = true)
    (hv : nextB plan (vH P T l plan []) (k .normal) env ro own) : CodeRR P (.region id l.toArray true) k env ro own :=
  ⟨fun l0 m n σ Q hQ hok hk h hs a w hf hw => wpIn_mono (wpIn_region_any (Q := fun e a w => match e with | .panic _ => False | e => Q e a w) hm (by
      have hl : plan.length = l.length := Nat.eq_of_beq_eq_true hlen
      obtain ⟨B, hB, hv⟩ := hv.spec
      have := wpU.any _ _ _ _ (vH_sound (σ := σ) (w := { w with drawn := w.drawn + 1 }) (Q := fun e a w => match e with | .panic _ => False | e => Q e a w) hT.ok hns (by simpa [okS] using hok) (fun c a w h => h) hB (fun j o _ hd => by simp [Array.getD] at hd) hp hv (fun env' ro' own' h' hl' hk' hs' => hk .normal env' ro' own' h' hl' hk' hs') hf (by rw [hw.heap]; exact hs) ⟨rfl, hw.os, hw.tape, hw.output⟩)
      rw [hl] at this
      have hd2 : ∀ (i : Nat) (o : Oper), l.toArray[i]? = some o → noDef o = true := fun i o ho => List.all_eq_true.1 hd o (List.mem_of_getElem? (i := i) (by simpa using ho))
      refine wpAny_inRound (Q := fun e a w => match e with | .panic _ => False | e => Q e a w) l0 m hd2 (fun a w h => hQ a w h) _ _ _ _ ?_
      simpa using this)) (fun e a w hq => by cases e <;> first | exact hq | exact hq.elim)⟩
end
end Go.E
/-! A range over a function: the iterator's contract, the rule, and functions that have such a range. No program in sight. -/
namespace Go.E
open Go Go.RowKit
set_option linter.unusedVariables false
set_option linter.unusedSimpArgs false
/-- All that lies there, but what is one's own. -/
def fullR (h : Heap) (own : Chs) : Ro := fun b => if b ∈ own.flatMap Chunk.fp then none else h[b]?
theorem fullR_own {h : Heap} {own : Chs} {c : Chunk} (hc : c ∈ own) {b : Nat} (hb : b ∈ c.fp) : fullR h own b = none := if_pos (List.mem_flatMap.2 ⟨c, hc, hb⟩)
theorem fullR_other {h : Heap} {own : Chs} {b : Nat} (hb : ∀ c ∈ own, b ∉ c.fp) : fullR h own b = h[b]? := if_neg (fun e => by obtain ⟨c, hc, hbc⟩ := List.mem_flatMap.1 e; exact hb c hc hbc)
theorem Sat.full {ro : Ro} {own : Chs} {h : Heap} (hs : Sat ro own h) : Sat (fullR h own) own h :=
  ⟨fun b o hb => by
    by_cases hm : b ∈ own.flatMap Chunk.fp
    · rw [fullR, if_pos hm] at hb; cases hb
    · rwa [fullR, if_neg hm] at hb, hs.parts, hs.nd, fun c hc b hb => fullR_own hc hb⟩
theorem Sat.leFull {ro : Ro} {own : Chs} {h : Heap} (hs : Sat ro own h) : Le ro (fullR h own) := ⟨fun b o hb => by
  rw [fullR_other (fun c hc hbc => by rw [hs.ap c hc b hbc] at hb; cases hb)]
  exact hs.last b o hb⟩
theorem Sat.less {ro ro' : Ro} {own : Chs} {h : Heap} (hs : Sat ro' own h) (hl : Le ro ro') : Sat ro own h :=
  ⟨fun b o hb => hs.last b o (hl.le b o hb), hs.parts, hs.nd, fun c hc b hb => by
    cases hr : ro b with
    | none => rfl
    | some o => have := hl.le b o hr; rw [hs.ap c hc b hb] at this; cases this⟩
/-- What neither lasts nor is one's own may change. -/
theorem Sat.out {ro : Ro} {own : Chs} {h h' : Heap} (hs : Sat ro own h) {L : Nat} (hL : ro L = none) (hL2 : ∀ c ∈ own, L ∉ c.fp) (hk : ∀ b, b ≠ L → h'[b]? = h[b]?) : Sat ro own h' :=
  ⟨fun b o hb => by
    rw [hk b (fun e => by subst e; rw [hL] at hb; cases hb)]
    exact hs.last b o hb, fun c hc => (hs.parts c hc).congr (fun b hb => hk b (fun e => by subst e; exact hL2 c hc hb)), hs.nd, hs.ap⟩
theorem Sat.up {ro ro' : Ro} {own : Chs} {h : Heap} (hs : Sat ro own h) (h1 : ∀ b o, ro' b = some o → h[b]? = some o) (h2 : ∀ b o, ro' b = some o → ro b = some o ∨ ∀ c ∈ own, b ∉ c.fp) : Sat ro' own h :=
  ⟨h1, hs.parts, hs.nd, fun c hc b hb => by
    cases hr : ro' b with
    | none => rfl
    | some o =>
      rcases h2 b o hr with h | h
      · rw [hs.ap c hc b hb] at h; cases h
      · exact absurd hb (h c hc)⟩
/-- A function that yields the values xs, one by one, each told as encs x; behind a round that says 'no more' it returns. -/
structure IterOk {α : Type} (P : Program) (f : FuncId) (bs : Array Value) (encs : α → Array Value) (xs : List α) : Prop where
  run : ∀ (l : Nat) (J : Ro → List α → World → Prop) (Jx : World → Prop) (ρ : Ro) (W : World),
    (∀ ρ pre W, J ρ pre W → ∀ b o, ρ b = some o → W.heap[b]? = some o) →
    (∀ ρ ρ' pre W W', J ρ pre W → Le ρ ρ' → (∀ b o, ρ' b = some o → ρ b = some o ∨ W.heap.size ≤ b) → (∀ b, b < W.heap.size → W'.heap[b]? = W.heap[b]?) → (∀ b o, ρ' b = some o → W'.heap[b]? = some o) → Hp W'.heap W W' → J ρ' pre W') →
    (∀ ρ pre x rest W, xs = pre ++ x :: rest → J ρ pre W → YieldAt Fence.wide 0 P l (encs x) W fun e W' => (e = .returned (.bool true) ∧ J ρ (pre ++ [x]) W') ∨ (e = .returned (.bool false) ∧ Jx W')) →
    (∀ W W', Jx W → W'.heap = W.heap → Hp W'.heap W W' → Jx W') →
    (∀ ρ pre W', J ρ pre W' → Hp W'.heap W W') → (∀ W', Jx W' → Hp W'.heap W W') →
    J ρ [] W →
    CallsIn Fence.wide 0 P f (bs ++ #[.func (.yield l) #[] #[]]) W fun e W' => ∃ v, e = .returned v ∧ ((∃ ρ', J ρ' xs W') ∨ Jx W')
/-- The parameters of a round, told. -/
def parEnv (env : Env) : List Nat → List Value → Env
  | p :: ps, v :: vs => parEnv ((p, v) :: env) ps vs
  | _, _ => env
theorem Fits.pars {n : Fr} : ∀ {ps : List Nat} {vs : List Value} {env : Env} {t : Array Value}, ps.all (fun p => Nat.blt p n.size) = true → Fits n env ⟨t, n.D⟩ → Fits n (parEnv env ps vs) ⟨(ps.zip vs).foldl (fun t (p, v) => t.setIfInBounds p v) t, n.D⟩
  | [], _, env, t, _, h => h
  | _ :: _, [], env, t, _, h => h
  | p :: ps, v :: vs, env, t, hp, h => by
    simp only [List.all_cons, Bool.and_eq_true] at hp
    have := h.put (d := p) hp.1 v
    exact Fits.pars (ps := ps) (vs := vs) (env := (p, v) :: env) (t := t.setIfInBounds p v) hp.2 this
/-- What is to hold where a round ends. -/
def rndK {ι κ : Type} (O : ι → Chs) (A : ι → Prop) (Ox : κ → Chs) (Ix : Exit → κ → Prop) : Exit → Kt
  | .normal => Wk fun _ _ own => ∃ i, A i ∧ Sup own (O i)
  | .ret => Wk fun _ _ own => ∃ j, Ix .ret j ∧ Sup own (Ox j)
  | .exit id => Wk fun _ _ own => ∃ j, Ix (.exit id) j ∧ Sup own (Ox j)
  | _ => fun _ _ _ => False
/-- The left sides of a round get their values. -/
def asgK (env1 : Env) (own1 : Chs) : Exit → Kt
  | .normal => fun env _ own => Sub env1 env ∧ Sup own own1
  | _ => fun _ _ _ => False
def jumpOf : Exit → Option Code
  | .ret => some .ret
  | .exit id => some (.exit id)
  | _ => none
section
variable {P : Program} {T : TT} {env : Env} {ro : Ro} {own : Chs}
theorem hp_put {w σ : World} {h : Heap} (L : Nat) (o : Obj) (hw : Hp h σ w) : Hp (w.putObj L o).heap σ (w.putObj L o) := ⟨rfl, hw.os, hw.tape, hw.output⟩
theorem hp_heap {w σ : World} {h : Heap} (hw : Hp h σ w) : Hp w.heap σ w := ⟨rfl, hw.os, hw.tape, hw.output⟩
theorem rec_off {L : Nat} {o : Obj} {own own' : Chs} {h h' : Heap} (hs : Sat (fullR h own) own' h') (hL : h[L]? = some o) (hL2 : ∀ c ∈ own, L ∉ c.fp) : h'[L]? = some o ∧ ∀ c ∈ own', L ∉ c.fp := by
  have e : fullR h own L = some o := (fullR_other hL2).trans hL
  refine ⟨hs.last L o e, fun c hc hb => ?_⟩
  have := hs.ap c hc L hb
  rw [e] at this; cases this
/-- **A range over a function.** -/
theorem CodeOk.rangeFuncR {α : Type} [hT : TTab P T] {g : Operand} {ps : List Nat} {assign body : Code} {k : Exit → Kt} {f : FuncId} {bs : List Value} {encs : α → List Value} {xs : List α}
    (hg : ev env g = some (.func (.func f) bs.toArray #[])) (enter : ∀ args w, (callFunc f args).run P w = .ok (.enter f args) w)
    (hit : IterOk P f bs.toArray (fun x => (encs x).toArray) xs) (hps : ∀ x, (encs x).length = ps.length) (hR : okR assign = true)
    {ι κ : Type} (O : ι → Chs) (I : List α → ι → Prop) (Ox : κ → Chs) (Ix : Exit → κ → Prop) (env1 : α → Env) (i0 : ι) (hI : I [] i0) (ho : Sup own (O i0))
    (asg : ∀ x own' ro', Le ro ro' → V P T assign (asgK (env1 x) own') (parEnv env ps (encs x)) ro' own')
    (round : ∀ pre x rest i ro', Le ro ro' → xs = pre ++ x :: rest → I pre i → CodeRR P body (rndK O (I (pre ++ [x])) Ox Ix) (env1 x) ro' (O i))
    (done : ∀ i ro', Le ro ro' → I xs i → k .normal env ro' (O i))
    (stop : ∀ e j ro', Le ro ro' → Ix e j → k e env ro' (Ox j)) : CodeOk P (.rangeFunc g ps.toArray assign body) k env ro own := by
  refine ⟨fun n σ Q hok hk h hs a w hf hw => ?_⟩
  simp only [okS, Bool.and_eq_true] at hok
  obtain ⟨⟨hok1, hok2⟩, hok3⟩ := hok
  have hwh := hw.heap
  subst hwh
  refine (wpIn_wide (n := 0)).1 (wpIn_rangeFunc fun fn _ => ?_)
  obtain ⟨rec, hrec⟩ : ∃ rec : LoopState → Option Code → Loop, rec = fun st pe => { state := st, pending := pe, fn, tmps := a.tmps, params := ps.toArray, assign, body, defers := w.heap.size } := ⟨_, rfl⟩
  obtain ⟨W1, hW1⟩ : ∃ W1, (w.alloc (.deferred (some []))).alloc (.loop (rec .ready none)) = W1 := ⟨_, rfl⟩
  obtain ⟨L, hLe⟩ : ∃ L, w.heap.size + 1 = L := ⟨_, rfl⟩
  have hsz1 : W1.heap.size = w.heap.size + 2 := by rw [← hW1]; simp
  have hL1 : W1.heap[L]? = some (.loop (rec .ready none)) := by
    rw [← hW1, ← hLe]; have := World.alloc_heap_new (w.alloc (.deferred (some []))) (.loop (rec .ready none)); rwa [World.size_alloc] at this
  have hK1 : W1.heap[w.heap.size]? = some (.deferred (some [])) := by
    rw [← hW1]; exact (Below.heap_alloc _ _ _ (by simp)).trans (World.alloc_heap_new w _)
  have hlow : ∀ b, b < w.heap.size → W1.heap[b]? = w.heap[b]? := fun b hb => by
    rw [← hW1]; exact (Below.heap_alloc _ _ _ (by simp; omega)).trans (Below.heap_alloc _ _ _ hb)
  have hHp1 : Hp W1.heap σ W1 := by rw [← hW1]; exact ⟨rfl, hw.os, hw.tape, hw.output⟩
  have hroD : ro w.heap.size = none := by
    cases hr : ro w.heap.size with
    | none => rfl
    | some o => have := (Array.getElem?_eq_some_iff.1 (hs.last _ _ hr)).1; omega
  have hroL : ro L = none := by
    cases hr : ro L with
    | none => rfl
    | some o => have := (Array.getElem?_eq_some_iff.1 (hs.last _ _ hr)).1; omega
  obtain ⟨ro1, hro1⟩ : ∃ ro1 : Ro, ro1 = fun b => if b = w.heap.size then some (.deferred (some [])) else ro b := ⟨_, rfl⟩
  have hv1 : ∀ b, ro1 b = if b = w.heap.size then some (.deferred (some [])) else ro b := fun b => by rw [hro1]
  have hle1 : Le ro ro1 := ⟨fun b o hb => by
    rw [hv1, if_neg (fun e => by subst e; rw [hroD] at hb; cases hb)]
    exact hb⟩
  have hro1D : ro1 w.heap.size = some (.deferred (some [])) := by rw [hv1]; exact if_pos rfl
  have hro1L : ro1 L = none := by
    rw [hv1, if_neg (by omega)]; exact hroL
  have hmk : Mk (rf (.rangeFunc g ps.toArray assign body)) n.D (markOf w.heap.size :: n.D) ro ro1 := ⟨fun e => by simp [rf] at e, [w.heap.size], rfl, by simp, fun b hb => by
    simp only [List.mem_singleton] at hb; subst hb; exact ⟨hroD, hro1D⟩⟩
  have hs1 : Sat ro1 (O i0) W1.heap := by
    have h0 : Sat ro (O i0) W1.heap := (hs.keep hlow).sup ho
    have h00 : Sat ro (O i0) w.heap := hs.sup ho
    refine h0.up (fun b o hb => ?_) (fun b o hb => ?_)
    · rw [hv1] at hb
      by_cases e : b = w.heap.size
      · subst e; rw [if_pos rfl] at hb; cases hb; exact hK1
      · rw [if_neg e] at hb; exact h0.last b o hb
    · rw [hv1] at hb
      by_cases e : b = w.heap.size
      · subst e
        exact .inr (fun c hc hbc => by have := (h00.parts c hc).lt _ hbc; omega)
      · rw [if_neg e] at hb; exact .inl hb
  have hL10 : ∀ c ∈ O i0, L ∉ c.fp := fun c hc hbc => by
    have := ((hs.sup ho).parts c hc).lt _ hbc; omega
  have hfm : ∀ {W : World} {h' : Heap}, Hp h' σ W → Fits ⟨n.size, markOf w.heap.size :: n.D⟩ env { a with defers := [{ target := .collected w.heap.size, args := #[] }] ++ a.defers } := fun _ => ⟨by simp [hf.defers, markOf], hf.size, hf.get⟩
  refine ⟨L, [{ target := .collected w.heap.size, args := #[] }], W1, { target := .fn (.func f) #[], args := bs.toArray ++ #[.func (.yield L) #[] #[]] }, W1, f, bs.toArray ++ #[.func (.yield L) #[] #[]], W1, ?_, ?_, fun _ _ => trivial, ?_, fun e => by simp [Fence.wide] at e, ?_⟩
  · rw [← hW1, hrec, ← hLe]; exact run_enterLoop_outer _ _ _ _ _
  · have := hf.agree _ _ hg
    simp only [resolve, this]
    simp [Deferred.ofValue, Act.eval, go_sem]
  · simp [invoke, go_sem, enter]
  · refine (hit.run L (fun ρ pre W => ∃ i, I pre i ∧ Sat ρ (O i) W.heap ∧ Le ro1 ρ ∧ W.heap[L]? = some (.loop (rec .ready none)) ∧ ρ L = none ∧ (∀ c ∈ O i, L ∉ c.fp) ∧ Hp W.heap σ W)
      (fun W => ∃ e c j, jumpOf e = some c ∧ Ix e j ∧ Sat ro1 (Ox j) W.heap ∧ W.heap[L]? = some (.loop (rec .done (some c))) ∧ (∀ c ∈ Ox j, L ∉ c.fp) ∧ Hp W.heap σ W) ro1 W1 ?_ ?_ ?_ ?_ ?_ ?_ ⟨i0, hI, hs1, Le.refl _, hL1, hro1L, hL10, hHp1⟩).mono ?_
    · rintro ρ pre W ⟨i, _, h2, _⟩ b o hb
      exact h2.last b o hb
    · rintro ρ ρ' pre W W' ⟨i, h1, h2, h3, h4, h5, h6, h7⟩ hl hn hkp hlast hh
      have hLlt : L < W.heap.size := (Array.getElem?_eq_some_iff.1 h4).1
      refine ⟨i, h1, (h2.keep hkp).up hlast (fun b o hb => ?_), h3.trans hl, (hkp L hLlt).trans h4, ?_, h6, h7.trans hh⟩
      · rcases hn b o hb with h | h
        · exact .inl h
        · exact .inr (fun c hc hbc => by have := (h2.parts c hc).lt _ hbc; omega)
      · cases hr : ρ' L with
        | none => rfl
        | some o =>
          rcases hn L o hr with h | h
          · rw [h5] at h; cases h
          · omega
    · rintro ρ pre x rest W hx ⟨i, h1, h2, h3, h4, h5, h6, h7⟩
      have hy := run_yield (P := P) (args := (encs x).toArray) h4 (by rw [hrec]; simpa using hps x)
      rw [hrec] at hy
      refine ⟨fn, _, assign, body, hy, roundIn_of_wpIn trivial ?_⟩
      have hf0 : Fits ⟨n.size, []⟩ (parEnv env ps (encs x)) { tmps := (ps.toArray.zip (encs x).toArray).foldl (fun t (p, v) => t.setIfInBounds p v) a.tmps, defers := [] } := by
        have := Fits.pars (n := ⟨n.size, []⟩) (ps := ps) (vs := encs x) (env := env) (t := a.tmps) (by simpa using hok1) ⟨rfl, hf.size, hf.get⟩
        simpa using this
      refine (V_soundR hT.ok (asg x (O i) (fullR W.heap (O i)) ((hle1.trans h3).trans h2.leFull))).run L 0 ⟨n.size, []⟩ σ _ (fun _ _ h => h) hok2 hR (fun e env' ro' own' h' hl hk' hs' => ?_) W.heap h2.full _ W hf0 h7
      cases e <;> first | exact hk'.elim | skip
      intro a1 w1 hf1 hw1
      have hw1h := hw1.heap
      subst hw1h
      have hs2 : Sat (fullR W.heap (O i)) (O i) w1.heap := (hs'.sup hk'.2).less hl
      have hL2 := (rec_off hs2 h4 h6).1
      have hlt : L < w1.heap.size := (Array.getElem?_eq_some_iff.1 hL2).1
      refine ⟨_, run_beginRound hL2 (by rw [hrec]), ?_⟩
      have hL3 : (w1.putObj L (.loop { rec .ready none with state := .busy })).heap[L]? = some (.loop { rec .ready none with state := .busy }) := World.putObj_heap_same hlt
      have hs3 : Sat ρ (O i) (w1.putObj L (.loop { rec .ready none with state := .busy })).heap := (hs2.less h2.leFull).out h5 h6 (fun b hb => World.putObj_heap_other hb)
      generalize hW2 : w1.putObj L (.loop { rec .ready none with state := .busy }) = W2 at hL3 hs3 ⊢
      have hH2 : Hp W2.heap σ W2 := by rw [← hW2]; exact hp_put _ _ hw1
      have hro : Le ro (fullR W2.heap (O i)) := (hle1.trans h3).trans hs3.leFull
      refine (round pre x rest i (fullR W2.heap (O i)) hro hx h1).run L 0 ⟨n.size, []⟩ σ _ (fun _ _ h => h) hok3 (fun e env' ro' own' h' hl hk' hs' => ?_) W2.heap hs3.full _ W2 (hf1.sub hk'.1) hH2
      have fin : ∀ (jump : Option Code) (w3 : World) (own3 : Chs), Hp w3.heap σ w3 → Sat (fullR W2.heap (O i)) own3 w3.heap →
          ∃ w4, (Instr.endRound L jump).run P w3 = .ok (.bool jump.isNone) w4 ∧ Hp w4.heap σ w4 ∧ Sat ρ own3 w4.heap ∧ w4.heap[L]? = some (.loop (rec (if jump.isNone then .ready else .done) jump)) ∧ (∀ c ∈ own3, L ∉ c.fp) := fun jump w3 own3 hh hsat => by
        obtain ⟨q1, q2⟩ := rec_off hsat hL3 h6
        have hr := run_endRound (P := P) jump q1
        have hlt3 : L < w3.heap.size := (Array.getElem?_eq_some_iff.1 q1).1
        refine ⟨_, hr, hp_put _ _ hh, (hsat.less hs3.leFull).out h5 q2 (fun b hb => World.putObj_heap_other hb), ?_, q2⟩
        rw [World.putObj_heap_same hlt3, hrec]
      cases e with
      | normal =>
        obtain ⟨e1, ro2, own2, k1, k2, k3, i', k4, k5⟩ := hk'.get h' hs'
        intro a3 w3 hf3 hw3
        have hw3h := hw3.heap
        subst hw3h
        obtain ⟨w4, r1, r2, r3, r4, r5⟩ := fin none w3 (O i') (hp_heap hw3) ((k3.sup k5).less (hl.trans k2))
        exact ⟨_, w4, r1, .inl ⟨rfl, i', k4, r3, h3, r4, h5, r5, r2⟩⟩
      | ret =>
        obtain ⟨e1, ro2, own2, k1, k2, k3, i', k4, k5⟩ := hk'.get h' hs'
        intro a3 w3 hf3 hw3
        have hw3h := hw3.heap
        subst hw3h
        obtain ⟨w4, r1, r2, r3, r4, r5⟩ := fin (some .ret) w3 (Ox i') (hp_heap hw3) ((k3.sup k5).less (hl.trans k2))
        exact ⟨_, w4, r1, .inr ⟨rfl, .ret, _, i', rfl, k4, r3.less h3, r4, r5, r2⟩⟩
      | exit id =>
        obtain ⟨e1, ro2, own2, k1, k2, k3, i', k4, k5⟩ := hk'.get h' hs'
        intro a3 w3 hf3 hw3
        have hw3h := hw3.heap
        subst hw3h
        obtain ⟨w4, r1, r2, r3, r4, r5⟩ := fin (some (.exit id)) w3 (Ox i') (hp_heap hw3) ((k3.sup k5).less (hl.trans k2))
        exact ⟨_, w4, r1, .inr ⟨rfl, .exit id, _, i', rfl, k4, r3.less h3, r4, r5, r2⟩⟩
      | goto t => exact hk'.elim
      | panic c => exact hk'.elim
      | outgrown => exact hk'.elim
    · rintro W W' ⟨e, c, j, h1, h2, h3, h4, h5, h6⟩ hh hp
      exact ⟨e, c, j, h1, h2, by rw [hh]; exact h3, by rw [hh]; exact h4, h5, h6.trans hp⟩
    · rintro ρ pre W' ⟨i, h1, h2, h3, h4, h5, h6, h7⟩
      exact ⟨rfl, h7.os.trans hHp1.os.symm, h7.tape.trans hHp1.tape.symm, h7.output.trans hHp1.output.symm⟩
    · rintro W' ⟨e, c, j, h1, h2, h3, h4, h5, h7⟩
      exact ⟨rfl, h7.os.trans hHp1.os.symm, h7.tape.trans hHp1.tape.symm, h7.output.trans hHp1.output.symm⟩
    · rintro e W2 ⟨v, rfl, (⟨ρ', i, h1, h2, h3, h4, h5, h6, h7⟩ | ⟨e, c, j, h1, h2, h3, h4, h5, h6⟩)⟩
      · refine ⟨none, _, by have := run_endLoop (P := P) h4 (by rw [hrec]; simp); rw [hrec] at this; exact this, ?_⟩
        have hs4 : Sat ro1 (O i) (W2.putObj L (.loop { rec .ready none with state := .exhausted })).heap := (h2.less h3).out hro1L h6 (fun b hb => World.putObj_heap_other hb)
        exact hk .normal env ro1 (O i) _ _ hle1 (done i ro1 hle1 h1) (by rw [hrec] at hs4; exact hs4) hmk _ _ (hfm h7) (hp_put _ _ h7)
      · refine ⟨some c, _, by have := run_endLoop (P := P) h4 (by rw [hrec]; simp); rw [hrec] at this; exact this, ?_⟩
        have hs4 : Sat ro1 (Ox j) (W2.putObj L (.loop { rec .done (some c) with state := .exhausted })).heap := h3.out hro1L h5 (fun b hb => World.putObj_heap_other hb)
        have key := hk e env ro1 (Ox j) _ _ hle1 (stop e j ro1 hle1 h2) (by rw [hrec] at hs4; exact hs4) hmk _ _ (hfm h6) (hp_put _ _ h6)
        cases e <;> simp only [jumpOf, Option.some.injEq, reduceCtorEq] at h1 <;> subst h1
        · exact wpIn_exit key
        · exact wpIn_ret key
end
end Go.E
/-! Walking an iterator: a region that calls its yield; functions that bear marks. No program in sight. -/
namespace Go.E
open Go Go.RowKit
set_option linter.unusedVariables false
set_option linter.unusedSimpArgs false
section
variable {P : Program} {T : TT} {al : Array Oper} {Q : Exit → Act → World → Prop} {n : Fr} {σ : World} {env : Env} {h : Heap}
/-- The operations of a region in their order, in the wide fence. -/
def LI (P : Program) (al : Array Oper) (Q : Exit → Act → World → Prop) (n : Fr) (σ : World) (ops : List Oper) (env : Env) (h : Heap) : Prop :=
  ∀ a w, Fits n env a → Hp h σ w → wpListIn Fence.wide 0 P al Q ops a w
theorem C.regionI {id : Nat} {l : List Oper} (k : LI P l.toArray Q n σ l env h) : C P Q n σ (.region id l.toArray false) env h := fun a w hf hw => (wpIn_wide (n := 0)).1 (wpIn_region_lit (k a w hf hw))
theorem upon_inWide {o : Oper} {a : Act} {K : Act → World → Prop} {next next' : Act → World → Prop} (hn : ∀ a w, next a w → next' a w) : ∀ {r : Result Next}, o.upon P a next (fun e a w => e = .normal ∧ K a w) r → o.uponIn Fence.wide 0 P a next' Q r := by
  intro r h
  cases r with
  | ok x w =>
    cases x <;> simp only [Oper.upon] at h <;> try exact h.elim
    all_goals simp only [Oper.uponIn]
    all_goals first
      | exact hn _ _ h
      | exact ⟨fun e => by simp [Fence.wide] at e, callsIn_wide.2 (h.mono fun e w' he => by
          cases e <;> first
            | exact hn _ _ he
            | (obtain ⟨hh, _⟩ := he; cases hh; done)
            | (obtain ⟨_, _, hh, _⟩ := he; cases hh; done))⟩
      | exact ⟨fun e => by simp [Fence.wide] at e, fun c cs _ => by
          obtain ⟨v, w', r, s⟩ := h c cs
          exact ⟨v, w', hn _ _ r, stepsIn_wide.2 s⟩⟩
  | halt x w => cases x <;> simp only [Oper.upon] at h <;> (obtain ⟨hh, _⟩ := h; cases hh)
theorem wpList_splitIn {K : Act → World → Prop} {rest : List Oper} (hK : ∀ a w, K a w → wpListIn Fence.wide 0 P al Q rest a w) : ∀ {ops : List Oper}, ops.all noDef = true → ∀ {a : Act} {w : World}, wpList P al (fun e a w => e = .normal ∧ K a w) ops a w → wpListIn Fence.wide 0 P al Q (ops ++ rest) a w
  | [], _, a, w, h => hK a w h.2
  | o :: ops, hd, a, w, h => by
    simp only [List.all_cons, Bool.and_eq_true] at hd
    unfold wpList at h
    show wpListIn Fence.wide 0 P al Q (o :: (ops ++ rest)) a w
    unfold wpListIn
    split
    · rename_i hw
      rw [if_pos hw] at h
      rcases h with h | ⟨_, h⟩
      · refine ⟨fun f _ => trivial, ?_⟩
        rw [Oper.semAt_eq _ _ _ (noDef_spec hd.1)]
        exact upon_inWide (fun a w h => wpList_splitIn hK hd.2 h) h
      · obtain ⟨_, _, hh, _⟩ := h; cases hh
    · rename_i hw
      rw [if_neg hw] at h
      exact ⟨fun f _ => trivial, wpList_splitIn hK hd.2 h⟩
/-- Its first operations as any. -/
theorem LI.split {rest : List Oper} {ops : List Oper} (hd : ops.all noDef = true) (k : L P al (fun e a w => e = .normal ∧ wpListIn Fence.wide 0 P al Q rest a w) n σ ops env h) : LI P al Q n σ (ops ++ rest) env h :=
  fun a w hf hw => wpList_splitIn (fun a w h => h) hd (k a w hf hw)
theorem LI.all {ops : List Oper} (hd : ops.all noDef = true) (k : L P al (fun e a w => e = .normal ∧ Q .normal a w) n σ ops env h) : LI P al Q n σ ops env h := fun a w hf hw => by
  have := wpList_splitIn (rest := []) (Q := Q) (fun a w h => h) hd (k a w hf hw)
  rwa [List.append_nil] at this
theorem N.normalI {rest : List Oper} (k : LI P al Q n σ rest env h) : N n σ ((fun (e : Exit) a w => e = .normal ∧ wpListIn Fence.wide 0 P al Q rest a w) .normal) env h := fun a w hf hw => ⟨rfl, k a w hf hw⟩
theorem N.normalA {Q' : Act → World → Prop} (k : N n σ Q' env h) : N n σ ((fun (e : Exit) a w => e = .normal ∧ Q' a w) .normal) env h := fun a w hf hw => ⟨rfl, k a w hf hw⟩
/-- Its own yield is called. -/
theorem LI.yield {rest : List Oper} {d l : Nat} {x : Operand} {ys : List Operand} {vs : List Value} {tys : Array TypeId} {ty : TypeId} {pos : String} {af : Array Edge}
    (hx : ev env x = some (.func (.yield l) #[] #[])) (hy : evs env ys = some vs) (hd : Nat.blt d n.size = true)
    (hY : ∀ w, Hp h σ w → YieldAt Fence.wide 0 P l vs.toArray w fun e w' => ∃ v, e = .returned v ∧ Hp w'.heap σ w' ∧ ∀ a', Fits n ((d, v) :: env) a' → wpListIn Fence.wide 0 P al Q rest a' w') :
    LI P al Q n σ (⟨some d, .call ⟨.value x, ys.toArray, tys⟩, ty, pos, af, none⟩ :: rest) env h := fun a w hf hw => by
  obtain ⟨fn, tmps, assign, body, hy1, hR⟩ := hY w hw
  have e1 := hf.agree _ _ hx
  have e2 := hf.agree.list hy
  unfold wpListIn
  rw [if_pos (show Region.wanted _ _ = true from rfl)]
  refine ⟨fun f _ => trivial, ?_⟩
  have hrun : (execOp a.eval ⟨some d, .call ⟨.value x, ys.toArray, tys⟩, ty, pos, af, none⟩).run P w = .ok (.round l fn tmps assign body) w := by
    rw [← hy1]
    simp [execOp, resolve, e1, e2, Deferred.ofValue, invoke, Sem.run_bind, Result.andThen, Sem.run_pure]
  rw [Oper.semAt_eq _ _ _ (fun c e => by cases e)]
  rw [hrun]
  simp only [Oper.uponIn]
  refine ⟨fun e => by simp [Fence.wide] at e, hR.mono fun e w' ⟨v, he, hh, hk⟩ => ?_⟩
  subst he
  exact hk _ (hf.put hd v)
theorem LI.guard {rest : List Oper} {d : Option Nat} {op : Op} {ty : TypeId} {pos : String} {af : Array Edge} {j : Nat} {b : Bool} {t : Nat}
    {l : List Oper} (hj0 : dstOf l j = some t) (ht : look env t = some (.bool b)) (k : LI P l.toArray Q n σ (⟨d, op, ty, pos, af, none⟩ :: rest) env h) :
    LI P l.toArray Q n σ (⟨d, op, ty, pos, af, some (j, b)⟩ :: rest) env h := fun a w hf hw => by
  have hj := dstOf_spec hj0
  have hy : yielded l.toArray a.tmps j = some b := by simp [yielded, hj, hf.get _ _ ht]
  have k := k a w hf hw
  unfold wpListIn at k ⊢
  rw [if_pos (show Region.wanted _ _ = true from rfl)] at k
  rw [if_pos (by simp [Region.wanted, hy])]
  exact k
/-! ### functions that bear marks -/
theorem leavesM {fn : Func} {tmps : Array Value} {R : Ending → World → Prop} {own : Chs} {ro : Ro} {σ : World} {v : Value} (hres : ∀ w, (results fn tmps).run P w = .ok v w) (hR : ∀ w, Hp w.heap σ w → Sat ro own w.heap → R (.returned v) w) :
    ∀ (ms : List Nat) (w : World), ms.Nodup → Hp w.heap σ w → (∀ b ∈ ms, ro b = none) → (∀ b ∈ ms, w.heap[b]? = some (.deferred (some []))) → (∀ b ∈ ms, ∀ c ∈ own, b ∉ c.fp) → Sat ro own w.heap → LeavesInM Fence.wide 0 P fn tmps R (ms.map markOf) .returning w
  | [], w, _, hh, _, _, _, hs => ⟨v, hres w, hR w hh hs⟩
  | b :: ms, w, hn, hh, h1, h2, h3, hs => by
    obtain ⟨n1, n2⟩ := List.nodup_cons.1 hn
    refine ⟨by simp, .inl ⟨b, _, rfl, run_takeDeferred (h2 b (by simp)), ?_⟩⟩
    refine leavesM hres hR ms _ n2 (hp_put _ _ hh) (fun c hc => h1 c (by simp [hc])) (fun c hc => ?_) (fun c hc => h3 c (by simp [hc])) (hs.out (h1 b (by simp)) (h3 b (by simp)) (fun c hc => World.putObj_heap_other hc))
    have hne : c ≠ b := fun e => n1 (by rw [← e]; exact hc)
    rw [World.putObj_heap_other hne]
    exact h2 c (by simp [hc])
/-- What is asked at the end of a function that may bear marks: its results are slots; of what lasts only what lasted ahead of it. -/
def retM (rs : List ResultVar) (Φ : Value → Chs → Prop) : Exit → Kt
  | .ret => fun env ro own => match rvals env rs with
    | some vs => Stop (Wk (fun _ _ own => Φ (tup vs) own) [] ro own)
    | none => False
  | .normal => fun env ro own => match rs with
    | [] => Stop (Wk (fun _ _ own => Φ (tup []) own) [] ro own)
    | _ => False
  | _ => fun _ _ _ => False
theorem results_of {fn : Func} {rs : List ResultVar} {vs : List Value} {a : Act} (hr : fn.results = rs.toArray) (hv : rvals env rs = some vs) (hf : Fits n env a) (w : World) : (results fn a.tmps).run P w = .ok (tup vs) w := by
  have := (RV.of (P := P) (h := w.heap) hv).run hf (rfl : w.heap = w.heap)
  have e : results fn a.tmps = (do let vs ← fn.results.mapM (resOne a.tmps); pure (if h : vs.size = 1 then vs[0] else .tuple vs)) := rfl
  rw [e, hr, List.mapM_toArray]
  simp only [bind_map_left, Sem.run_bind, this, Result.andThen_ok, Sem.run_pure, tup_eq]
/-- A function's contract out of its body's reckoning, where the body may range over a function. -/
theorem CallOk.introM {f : FuncId} {fn : Func} {c : Code} {args : List Value} {rs : List ResultVar} {Φ : Value → Ro → Chs → Prop} {ro : Ro} {own : Chs} (hT : TOk P T) (hf : P.funcs[f]? = some fn) (he : ∀ args w, (callFunc f args).run P w = .ok (.enter f args) w) (hb : fn.body = some c) (hr : fn.results = rs.toArray)
    (hn : okS fn.ntmps c = true) (hl : Nat.ble args.length fn.ntmps = true) (k : V P T c (retM rs (fun v own => Φ v ro own)) (argEnv 0 args) ro own) : CallOk P f args.toArray ro own Φ := by
  refine ⟨fun w hs => .inl ⟨he _ _, (callsIn_wide (n := 0)).1 (callsIn_of_wp_marks hf hb trivial (wpIn_wide.2 ?_))⟩⟩
  have fin : ∀ {env' : Env} {vs : List Value} {ro' : Ro} {own' : Chs} {D : List Deferred} {h' : Heap}, rvals env' rs = some vs → Le ro ro' → Wk (fun _ _ own => Φ (tup vs) ro own) [] ro' own' → Sat ro' own' h' → Mk (rf c) [] D ro ro' →
      ∀ a w2, Fits ⟨fn.ntmps, D⟩ env' a → Hp h' w w2 → LeavesInM Fence.wide 0 P fn a.tmps (fun e w' => ∃ v, e = .returned v ∧ Post ro Φ w v w') a.defers .returning w2 := by
    intro env' vs ro' own' D h' hv hl hk hs' hm a w2 hf2 hw2
    obtain ⟨e1, ro2, own2, h1, h2, h3, h4⟩ := hk.get h' hs'
    obtain ⟨ms, hD, hnd, hms⟩ := hm.yes
    have hw2h := hw2.heap
    subst hw2h
    have hD2 : a.defers = ms.map markOf := by rw [hf2.defers]; simpa using hD
    rw [hD2]
    refine leavesM (σ := w) (ro := ro) (own := own2) (results_of hr hv hf2) (fun w3 hh hs3 => ⟨_, rfl, hh, ro, own2, Le.refl _, hs3, h4⟩) ms w2 hnd (hp_heap hw2) (fun b hb => (hms b hb).1) (fun b hb => hs'.last b _ (hms b hb).2) (fun b hb c hc hbc => ?_) (h3.less (hl.trans h2))
    have := h3.ap c hc b hbc
    rw [h2.le _ _ (hms b hb).2] at this; cases this
  refine (V_sound hT k).run ⟨fn.ntmps, []⟩ w _ hn (fun e env' ro' own' D h' hl hk hs' hm => ?_) w.heap hs _ w ⟨rfl, ?_, fun t v hv => ?_⟩ (Hp.self w)
  · cases e with
    | ret =>
      simp only [retM] at hk
      split at hk
      · rename_i vs hv
        exact fun a w2 hf2 hw2 => fin hv hl hk.run hs' hm a w2 hf2 hw2
      · exact hk.elim
    | normal =>
      simp only [retM] at hk
      split at hk
      · exact fun a w2 hf2 hw2 => fin rfl hl hk.run hs' hm a w2 hf2 hw2
      · exact hk.elim
    | _ => exact hk.elim
  · have : args.length ≤ fn.ntmps := by simpa using hl
    simp; omega
  · have := (look_argEnv args 0 t v hv).2
    simp only [Nat.sub_zero] at this
    have ht : t < args.length := (List.getElem?_eq_some_iff.1 this).1
    rw [Array.getElem?_append_left (by simpa using ht)]
    simpa using this
/-- An iterator's walk, out of its body's. -/
theorem calls_of_C {f : FuncId} {fn : Func} {c : Code} {args : List Value} {W : World} {R : Ending → World → Prop} {m : Nat} (hf : P.funcs[f]? = some fn) (hb : fn.body = some c) (hn : fn.ntmps = m) (hl : Nat.ble args.length m = true)
    (k : C P (bodyPost P fn R) ⟨m, []⟩ W c (argEnv 0 args) W.heap) : Calls P f args.toArray W R :=
  calls_of_wp hf hb (k _ W ⟨rfl, by have : args.length ≤ m := by simpa using hl
                                    simp [hn]; omega, fun t v hv => by
    have := (look_argEnv args 0 t v hv).2
    simp only [Nat.sub_zero] at this
    have ht : t < args.length := (List.getElem?_eq_some_iff.1 this).1
    rw [Array.getElem?_append_left (by simpa using ht)]
    simpa using this⟩ (Hp.self W))
/-- A piece of code by the engine, all that lies there lasting. -/
theorem C.byV (hT : TOk P T) {c : Code} (hok : okS n.size c = true) (hrf : rf c = false) {k : Exit → Kt} (hv : V P T c k env (hm h) []) (hk : ∀ e env' ro' own' h', Le (hm h) ro' → k e env' ro' own' → Sat ro' own' h' → N n σ (Q e) env' h') : C P Q n σ c env h :=
  (V_sound hT hv).run n σ Q hok (fun e env' ro' own' D h' hl hk' hs' hm => by
    have : D = n.D := hm.no hrf
    subst this
    exact hk e env' ro' own' h' hl hk' hs') h (sat_all h)
theorem L.byV (hT : TOk P T) {l0 ops : List Oper} (hok : ops.all (fun o => okD n.size o.dst) = true) {k : Kt} (hv : vOps P T l0 ops [] ops k env (hm h) []) (hk : ∀ env' ro' own' h', Le (hm h) ro' → k env' ro' own' → Sat ro' own' h' → N n σ (Q .normal) env' h') : L P l0.toArray Q n σ ops env h :=
  vOps_sound hT hok hv (fun env' ro' own' h' _ hl hk' hs' => hk env' ro' own' h' hl hk' hs') (sat_all h)
end
end Go.E
end
section
/- Contracts of class: Each, as an iterator. -/
namespace Go.Proofs.YtinbmhbfcoiefaaGreatDoor
open Go Go.E
set_option linter.unusedVariables false
set_option linter.unusedSimpArgs false
set_option maxRecDepth 10000
/-- The bytes of a set, rising. -/
def bytesD (s : SetD) : List Nat := (List.range 256).filter s.has
theorem hp_back {w W : World} {h h0 : Heap} (hw : Hp h W w) : Hp h0 W { w with heap := h0 } := ⟨rfl, hw.os, hw.tape, hw.output⟩
set_option maxHeartbeats 1000000 in
theorem each_iter {s : SetD} (hs : SetIn s) : IterOk Tryz.prog 49 ([.agg (setV s).toArray] : List Value).toArray (fun c : Nat => ([.int .u8 (c : Int)] : List Value).toArray) (bytesD s) := by
  refine ⟨fun l J Jx ρ W hJr hJa hJy hJx hJp hJxp h0 => callsIn_wide.2 ?_⟩
  show Calls _ _ ([.agg (setV s).toArray, .func (.yield l) #[] #[]] : List Value).toArray _ _
  refine calls_of_C Tryz.func49 rfl rfl rfl ?_
  have hup : ∀ {ρ ρ' : Ro} {pre : List Nat} {h h' : Heap}, (∀ w, Hp h W w → J ρ pre w) → Le ρ ρ' → (∀ b o, ρ' b = some o → ρ b = some o ∨ h.size ≤ b) → (∀ b, b < h.size → h'[b]? = h[b]?) → (∀ b o, ρ' b = some o → h'[b]? = some o) → ∀ w, Hp h' W w → J ρ' pre w := fun {ρ ρ' pre h h'} hJ hl hn hk hla w hw => by
    have hh := hw.heap
    subst hh
    exact hJa ρ ρ' pre { w with heap := h } w (hJ _ (hp_back hw)) hl hn hk hla ⟨rfl, rfl, rfl, rfl⟩
  have h0' : ∀ w, Hp W.heap W w → J ρ [] w := fun w hw => hJa ρ ρ [] W w h0 (Le.refl _) (fun b o h => .inl h) (fun b _ => by rw [hw.heap]) (fun b o h => by rw [hw.heap]; exact hJr _ _ _ h0 b o h) ⟨rfl, hw.os, hw.tape, hw.output⟩
  refine C.seq (C.byV (T := T) T_ok rfl rfl (k := fun e => match e with
    | .normal => fun env' ro' own' => ∃ B, own' = [.blk B 116 (setV s)] ∧ Sub [(1, .func (.yield l) #[] #[]), (2, .pointer (some ⟨B, 0, none⟩))] env'
    | _ => fun _ _ _ => False) ?_ ?_)
  · repeat (first | exact endA | refine wkG ?_ | refine opB (fun b => ?_) | refine opA (fun a' c' hc1 hc2 => ?_) | (show GJ _ _ _ _ _ _ _; first | (apply GJ.and; exact rfl; intro hg) | (apply GJ.or; exact rfl; intro hg) | refine GJ.t omAuto ?_ | refine GJ.f omAuto ?_ | refine GJ.ft omAuto ?_ | refine GJ.ff omAuto ?_))
    exact ⟨_, rfl, Sub.auto⟩
  rintro e env' ro' own' h' hl hk hs'
  cases e <;> first | exact hk.elim | skip
  obtain ⟨B, rfl, hsub⟩ := hk
  have hBrow : h'[B]? = some (.cells (setV s).toArray 116 (0, 0)) := hs'.parts (.blk B 116 (setV s)) (by simp)
  have hBsz : W.heap.size ≤ B := by
    refine Nat.le_of_not_lt fun hlt => ?_
    have h1 := hs'.ap _ (List.mem_singleton.2 rfl) B (by simp [Chunk.fp])
    rw [hl.le B _ (Array.getElem?_eq_getElem hlt)] at h1
    cases h1
  obtain ⟨ρ2, hρ2⟩ : ∃ ρ2 : Ro, ∀ b, ρ2 b = if b = B then some (.cells (setV s).toArray 116 (0, 0)) else ρ b := ⟨_, fun b => rfl⟩
  have hkeep : ∀ b, b < W.heap.size → h'[b]? = W.heap[b]? := fun b hb => by
    rw [Array.getElem?_eq_getElem hb]
    exact hs'.last b _ (hl.le b _ (Array.getElem?_eq_getElem hb))
  have h1' : ∀ w, Hp h' W w → J ρ2 [] w := hup h0' ⟨fun b o hb => by
      rw [hρ2, if_neg (fun e => by
        subst e
        have := (Array.getElem?_eq_some_iff.1 (hJr _ _ _ h0 _ _ hb)).1
        omega)]; exact hb⟩ (fun b o hb => by
      rw [hρ2] at hb
      by_cases e : b = B
      · subst e; exact .inr hBsz
      · rw [if_neg e] at hb; exact .inl hb) hkeep (fun b o hb => by
      rw [hρ2] at hb
      by_cases e : b = B
      · subst e; rw [if_pos rfl] at hb; cases hb; exact hBrow
      · rw [if_neg e] at hb
        have h1 := hJr _ _ _ h0 _ _ hb
        have hlt := (Array.getElem?_eq_some_iff.1 h1).1
        rw [hkeep b hlt]; exact h1)
  have hρB : ρ2 B = some (.cells (setV s).toArray 116 (0, 0)) := by rw [hρ2]; exact if_pos rfl
  refine N.then_normal (N.wp (C.sub _ hsub ?_))
  clear hsub hl hs' h0' hρ2 hkeep hBrow hBsz
  refine C.seq (C.region (L.pure (Pu.move rfl) rfl (L.nil (N.then_normal (N.wp ?_)))))
  refine C.block (C.loop (ι := Nat) (n := fun _ => ⟨20, []⟩) (fun c => [(5, .int .i64 (c : Int)), (1, .func (.yield l) #[] #[]), (2, .pointer (some ⟨B, 0, none⟩))]) (fun c h => c ≤ 256 ∧ ∀ w, Hp h W w → J ρ2 ((List.range c).filter s.has) w) (fun c => 256 - c) 0 ⟨by omega, h1'⟩ (by repeat (first | exact trivial | refine Sub.cons rfl ?_)) ?_)
  clear h1'
  rintro c h ⟨hc, hJ⟩
  refine C.seq (C.region (L.pure (Pu.lss rfl rfl) rfl (L.nil (N.then_normal (N.wp ?_)))))
  refine C.seq (C.dec rfl (fun hlt => C.skip (N.then_normal (N.wp ?_))) (fun hge => C.exit (N.then_exit (N.then_exit (N.block_same ?_)))))
  rotate_left
  · obtain rfl : c = 256 := by omega
    exact fun a w hf hw => ⟨hf.defers, .tuple #[], by simp [results, show (Tryz.f49).results = #[] from rfl], _, rfl, .inl ⟨ρ2, hJ w hw⟩⟩
  have hlt : c < 256 := by omega
  have hRow : RowR (hm h) B 116 (setV s) := hJr _ _ _ (hJ { W with heap := h } ⟨rfl, rfl, rfl, rfl⟩) _ _ hρB
  refine C.seq (C.block (C.seq (C.region (L.pure (Pu.move rfl) rfl (L.pure (Pu.assign rfl) rfl (L.nil (N.then_normal (N.wp ?_))))))))
  refine C.seq (C.regionI (LI.split (ops := [_, _, _, _, _]) (rest := _) rfl (L.byV (T := T) T_ok rfl (k := fun env' ro' own' => Sub [(12, .bool (s.has c)), (1, .func (.yield l) #[] #[]), (2, .pointer (some ⟨B, 0, none⟩)), (4, .int .i64 (c : Int)), (5, .int .i64 (c : Int))] env') ?_ ?_)))
  · repeat (first | exact endA | refine wkG ?_ | refine opB (fun b => ?_) | refine opA (fun a' c' hc1 hc2 => ?_) | (show GJ _ _ _ _ _ _ _; first | (apply GJ.and; exact rfl; intro hg) | (apply GJ.or; exact rfl; intro hg) | refine GJ.t omAuto ?_ | refine GJ.f omAuto ?_ | refine GJ.ft omAuto ?_ | refine GJ.ff omAuto ?_))
    refine OpOk.loadRow rfl rfl (LdN.lastBlk hRow) rfl ?_
    repeat (first | exact endA | refine wkG ?_ | refine opB (fun b => ?_) | refine opA (fun a' c' hc1 hc2 => ?_) | (show GJ _ _ _ _ _ _ _; first | (apply GJ.and; exact rfl; intro hg) | (apply GJ.or; exact rfl; intro hg) | refine GJ.t omAuto ?_ | refine GJ.f omAuto ?_ | refine GJ.ft omAuto ?_ | refine GJ.ff omAuto ?_))
    have e1 : (c : Int) % 256 = (c : Int) := by omega
    rw [e1]
    refine has_ok hs hlt ?_
    repeat (first | exact endA | refine wkG ?_ | refine opB (fun b => ?_) | refine opA (fun a' c' hc1 hc2 => ?_) | (show GJ _ _ _ _ _ _ _; first | (apply GJ.and; exact rfl; intro hg) | (apply GJ.or; exact rfl; intro hg) | refine GJ.t omAuto ?_ | refine GJ.f omAuto ?_ | refine GJ.ft omAuto ?_ | refine GJ.ff omAuto ?_))
    exact (by repeat (first | exact trivial | refine Sub.cons rfl ?_))
  rintro env' ro' own' h' hl hsub hs'
  have hJ' : ∀ w, Hp h' W w → J ρ2 ((List.range c).filter s.has) w := by
    have hkp : ∀ b, b < h.size → h'[b]? = h[b]? := fun b hb => by
      rw [Array.getElem?_eq_getElem hb]
      exact hs'.last b _ (hl.le b _ (Array.getElem?_eq_getElem hb))
    refine hup hJ (Le.refl _) (fun b o h => .inl h) hkp (fun b o hb => ?_)
    have h1 := hJr _ _ _ (hJ { W with heap := h } ⟨rfl, rfl, rfl, rfl⟩) _ _ hb
    rw [hkp b (Array.getElem?_eq_some_iff.1 h1).1]; exact h1
  have hsplit : (List.range (c + 1)).filter s.has = (List.range c).filter s.has ++ (if s.has c = true then [c] else []) := by
    rw [List.range_succ, List.filter_append]
    congr 1
    by_cases e : s.has c = true <;> simp [e]
  refine N.sub _ hsub (N.normalI ?_)
  cases hh : s.has c with
  | false =>
    rw [hh] at hsplit
    simp only [Bool.false_eq_true, if_false, List.append_nil] at hsplit
    refine LI.all rfl (L.guard_not rfl rfl rfl (L.guard_not rfl rfl rfl (L.guard_not rfl rfl rfl (L.guard_not rfl rfl rfl (L.guard_not rfl rfl rfl (L.pure (Pu.pickF rfl rfl) rfl (L.nil (N.normalA ?_))))))))
    refine N.then_normal (N.wp (C.ff rfl (C.skip (N.block_normal (N.then_normal (N.wp (C.region (L.pure (Pu.addI rfl rfl (by omega)) rfl (L.pure (Pu.move rfl) rfl (L.nil (N.then_normal ?_))))))))))) 
    refine N.round (n := fun _ => ⟨20, []⟩) (c + 1) ?_ ?_ ?_
    · exact ⟨by omega, by rw [hsplit]; exact hJ'⟩
    · omega
    · exact (by repeat (first | exact trivial | refine Sub.cons rfl ?_))
  | true =>
    rw [hh] at hsplit
    simp only [if_true] at hsplit
    refine LI.split (ops := [_, _, _]) (rest := _) rfl (L.guard rfl rfl (L.pure (Pu.move rfl) rfl (L.guard rfl rfl (L.pure (Pu.move rfl) rfl (L.guard rfl rfl (L.pure (Pu.convU8 rfl Tryz.underlying3 Tryz.underlying5) rfl (L.nil (N.normalI ?_))))))))
    refine LI.guard rfl rfl (LI.yield rfl (vs := [.int .u8 ((c % 256 : Nat) : Int)]) rfl rfl (fun w hw => ?_))
    have hx : bytesD s = (List.range c).filter s.has ++ c :: ((List.range' (c + 1) (255 - c)).filter s.has) := by
      have e : List.range 256 = List.range c ++ c :: List.range' (c + 1) (255 - c) := by
        rw [List.range_eq_range', List.range_eq_range', show (256 : Nat) = c + (1 + (255 - c)) by omega, ← List.range'_append_1]
        rw [Nat.zero_add, show 1 + (255 - c) = (255 - c) + 1 by omega, List.range'_succ]
      unfold bytesD
      rw [e, List.filter_append, List.filter_cons, if_pos hh]
    obtain ⟨fn, tmps, assign, body, hy, hR⟩ := hJy ρ2 _ c _ w hx (hJ' w hw)
    rw [Nat.mod_eq_of_lt hlt]
    refine ⟨fn, tmps, assign, body, hy, hR.mono fun e w' he => ?_⟩
    rcases he with ⟨rfl, hJ2⟩ | ⟨rfl, hJ2⟩
    · refine ⟨_, rfl, hJp _ _ _ hJ2, fun a' hf' => ?_⟩
      have hJ3 : ∀ w2, Hp w'.heap W w2 → J ρ2 ((List.range (c + 1)).filter s.has) w2 := fun w2 hw2 => by
        rw [hsplit]
        exact hJa ρ2 ρ2 _ w' w2 hJ2 (Le.refl _) (fun b o h => .inl h) (fun b _ => by rw [hw2.heap]) (fun b o h => by rw [hw2.heap]; exact hJr _ _ _ hJ2 b o h) ⟨rfl, hw2.os.trans (hJp _ _ _ hJ2).os.symm, hw2.tape.trans (hJp _ _ _ hJ2).tape.symm, hw2.output.trans (hJp _ _ _ hJ2).output.symm⟩
      refine LI.all rfl (L.guard rfl rfl (L.pure (Pu.not rfl) rfl (L.pure (Pu.pickT rfl rfl) rfl (L.nil (N.normalA ?_))))) a' w' hf' (hJp _ _ _ hJ2)
      refine N.then_normal (N.wp (C.ff rfl (C.skip (N.block_normal (N.then_normal (N.wp (C.region (L.pure (Pu.addI rfl rfl (by omega)) rfl (L.pure (Pu.move rfl) rfl (L.nil (N.then_normal ?_)))))))))))
      refine N.round (n := fun _ => ⟨20, []⟩) (c + 1) ?_ ?_ ?_
      · exact ⟨by omega, hJ3⟩
      · omega
      · exact (by repeat (first | exact trivial | refine Sub.cons rfl ?_))
    · refine ⟨_, rfl, hJxp _ hJ2, fun a' hf' => ?_⟩
      have hJ3 : ∀ w2, Hp w'.heap W w2 → Jx w2 := fun w2 hw2 => 
        hJx w' w2 hJ2 hw2.heap ⟨rfl, hw2.os.trans (hJxp _ hJ2).os.symm, hw2.tape.trans (hJxp _ hJ2).tape.symm, hw2.output.trans (hJxp _ hJ2).output.symm⟩
      refine LI.all rfl (L.guard rfl rfl (L.pure (Pu.not rfl) rfl (L.pure (Pu.pickT rfl rfl) rfl (L.nil (N.normalA ?_))))) a' w' hf' (hJxp _ hJ2)
      refine N.then_normal (N.wp (C.tt rfl (C.ret (N.block_ret (N.then_ret (N.then_ret (N.block_ret ?_)))))))
      exact fun a w hf hw => ⟨hf.defers, .tuple #[], by simp [results, show (Tryz.f49).results = #[] from rfl], _, rfl, .inr (hJ3 w hw)⟩
end Go.Proofs.YtinbmhbfcoiefaaGreatDoor
end
section
/- Contracts of class: Bytes. -/
namespace Go.Proofs.YtinbmhbfcoiefaaGreatDoor
open Go Go.E
set_option linter.unusedVariables false
set_option linter.unusedSimpArgs false
set_option maxRecDepth 10000
theorem bytesD_lt {s : SetD} {c : Nat} (h : c ∈ bytesD s) : c < 256 := List.mem_range.1 (List.mem_filter.1 h).1
section
variable {ro : Ro} {own r : Chs} {K : Value → Ro → Chs → Prop} {g : Chunk → Chs}
end
end Go.Proofs.YtinbmhbfcoiefaaGreatDoor
end
section
/- Merged of: Rx1 Rx2 Rx3 Rx4 Rx5 Rx6 Rx7 Rx8 Rx9. Expressions as data: the tree, reading a text, writing one, checking one. No program in sight. -/
/-! Expressions as data: the tree, reading a text, writing one, checking one. No program in sight. -/
namespace Go.Proofs.YtinbmhbfcoiefaaGreatDoor
open Go Go.E
set_option linter.unusedVariables false
set_option maxRecDepth 10000
inductive RgD where
  | mk (kind : Int) (set : SetD) (kids : List RgD) (min max : Int)
def zeroS : SetD := ⟨0, 0, 0, 0⟩
def RgD.kind : RgD → Int | .mk k _ _ _ _ => k
def RgD.set : RgD → SetD | .mk _ s _ _ _ => s
def RgD.kids : RgD → List RgD | .mk _ _ l _ _ => l
def RgD.min : RgD → Int | .mk _ _ _ a _ => a
def RgD.max : RgD → Int | .mk _ _ _ _ b => b
def noneD : RgD := .mk 0 zeroS [] 0 0
def emptyD : RgD := .mk 1 zeroS [] 0 0
def oneD (s : SetD) : RgD := .mk 2 s [] 0 0
def catD' (l : List RgD) : RgD := .mk 3 zeroS l 0 0
def altD' (l : List RgD) : RgD := .mk 4 zeroS l 0 0
def repD (n : RgD) (a b : Int) : RgD := .mk 5 zeroS [n] a b
/-- Where a reader stands: at which byte, how many nodes, what is wrong and where. -/
structure RS where
  p : Nat
  n : Nat
  e : Nat
  f : Nat
deriving DecidableEq
def RS.wrong (s : RS) (e f : Nat) : RS := if s.e = 0 then { s with e := e, f := f } else s
def RS.adv (s : RS) : RS := { s with p := s.p + 1 }
def nodeS (s : RS) : RS := if 512 < s.n + 1 then RS.wrong { s with n := s.n + 1 } 2 s.p else { s with n := s.n + 1 }
def peekD (t : List UInt8) (s : RS) : Nat := if s.p < t.length ∧ s.e = 0 then (t[s.p]!).toNat else 0
def eatS (t : List UInt8) (c : Nat) (s : RS) : RS := if peekD t s = c then s.adv else s
def mustS (t : List UInt8) (c : Nat) (s : RS) : RS := if peekD t s = c then s.adv else s.wrong 5 s.p
def isDig (c : Nat) : Bool := decide (48 ≤ c) && decide (c ≤ 57)
def digitD (t : List UInt8) (a : Nat) (s : RS) : Nat × RS :=
  if isDig (peekD t s) then (peekD t s - 48, s.adv) else if 97 ≤ peekD t s ∧ peekD t s ≤ 102 then (peekD t s - 87, s.adv) else (0, s.adv.wrong 5 a)
def badEsc (c : Nat) : Bool := decide (c ≤ 32) || decide (126 < c) || isDig c || (decide (97 ≤ c) && decide (c ≤ 122)) || (decide (65 ≤ c) && decide (c ≤ 90))
def escD (t : List UInt8) (a : Nat) (s : RS) : Nat × RS :=
  if peekD t s = 110 then (10, s.adv) else if peekD t s = 114 then (13, s.adv) else if peekD t s = 116 then (9, s.adv) else if peekD t s = 48 then (0, s.adv)
  else if peekD t s = 120 then (16 * (digitD t a s.adv).1 + (digitD t a (digitD t a s.adv).2).1, (digitD t a (digitD t a s.adv).2).2)
  else (peekD t s, if badEsc (peekD t s) then s.adv.wrong 5 a else s.adv)
def signsR : List UInt8 := [47, 91, 93, 40, 41, 123, 125, 124, 42, 43, 63, 94, 34, 35, 45]
def badB (c : Nat) : Bool := decide (c < 32) || decide (126 < c) || (signsR.map (·.toNat)).contains c
def byteD (t : List UInt8) (s : RS) : Nat × RS :=
  if peekD t s = 92 then escD t s.p s.adv else if badB (peekD t s) then (0, s.wrong 5 s.p) else (peekD t s, s.adv)
def rangeD (x y : Nat) : SetD := (List.range 256).foldl (fun s c => if x ≤ c ∧ c ≤ y then s.add c else s) zeroS
/-- A byte, or two with a line between. -/
def pairD (t : List UInt8) (s : RS) : (Nat × Nat) × RS :=
  if peekD t (byteD t s).2 = 45 then (((byteD t s).1, (byteD t (byteD t s).2.adv).1), (byteD t (byteD t s).2.adv).2) else (((byteD t s).1, (byteD t s).1), (byteD t s).2)
def setL (t : List UInt8) (a : Nat) : Nat → SetD → RS → SetD × RS
  | 0, z, s => (z, s)
  | k + 1, z, s => if s.e = 0 ∧ peekD t s ≠ 93 then (if peekD t s = 0 then (z, s.wrong 5 s.p) else
      setL t a k (z.or (rangeD (pairD t s).1.1 (pairD t s).1.2)) (if (pairD t s).1.2 < (pairD t s).1.1 then (pairD t s).2.wrong 1 a else (pairD t s).2)) else (z, s)
def turnD (b : Bool) (z : SetD) : SetD := if b then z.not else z
def setD (t : List UInt8) (a : Nat) (s : RS) : SetD × RS :=
  let l := setL t a (t.length + 1) zeroS (eatS t 94 s)
  let z := turnD (decide (peekD t s = 94)) l.1
  (z, if (mustS t 93 l.2).e = 0 ∧ z = zeroS then (mustS t 93 l.2).wrong 160 a else mustS t 93 l.2)
def digsOf (l : List UInt8) : List UInt8 := l.takeWhile fun c => isDig c.toNat
def valOf (l : List UInt8) : Nat := l.foldl (fun v c => 10 * v + (c.toNat - 48)) 0
def badNum (l : List UInt8) : Bool := l.isEmpty || (decide (1 < l.length) && decide (l.headD 0 = 48))
def countD (t : List UInt8) (s : RS) : Nat × RS :=
  let l := digsOf (t.drop s.p)
  let s1 : RS := { s with p := s.p + l.length }
  if badNum l then (0, s1.wrong 5 s.p) else if 256 < valOf l then (0, s1.wrong 1 s.p) else (valOf l, s1)
def countsD (t : List UInt8) (s : RS) : (Nat × Int) × RS :=
  let c := countD t s
  let h : Int × RS := if peekD t c.2 = 44 then (if peekD t c.2.adv = 125 then (-1, c.2.adv) else (((countD t c.2.adv).1 : Int), (countD t c.2.adv).2)) else ((c.1 : Int), c.2)
  ((c.1, h.1), if 0 ≤ h.1 ∧ h.1 < (c.1 : Int) then (mustS t 125 h.2).wrong 1 s.p else mustS t 125 h.2)
def repL (t : List UInt8) : Nat → RgD → RS → RgD × RS
  | 0, n, s => (n, s)
  | k + 1, n, s => if peekD t s = 42 then repL t k (repD n 0 (-1)) (nodeS s.adv) else if peekD t s = 43 then repL t k (repD n 1 (-1)) (nodeS s.adv)
      else if peekD t s = 63 then repL t k (repD n 0 1) (nodeS s.adv)
      else if peekD t s = 123 then repL t k (repD n (countsD t s.adv).1.1 (countsD t s.adv).1.2) (nodeS (countsD t s.adv).2) else (n, s)
def ofD (c : Nat) : SetD := zeroS.add c
def atomD (t : List UInt8) (alt : RS → RgD × RS) (s : RS) : RgD × RS :=
  if peekD t s = 40 then ((alt s.adv).1, mustS t 41 (alt s.adv).2) else if peekD t s = 46 then (oneD allD, nodeS s.adv)
  else if peekD t s = 91 then (oneD (setD t s.p s.adv).1, nodeS (setD t s.p s.adv).2) else (oneD (ofD (byteD t s).1), nodeS (byteD t s).2)
def pieceD (t : List UInt8) (alt : RS → RgD × RS) (s : RS) : RgD × RS := repL t (t.length + 1) (atomD t alt s).1 (atomD t alt s).2
def catL (t : List UInt8) (alt : RS → RgD × RS) : Nat → List RgD → RS → List RgD × RS
  | 0, l, s => (l, s)
  | k + 1, l, s => if peekD t s ≠ 0 ∧ peekD t s ≠ 124 ∧ peekD t s ≠ 41 then catL t alt k (l ++ [(pieceD t alt s).1]) (pieceD t alt s).2 else (l, s)
def catOf : List RgD × RS → RgD × RS
  | ([], s) => (emptyD, nodeS s)
  | ([x], s) => (x, s)
  | (l, s) => (catD' l, nodeS s)
def catD (t : List UInt8) (alt : RS → RgD × RS) (s : RS) : RgD × RS := catOf (catL t alt (t.length + 1) [] s)
def altL (t : List UInt8) (alt : RS → RgD × RS) : Nat → List RgD → RS → List RgD × RS
  | 0, l, s => (l, s)
  | k + 1, l, s => if peekD t s = 124 then altL t alt k (l ++ [(catD t alt s.adv).1]) (catD t alt s.adv).2 else (l, s)
def altOf : List RgD × RS → RgD × RS
  | ([x], s) => (x, s)
  | (l, s) => (altD' l, nodeS s)
def altD (t : List UInt8) : Nat → RS → RgD × RS
  | 0, s => (noneD, s.wrong 6 s.p)
  | d + 1, s => altOf (altL t (altD t d) (t.length + 1) [(catD t (altD t d) s).1] (catD t (altD t d) s).2)
def endS (t : List UInt8) (s : RS) : RS := if s.e = 0 ∧ s.p < t.length then s.wrong 5 s.p else s
def parseD (t : List UInt8) : RgD × (Nat × Nat) :=
  if 512 < t.length then (noneD, (2, 0)) else
    if (endS t (altD t 33 ⟨0, 0, 0, 0⟩).2).e = 0 then ((altD t 33 ⟨0, 0, 0, 0⟩).1, (0, 0)) else (noneD, ((endS t (altD t 33 ⟨0, 0, 0, 0⟩).2).e, (endS t (altD t 33 ⟨0, 0, 0, 0⟩).2).f))

def formD (n : RgD) : Nat := if n.kind = 1 ∨ n.kind = 2 then (if n.kids ≠ [] then 5 else if n.kind = 2 ∧ n.set = zeroS then 160 else 0) else if n.kind = 3 ∨ n.kind = 4 then (if n.kids.length < 2 then 5 else 0)
  else if n.kind = 5 then (if n.kids.length ≠ 1 then 5 else if n.min < 0 ∨ 256 < n.min ∨ 256 < n.max ∨ (0 ≤ n.max ∧ n.max < n.min) then 1 else 0) else 5
mutual
def checkD : RgD → Int → Nat × Int
  | .mk k s l a b, left => if left - 1 < 0 then (2, left - 1) else if formD (.mk k s l a b) ≠ 0 then (formD (.mk k s l a b), left - 1) else if k = 1 ∨ k = 2 then (0, left - 1) else checkK l (left - 1)
def checkK : List RgD → Int → Nat × Int
  | [], left => (0, left)
  | x :: r, left => if (checkD x left).1 ≠ 0 then checkD x left else checkK r (checkD x left).2
end

mutual
def wrongD : RgD → Nat
  | .mk k s l a b => if formD (.mk k s l a b) ≠ 0 then formD (.mk k s l a b) else wrongK l
def wrongK : List RgD → Nat
  | [] => 0
  | x :: r => if wrongD x ≠ 0 then wrongD x else wrongK r
end

end Go.Proofs.YtinbmhbfcoiefaaGreatDoor
/-! The law RegexChecks, plain: of an expression of few parts. No program in sight. -/
namespace Go.Proofs.YtinbmhbfcoiefaaGreatDoor
open Go Go.E
set_option linter.unusedVariables false
set_option maxRecDepth 10000
end Go.Proofs.YtinbmhbfcoiefaaGreatDoor
/-! Expressions' texts as a grammar; a fault stays. No program in sight. -/
namespace Go.Proofs.YtinbmhbfcoiefaaGreatDoor
open Go Go.E
set_option linter.unusedVariables false
set_option maxRecDepth 10000
mutual
def sizeD : RgD → Nat
  | .mk _ _ l _ _ => sizeK l + 1
def sizeK : List RgD → Nat
  | [] => 0
  | x :: r => sizeD x + sizeK r
end

theorem sizeD_pos : ∀ (n : RgD), 1 ≤ sizeD n
  | .mk _ _ l _ _ => by rw [sizeD]; omega
def hexN (c : Nat) : Option Nat := if isDig c then some (c - 48) else if 97 ≤ c ∧ c ≤ 102 then some (c - 87) else none
def escN (c : Nat) : Option Nat := if c = 110 then some 10 else if c = 114 then some 13 else if c = 116 then some 9 else if c = 48 then some 0 else none
/-- A byte's name. -/
inductive DByte : List UInt8 → Nat → Prop where
  | plain {c : UInt8} (h1 : c.toNat ≠ 92) (h2 : badB c.toNat = false) : DByte [c] c.toNat
  | esc {x : UInt8} {v : Nat} (h : escN x.toNat = some v) : DByte [92, x] v
  | hex {h l : UInt8} {a b : Nat} (h1 : hexN h.toNat = some a) (h2 : hexN l.toNat = some b) : DByte [92, 120, h, l] (16 * a + b)
  | sign {x : UInt8} (h : badEsc x.toNat = false) : DByte [92, x] x.toNat
inductive DPair : List UInt8 → Nat → Nat → Prop where
  | one {l : List UInt8} {c : Nat} (h : DByte l c) : DPair l c c
  | two {l m : List UInt8} {c d : Nat} (h1 : DByte l c) (h2 : DByte m d) (h : c ≤ d) : DPair (l ++ 45 :: m) c d
inductive DItems : List UInt8 → SetD → SetD → Prop where
  | nil (z : SetD) : DItems [] z z
  | cons {l m : List UInt8} {c d : Nat} {z w : SetD} (h1 : DPair l c d) (h2 : DItems m (z.or (rangeD c d)) w) : DItems (l ++ m) z w
inductive DSet : List UInt8 → SetD → Prop where
  | pos {l : List UInt8} {z : SetD} (h : DItems l zeroS z) (h0 : z ≠ zeroS) : DSet (l ++ [93]) z
  | neg {l : List UInt8} {z : SetD} (h : DItems l zeroS z) (h0 : z.not ≠ zeroS) : DSet (94 :: (l ++ [93])) z.not
structure DNum (l : List UInt8) (n : Nat) : Prop where
  digs : ∀ c ∈ l, isDig c.toNat = true
  good : badNum l = false
  val : valOf l = n
  le : n ≤ 256
inductive DCount : List UInt8 → Int → Int → Prop where
  | just {l : List UInt8} {n : Nat} (h : DNum l n) : DCount (l ++ [125]) n n
  | up {l : List UInt8} {n : Nat} (h : DNum l n) : DCount (l ++ [44, 125]) n (-1)
  | both {l m : List UInt8} {n k : Nat} (h : DNum l n) (h2 : DNum m k) (hle : n ≤ k) : DCount (l ++ 44 :: (m ++ [125])) n k
inductive DRep : List UInt8 → Int → Int → Prop where
  | star : DRep [42] 0 (-1)
  | plus : DRep [43] 1 (-1)
  | opt : DRep [63] 0 1
  | count {l : List UInt8} {a b : Int} (h : DCount l a b) : DRep (123 :: l) a b
section
variable (A : List UInt8 → RgD → Prop)
inductive DAtom : List UInt8 → RgD → Prop where
  | paren {l : List UInt8} {n : RgD} (h : A l n) : DAtom (40 :: (l ++ [41])) n
  | any : DAtom [46] (oneD allD)
  | set {l : List UInt8} {z : SetD} (h : DSet l z) : DAtom (91 :: l) (oneD z)
  | byte {l : List UInt8} {c : Nat} (h : DByte l c) (h2 : l ≠ [46]) : DAtom l (oneD (ofD c))
inductive DPiece : List UInt8 → RgD → Prop where
  | atom {l : List UInt8} {n : RgD} (h : DAtom A l n) : DPiece l n
  | rep {l m : List UInt8} {n : RgD} {a b : Int} (h : DPiece l n) (h2 : DRep m a b) : DPiece (l ++ m) (repD n a b)
inductive DPieces : List UInt8 → List RgD → Prop where
  | nil : DPieces [] []
  | cons {l m : List UInt8} {n : RgD} {r : List RgD} (h1 : DPiece A l n) (h2 : DPieces m r) : DPieces (l ++ m) (n :: r)
def catN' : List RgD → RgD
  | [] => emptyD
  | [x] => x
  | l => catD' l
def altN' : List RgD → RgD
  | [x] => x
  | l => altD' l
def DCat (l : List UInt8) (n : RgD) : Prop := ∃ ns, DPieces A l ns ∧ n = catN' ns
inductive DCats : List UInt8 → List RgD → Prop where
  | one {l : List UInt8} {n : RgD} (h : DCat A l n) : DCats l [n]
  | cons {l m : List UInt8} {n : RgD} {r : List RgD} (h1 : DCat A l n) (h2 : DCats m r) : DCats (l ++ 124 :: m) (n :: r)
end
def DAlt : Nat → List UInt8 → RgD → Prop
  | 0 => fun _ _ => False
  | k + 1 => fun l n => ∃ ns, DCats (DAlt k) l ns ∧ n = altN' ns

/-! a fault stays -/
theorem wrong_keep {s : RS} {e f : Nat} (h : s.e ≠ 0) : (s.wrong e f).e = s.e := by unfold RS.wrong; rw [if_neg h]
theorem node_keep {s : RS} (h : s.e ≠ 0) : (nodeS s).e = s.e := by
  unfold nodeS
  split
  · exact wrong_keep (s := { s with n := s.n + 1 }) h
  · rfl
theorem peek_bad {t : List UInt8} {s : RS} (h : s.e ≠ 0) : peekD t s = 0 := by unfold peekD; rw [if_neg (fun x => h x.2)]
theorem must_keep {t : List UInt8} {s : RS} {c : Nat} (h : s.e ≠ 0) : (mustS t c s).e = s.e := by
  unfold mustS
  split
  · rfl
  · exact wrong_keep h
theorem digit_keep {t : List UInt8} {s : RS} {a : Nat} (h : s.e ≠ 0) : (digitD t a s).2.e = s.e := by
  unfold digitD; rw [peek_bad h]; exact wrong_keep (s := s.adv) h
theorem byte_keep {t : List UInt8} {s : RS} (h : s.e ≠ 0) : (byteD t s).2.e = s.e := by
  unfold byteD; rw [peek_bad h]; exact wrong_keep h
theorem wrong_ne {s : RS} {e f : Nat} (he : e ≠ 0) : (s.wrong e f).e ≠ 0 := by
  unfold RS.wrong
  split
  · exact he
  · assumption
theorem eat_keep {t : List UInt8} {s : RS} {c : Nat} : (eatS t c s).e = s.e := by unfold eatS; split <;> rfl
theorem setL_keep {t : List UInt8} {a : Nat} : ∀ {k : Nat} {z : SetD} {s : RS}, s.e ≠ 0 → (setL t a k z s).2.e = s.e
  | 0, z, s, h => rfl
  | k + 1, z, s, h => by rw [setL, if_neg (fun x => h x.1)]
theorem repL_keep {t : List UInt8} {k : Nat} {n : RgD} {s : RS} (h : s.e ≠ 0) : repL t k n s = (n, s) := by
  cases k with
  | zero => rfl
  | succ k => rw [repL, peek_bad h]; rfl
theorem catL_keep {t : List UInt8} {alt : RS → RgD × RS} {k : Nat} {l : List RgD} {s : RS} (h : s.e ≠ 0) : catL t alt k l s = (l, s) := by
  cases k with
  | zero => rfl
  | succ k => rw [catL, peek_bad h]; rfl
theorem altL_keep {t : List UInt8} {alt : RS → RgD × RS} {k : Nat} {l : List RgD} {s : RS} (h : s.e ≠ 0) : altL t alt k l s = (l, s) := by
  cases k with
  | zero => rfl
  | succ k => rw [altL, peek_bad h]; rfl
theorem catOf_keep {l : List RgD} {s : RS} (h : s.e ≠ 0) : (catOf (l, s)).2.e = s.e := by
  unfold catOf
  split
  · rename_i e; cases e; exact node_keep h
  · rename_i e; cases e; rfl
  · rename_i e; cases e; exact node_keep h
theorem altOf_keep {l : List RgD} {s : RS} (h : s.e ≠ 0) : (altOf (l, s)).2.e = s.e := by
  unfold altOf
  split
  · rename_i e; cases e; rfl
  · rename_i e; cases e; exact node_keep h
theorem end_keep {t : List UInt8} {s : RS} (h : s.e ≠ 0) : endS t s = s := by unfold endS; rw [if_neg (fun x => h x.1)]

/-! what is read next -/
theorem peek_at {t r : List UInt8} {s : RS} {c : UInt8} (h0 : s.e = 0) (h : t.drop s.p = c :: r) : peekD t s = c.toNat := by
  have hl : s.p < t.length := by
    rcases Nat.lt_or_ge s.p t.length with h2 | h2
    · exact h2
    · rw [List.drop_eq_nil_of_le h2] at h; cases h
  have hg : t[s.p]? = some c := by rw [← List.head?_drop, h]; rfl
  unfold peekD
  rw [if_pos ⟨hl, h0⟩, List.getElem!_eq_getElem?_getD, hg]; rfl
theorem peek_end {t : List UInt8} {s : RS} (h : t.drop s.p = []) : peekD t s = 0 := by
  unfold peekD; rw [if_neg (fun x => by have := List.drop_eq_nil_iff.1 h; omega)]
theorem drop_app {t l r : List UInt8} {p : Nat} (h : t.drop p = l ++ r) : t.drop (p + l.length) = r := by
  rw [← List.drop_drop, h]; simp
/-- A state that has read so much more. -/
def RS.at' (s : RS) (k n : Nat) : RS := ⟨s.p + k, s.n + n, 0, s.f⟩
theorem adv_at {s : RS} (h : s.e = 0) : s.adv = s.at' 1 0 := by unfold RS.adv RS.at'; rw [h]; rfl
theorem at_at (s : RS) (a b c d : Nat) : (s.at' a b).at' c d = s.at' (a + c) (b + d) := by simp only [RS.at', Nat.add_assoc]
theorem at_zero {s : RS} (h : s.e = 0) : s.at' 0 0 = s := by obtain ⟨p, n, e, f⟩ := s; cases h; rfl
end Go.Proofs.YtinbmhbfcoiefaaGreatDoor
/-! What the grammar says is read. No program in sight. -/
namespace Go.Proofs.YtinbmhbfcoiefaaGreatDoor
open Go Go.E
set_option linter.unusedVariables false
set_option maxRecDepth 10000
theorem at_p (s : RS) (k n : Nat) : (s.at' k n).p = s.p + k := rfl
def headB (c : Nat) : Bool := decide (c = 92) || !badB c
def startB (c : Nat) : Bool := decide (c = 40) || decide (c = 46) || decide (c = 91) || headB c
theorem DByte.head {l : List UInt8} {c : Nat} (h : DByte l c) : ∃ x m, l = x :: m ∧ headB x.toNat = true := by
  cases h with
  | plain h1 h2 => exact ⟨_, _, rfl, by simp [headB, h2]⟩
  | esc h => exact ⟨_, _, rfl, by decide⟩
  | hex h1 h2 => exact ⟨_, _, rfl, by decide⟩
  | sign h => exact ⟨_, _, rfl, by decide⟩
/-- How it ends: as it should, or there are too many nodes, or F. -/
def Out {α : Type} (F : Prop) (s : RS) (len sz : Nat) (v : α) (x : α × RS) : Prop := (x = (v, s.at' len sz) ∧ s.n + sz ≤ 512) ∨ (x.2.e = 2 ∧ 512 < s.n + sz) ∨ (x.2.e = 6 ∧ F)
section
variable {t : List UInt8} {alt : RS → RgD × RS} {A : List UInt8 → RgD → Prop} {F : Prop}
theorem DAtom.head {l : List UInt8} {n : RgD} (h : DAtom A l n) : ∃ x m, l = x :: m ∧ startB x.toNat = true := by
  cases h with
  | paren => exact ⟨_, _, rfl, by decide⟩
  | any => exact ⟨_, _, rfl, by decide⟩
  | set => exact ⟨_, _, rfl, by decide⟩
  | byte hb => obtain ⟨x, m, hx, hh⟩ := hb.head; exact ⟨x, m, hx, by simp [startB, hh]⟩
theorem DPiece.head {l : List UInt8} {n : RgD} (h : DPiece A l n) : ∃ x m, l = x :: m ∧ startB x.toNat = true := by
  induction h with
  | atom h => exact h.head
  | rep h1 h2 ih => obtain ⟨x, m, rfl, hx⟩ := ih; exact ⟨x, _, rfl, hx⟩
theorem sizeD_rep (n : RgD) (a b : Int) : sizeD (repD n a b) = sizeD n + 1 := by rw [repD, sizeD, sizeK, sizeK]
theorem catD_keep (hk : ∀ {s : RS}, s.e ≠ 0 → (alt s).2.e = s.e) {s : RS} (h : s.e ≠ 0) : (catD t alt s).2.e = s.e := by
  unfold catD; rw [catL_keep h, catOf_keep h]
end
theorem alt_keep {t : List UInt8} : ∀ {d : Nat} {s : RS}, s.e ≠ 0 → (altD t d s).2.e = s.e
  | 0, s, h => wrong_keep h
  | d + 1, s, h => by
    have h1 : (catD t (altD t d) s).2.e = s.e := catD_keep (fun h => alt_keep h) h
    rw [altD, altL_keep (by rw [h1]; exact h), altOf_keep (by rw [h1]; exact h), h1]
end Go.Proofs.YtinbmhbfcoiefaaGreatDoor
/-! What is written is of the grammar. No program in sight. -/
namespace Go.Proofs.YtinbmhbfcoiefaaGreatDoor
open Go Go.E
set_option linter.unusedVariables false
set_option maxRecDepth 10000
theorem zeroS_in : SetIn zeroS := SetIn.zero
theorem zeroS_has (c : Nat) : zeroS.has c = false := SetD.has_zero c
theorem range_spec (x y : Nat) : ∀ k, k ≤ 256 → SetIn ((List.range k).foldl (fun s c => if x ≤ c ∧ c ≤ y then s.add c else s) zeroS) ∧ ∀ c, c < 256 → ((List.range k).foldl (fun s c => if x ≤ c ∧ c ≤ y then s.add c else s) zeroS).has c = decide (x ≤ c ∧ c ≤ y ∧ c < k)
  | 0, _ => ⟨zeroS_in, fun c _ => by rw [List.range_zero, List.foldl_nil, zeroS_has, eq_comm, decide_eq_false_iff_not]; omega⟩
  | k + 1, h => by
    obtain ⟨h1, h2⟩ := range_spec x y k (by omega)
    rw [List.range_succ, List.foldl_append, List.foldl_cons, List.foldl_nil]
    split
    · refine ⟨h1.add (by omega), fun c hc => ?_⟩
      rw [SetD.has_add (by omega) hc, h2 c hc, Bool.eq_iff_iff]
      simp only [Bool.or_eq_true, decide_eq_true_iff]; omega
    · refine ⟨h1, fun c hc => ?_⟩
      rw [h2 c hc, decide_eq_decide]; omega
theorem range_in (x y : Nat) : SetIn (rangeD x y) := (range_spec x y 256 (by omega)).1
theorem range_has (x y : Nat) {c : Nat} (hc : c < 256) : (rangeD x y).has c = decide (x ≤ c ∧ c ≤ y) := by
  have := (range_spec x y 256 (by omega)).2 c hc
  rw [rangeD, this, decide_eq_decide]; omega
theorem of_in {c : Nat} (hc : c < 256) : SetIn (ofD c) := zeroS_in.add hc
theorem of_has {c d : Nat} (hc : c < 256) (hd : d < 256) : (ofD c).has d = decide (d = c) := by rw [ofD, SetD.has_add hc hd, zeroS_has, Bool.false_or]
/-! numbers -/
/-! expressions -/
mutual
def insD : RgD → Prop
  | .mk _ s l _ _ => SetIn s ∧ insK l
def insK : List RgD → Prop
  | [] => True
  | x :: r => insD x ∧ insK r
end

mutual
def cdep : RgD → Nat
  | .mk k _ l _ _ => if k = 3 then qdepK l else if k = 4 then 1 + cdepK l else if k = 5 then qdepK l else 0
def qdep : RgD → Nat
  | .mk k _ l _ _ => if k = 1 then 1 else if k = 3 then 1 + qdepK l else if k = 4 then 1 + cdepK l else if k = 5 then qdepK l else 0
def cdepK : List RgD → Nat
  | [] => 0
  | x :: r => Max.max (cdep x) (cdepK r)
def qdepK : List RgD → Nat
  | [] => 0
  | x :: r => Max.max (qdep x) (qdepK r)
end

def adep (n : RgD) : Nat := if n.kind = 4 then cdep n else 1 + cdep n
/-! more brackets may be told -/
section
variable {A B : List UInt8 → RgD → Prop} (hAB : ∀ l n, A l n → B l n)
include hAB
end
theorem wrongD_parts {n : RgD} (h : wrongD n = 0) : formD n = 0 ∧ wrongK n.kids = 0 := by
  obtain ⟨k, s, l, a, b⟩ := n
  rw [wrongD] at h
  split at h
  · contradiction
  · rename_i h1; exact ⟨Decidable.of_not_not h1, h⟩
theorem wrongK_cons {x : RgD} {r : List RgD} (h : wrongK (x :: r) = 0) : wrongD x = 0 ∧ wrongK r = 0 := by
  rw [wrongK] at h
  split at h
  · contradiction
  · rename_i h1; exact ⟨Decidable.of_not_not h1, h⟩
inductive Form : RgD → Prop where
  | none (s a b) : Form (.mk 1 s [] a b)
  | one (s a b) (h : s ≠ zeroS) : Form (.mk 2 s [] a b)
  | cat (s x y l a b) : Form (.mk 3 s (x :: y :: l) a b)
  | alt (s x y l a b) : Form (.mk 4 s (x :: y :: l) a b)
  | rep (s x a b) (h : ¬ (a < 0 ∨ 256 < a ∨ 256 < b ∨ (0 ≤ b ∧ b < a))) : Form (.mk 5 s [x] a b)
theorem form_cases {n : RgD} (h : formD n = 0) : Form n := by
  obtain ⟨k, s, l, a, b⟩ := n
  change (if k = 1 ∨ k = 2 then (if l ≠ [] then 5 else if k = 2 ∧ s = zeroS then 160 else 0) else if k = 3 ∨ k = 4 then (if l.length < 2 then 5 else 0)
    else if k = 5 then (if l.length ≠ 1 then 5 else if a < 0 ∨ 256 < a ∨ 256 < b ∨ (0 ≤ b ∧ b < a) then 1 else 0) else 5) = 0 at h
  by_cases hk : k = 1 ∨ k = 2
  · rw [if_pos hk] at h
    by_cases hl : l ≠ []
    · rw [if_pos hl] at h; cases h
    · rw [if_neg hl] at h
      have hl := Decidable.of_not_not hl
      subst hl
      by_cases h2 : k = 2 ∧ s = zeroS
      · rw [if_pos h2] at h; cases h
      · rcases hk with rfl | rfl
        · exact .none _ _ _
        · exact .one _ _ _ (fun e => h2 ⟨rfl, e⟩)
  · rw [if_neg hk] at h
    by_cases hk2 : k = 3 ∨ k = 4
    · rw [if_pos hk2] at h
      by_cases h2 : l.length < 2
      · rw [if_pos h2] at h; cases h
      · match l with
        | [] => simp at h2
        | [x] => simp at h2
        | x :: y :: l =>
          rcases hk2 with rfl | rfl
          · exact .cat _ _ _ _ _ _
          · exact .alt _ _ _ _ _ _
    · rw [if_neg hk2] at h
      by_cases hk3 : k = 5
      · rw [if_pos hk3] at h
        subst hk3
        by_cases h2 : l.length ≠ 1
        · rw [if_pos h2] at h; cases h
        · rw [if_neg h2] at h
          match l with
          | [] => simp at h2
          | [x] =>
            by_cases h3 : a < 0 ∨ 256 < a ∨ 256 < b ∨ (0 ≤ b ∧ b < a)
            · rw [if_pos h3] at h; cases h
            · exact .rep _ _ _ _ h3
          | x :: y :: l => simp at h2
      · rw [if_neg hk3] at h; cases h
mutual
theorem RgD.ind {P : RgD → Prop} (h : ∀ k s l a b, (∀ x ∈ l, P x) → P (.mk k s l a b)) : ∀ n, P n
  | .mk k s l a b => h k s l a b (RgD.indK h l)
theorem RgD.indK {P : RgD → Prop} (h : ∀ k s l a b, (∀ x ∈ l, P x) → P (.mk k s l a b)) : ∀ (l : List RgD), ∀ x ∈ l, P x
  | [] => fun x hx => absurd hx (by simp)
  | y :: r => List.forall_mem_cons.2 ⟨RgD.ind h y, RgD.indK h r⟩
end

/-! how deep -/
/-! the same, written the same -/
end Go.Proofs.YtinbmhbfcoiefaaGreatDoor
/-! What is read is of the grammar. No program in sight. -/
namespace Go.Proofs.YtinbmhbfcoiefaaGreatDoor
open Go Go.E
set_option linter.unusedVariables false
set_option maxRecDepth 10000
theorem peek_some {t : List UInt8} {s : RS} (h : peekD t s ≠ 0) : s.e = 0 ∧ ∃ c, t.drop s.p = c :: t.drop (s.p + 1) ∧ c.toNat = peekD t s := by
  unfold peekD at h ⊢
  split at h
  · rename_i h1
    rw [if_pos h1]
    refine ⟨h1.2, t[s.p], List.drop_eq_getElem_cons h1.1, ?_⟩
    rw [List.getElem!_eq_getElem?_getD, List.getElem?_eq_getElem h1.1]; rfl
  · exact absurd rfl h
/-- From s on l was read, with so many nodes. -/
def Rdg (t : List UInt8) (s : RS) (l : List UInt8) (j : Nat) (s' : RS) : Prop := s' = s.at' l.length j ∧ t.drop s.p = l ++ t.drop (s.p + l.length)
theorem Rdg.nil {t : List UInt8} {s : RS} (h : s.e = 0) : Rdg t s [] 0 s := ⟨(at_zero h).symm, rfl⟩
theorem Rdg.app {t : List UInt8} {s s1 s2 : RS} {l m : List UInt8} {i j : Nat} (h1 : Rdg t s l i s1) (h2 : Rdg t s1 m j s2) : Rdg t s (l ++ m) (i + j) s2 := by
  obtain ⟨rfl, e1⟩ := h1
  obtain ⟨rfl, e2⟩ := h2
  refine ⟨by rw [at_at, List.length_append], ?_⟩
  rw [at_p] at e2
  rw [List.length_append, ← Nat.add_assoc, List.append_assoc, ← e2]; exact e1
theorem Rdg.one {t : List UInt8} {s : RS} {c : Nat} (h : peekD t s = c) (h0 : c ≠ 0) : ∃ x : UInt8, x.toNat = c ∧ Rdg t s [x] 0 s.adv := by
  obtain ⟨he, x, h1, h2⟩ := peek_some (t := t) (s := s) (by rw [h]; exact h0)
  exact ⟨x, h2.trans h, adv_at he, h1⟩
theorem u8_eq {x : UInt8} {c : Nat} (h : x.toNat = c) (hc : c < 256) : x = UInt8.ofNat c := by rw [← h, UInt8.ofNat_toNat]
theorem Rdg.lit {t : List UInt8} {s : RS} (c : Nat) (h : peekD t s = c) (h0 : c ≠ 0) (hc : c < 256) : Rdg t s [UInt8.ofNat c] 0 s.adv := by
  obtain ⟨x, h1, h2⟩ := Rdg.one h h0
  rwa [u8_eq h1 hc] at h2
theorem wrong_sound {s : RS} {e f : Nat} (he : e ≠ 0) (h : (s.wrong e f).e = 0) : False := wrong_ne he h
theorem digit_sound {t : List UInt8} {s : RS} {a : Nat} (h : (digitD t a s).2.e = 0) : ∃ c : UInt8, Rdg t s [c] 0 (digitD t a s).2 ∧ hexN c.toNat = some (digitD t a s).1 := by
  unfold digitD at h ⊢
  split at h
  · rename_i h1
    rw [if_pos h1]
    obtain ⟨x, h2, h3⟩ := Rdg.one (t := t) (s := s) rfl (by intro e; rw [e] at h1; cases h1)
    exact ⟨x, h3, by rw [h2]; unfold hexN; rw [if_pos h1]⟩
  · rename_i h1
    rw [if_neg h1]
    split at h
    · rename_i h4
      rw [if_pos h4]
      obtain ⟨x, h2, h3⟩ := Rdg.one (t := t) (s := s) rfl (by omega)
      exact ⟨x, h3, by rw [h2]; unfold hexN; rw [if_neg h1, if_pos h4]⟩
    · exact (wrong_sound (by decide) h).elim
theorem byte_sound {t : List UInt8} {s : RS} (h : (byteD t s).2.e = 0) : ∃ l, Rdg t s l 0 (byteD t s).2 ∧ DByte l (byteD t s).1 := by
  unfold byteD at h ⊢
  split at h
  · rename_i h92
    rw [if_pos h92]
    have r0 := Rdg.lit 92 h92 (by decide) (by decide)
    have step : ∀ c v : Nat, peekD t s.adv = c → c ≠ 0 → c < 256 → escN c = some v → ∃ l, Rdg t s l 0 s.adv.adv ∧ DByte l v := fun c v hc h0 hl hv =>
      ⟨_, r0.app (Rdg.lit c hc h0 hl), DByte.esc (by rw [UInt8.toNat_ofNat_of_lt' hl]; exact hv)⟩
    unfold escD at h ⊢
    split at h
    · rename_i e; rw [if_pos e]; exact step _ _ e (by decide) (by decide) rfl
    · rename_i e; rw [if_neg e]
      split at h
      · rename_i e; rw [if_pos e]; exact step _ _ e (by decide) (by decide) rfl
      · rename_i e; rw [if_neg e]
        split at h
        · rename_i e; rw [if_pos e]; exact step _ _ e (by decide) (by decide) rfl
        · rename_i e; rw [if_neg e]
          split at h
          · rename_i e; rw [if_pos e]; exact step _ _ e (by decide) (by decide) rfl
          · rename_i e; rw [if_neg e]
            split at h
            · rename_i e
              rw [if_pos e]
              have r1 := Rdg.lit 120 e (by decide) (by decide)
              have h1 : (digitD t s.p s.adv.adv).2.e = 0 := by
                by_cases hz : (digitD t s.p s.adv.adv).2.e = 0
                · exact hz
                · exact absurd ((digit_keep hz).symm.trans h) hz
              obtain ⟨x, r2, hx⟩ := digit_sound h1
              obtain ⟨y, r3, hy⟩ := digit_sound h
              exact ⟨_, ((r0.app r1).app r2).app r3, DByte.hex hx hy⟩
            · rename_i e
              rw [if_neg e]
              dsimp only at h ⊢
              split at h
              · exact (wrong_sound (by decide) h).elim
              · rename_i hb
                rw [if_neg hb]
                obtain ⟨x, h2, h3⟩ := Rdg.one (t := t) (s := s.adv) rfl (by intro e; rw [e] at hb; exact hb (by decide))
                refine ⟨_, r0.app h3, ?_⟩
                rw [← h2] at hb ⊢
                exact DByte.sign (by simpa using hb)
  · rename_i h92
    rw [if_neg h92]
    split at h
    · exact (wrong_sound (by decide) h).elim
    · rename_i hb
      rw [if_neg hb]
      obtain ⟨x, h2, h3⟩ := Rdg.one (t := t) (s := s) rfl (by intro e; rw [e] at hb; exact hb (by decide))
      refine ⟨_, h3, ?_⟩
      rw [← h2] at hb h92 ⊢
      exact DByte.plain h92 (by simpa using hb)
theorem back_e {α : Type} {f : RS → α × RS} (hk : ∀ {s : RS}, s.e ≠ 0 → (f s).2.e = s.e) {s : RS} (h : (f s).2.e = 0) : s.e = 0 := by
  by_cases hz : s.e = 0
  · exact hz
  · exact absurd ((hk hz).symm.trans h) hz
theorem pair_sound {t : List UInt8} {s : RS} (h : (pairD t s).2.e = 0) : ∃ l, Rdg t s l 0 (pairD t s).2 ∧ ((pairD t s).1.1 ≤ (pairD t s).1.2 → DPair l (pairD t s).1.1 (pairD t s).1.2) := by
  unfold pairD at h ⊢
  split at h
  · rename_i e
    rw [if_pos e]
    have h1 : (byteD t s).2.e = 0 := back_e (f := fun s => byteD t s) (fun h => byte_keep h) (s := (byteD t s).2.adv) h
    obtain ⟨l, r1, d1⟩ := byte_sound h1
    obtain ⟨m, r2, d2⟩ := byte_sound h
    exact ⟨_, (r1.app (Rdg.lit 45 e (by decide) (by decide))).app r2, fun hle => by rw [List.append_assoc]; exact .two d1 d2 hle⟩
  · rename_i e
    rw [if_neg e]
    obtain ⟨l, r1, d1⟩ := byte_sound h
    exact ⟨l, r1, fun _ => .one d1⟩
theorem setL_sound {t : List UInt8} {a : Nat} : ∀ {k : Nat} {z : SetD} {s : RS}, (setL t a k z s).2.e = 0 → ∃ l, Rdg t s l 0 (setL t a k z s).2 ∧ DItems l z (setL t a k z s).1
  | 0, z, s, h => ⟨[], .nil h, .nil z⟩
  | k + 1, z, s, h => by
    have hs : s.e = 0 := back_e (f := fun s => setL t a (k + 1) z s) (fun h => setL_keep h) h
    rw [setL] at h ⊢
    split at h
    · rename_i h1
      rw [if_pos h1]
      split at h
      · exact (wrong_sound (by decide) h).elim
      · rename_i h2
        rw [if_neg h2]
        have h3 : (if (pairD t s).1.2 < (pairD t s).1.1 then (pairD t s).2.wrong 1 a else (pairD t s).2).e = 0 := back_e (f := fun s' => setL t a k (z.or (rangeD (pairD t s).1.1 (pairD t s).1.2)) s') (fun h => setL_keep h) h
        split at h3
        · exact (wrong_sound (by decide) h3).elim
        · rename_i h4
          rw [if_neg h4] at h ⊢
          obtain ⟨l, r1, d1⟩ := pair_sound h3
          obtain ⟨m, r2, d2⟩ := setL_sound h
          exact ⟨_, r1.app r2, .cons (d1 (by omega)) d2⟩
    · rename_i h1
      rw [if_neg h1]; exact ⟨[], .nil hs, .nil z⟩
theorem must_sound {t : List UInt8} {s : RS} {c : Nat} (h0 : c ≠ 0) (hc : c < 256) (h : (mustS t c s).e = 0) : Rdg t s [UInt8.ofNat c] 0 (mustS t c s) := by
  unfold mustS at h ⊢
  split at h
  · rename_i e; rw [if_pos e]; exact Rdg.lit c e h0 hc
  · exact (wrong_sound (by decide) h).elim
theorem set_sound {t : List UInt8} {a : Nat} {s : RS} (h : (setD t a s).2.e = 0) : ∃ l, Rdg t s l 0 (setD t a s).2 ∧ DSet l (setD t a s).1 := by
  unfold setD at h ⊢
  dsimp only at h ⊢
  split at h
  · exact (wrong_sound (by decide) h).elim
  · rename_i h1
    rw [if_neg h1]
    have hz : turnD (decide (peekD t s = 94)) (setL t a (t.length + 1) zeroS (eatS t 94 s)).1 ≠ zeroS := fun e => h1 ⟨h, e⟩
    have r2 := must_sound (by decide) (by decide) h
    have h2 : (setL t a (t.length + 1) zeroS (eatS t 94 s)).2.e = 0 := back_e (f := fun s => ((), mustS t 93 s)) (fun h => must_keep h) h
    obtain ⟨l, r1, d1⟩ := setL_sound h2
    by_cases e : peekD t s = 94
    · have he : eatS t 94 s = s.adv := by unfold eatS; rw [if_pos e]
      rw [he] at r1 r2 d1 hz ⊢
      rw [decide_eq_true e] at hz ⊢
      exact ⟨_, ((Rdg.lit 94 e (by decide) (by decide)).app (r1.app r2)), .neg d1 hz⟩
    · have he : eatS t 94 s = s := by unfold eatS; rw [if_neg e]
      rw [he] at r1 r2 d1 hz ⊢
      rw [decide_eq_false e] at hz ⊢
      exact ⟨_, r1.app r2, .pos d1 hz⟩
theorem digs_all : ∀ (l : List UInt8), ∀ c ∈ digsOf l, isDig c.toNat = true
  | [], c, h => by cases h
  | x :: l, c, h => by
    unfold digsOf at h
    rw [List.takeWhile_cons] at h
    split at h
    · rename_i h1
      rcases List.mem_cons.1 h with rfl | h
      · exact h1
      · exact digs_all l c h
    · cases h
theorem count_sound {t : List UInt8} {s : RS} (h0 : s.e = 0) (h : (countD t s).2.e = 0) : ∃ l, Rdg t s l 0 (countD t s).2 ∧ DNum l (countD t s).1 := by
  unfold countD at h ⊢
  dsimp only at h ⊢
  split at h
  · exact (wrong_sound (by decide) h).elim
  · rename_i h1
    rw [if_neg h1]
    split at h
    · exact (wrong_sound (by decide) h).elim
    · rename_i h2
      rw [if_neg h2]
      refine ⟨digsOf (t.drop s.p), ⟨?_, ?_⟩, digs_all _, by simpa using h1, rfl, by omega⟩
      · obtain ⟨p, n, e, f⟩ := s; cases h0; rfl
      · have h3 : t.drop s.p = digsOf (t.drop s.p) ++ (t.drop s.p).dropWhile (fun c => isDig c.toNat) := List.takeWhile_append_dropWhile.symm
        rw [drop_app h3]; exact h3
theorem counts_sound {t : List UInt8} {s : RS} (h0 : s.e = 0) (h : (countsD t s).2.e = 0) : ∃ l, Rdg t s l 0 (countsD t s).2 ∧ DCount l ((countsD t s).1.1 : Int) (countsD t s).1.2 := by
  unfold countsD at h ⊢
  dsimp only at h ⊢
  have hmk : ∀ {s : RS}, (mustS t 125 s).e = 0 → s.e = 0 := fun h => back_e (f := fun s => ((), mustS t 125 s)) (fun h => must_keep h) h
  by_cases e : peekD t (countD t s).2 = 44
  · rw [if_pos e] at h ⊢
    by_cases e2 : peekD t (countD t s).2.adv = 125
    · rw [if_pos e2] at h ⊢
      dsimp only at h ⊢
      split at h
      · exact (wrong_sound (by decide) h).elim
      · rename_i h1
        rw [if_neg h1]
        obtain ⟨l, r1, d1⟩ := count_sound h0 (hmk (s := (countD t s).2.adv) h)
        exact ⟨_, (r1.app (Rdg.lit 44 e (by decide) (by decide))).app (must_sound (by decide) (by decide) h), by rw [List.append_assoc]; exact .up d1⟩
    · rw [if_neg e2] at h ⊢
      dsimp only at h ⊢
      split at h
      · exact (wrong_sound (by decide) h).elim
      · rename_i h1
        rw [if_neg h1]
        have h3 : (countD t s).2.e = 0 := (peek_some (t := t) (s := (countD t s).2) (by rw [e]; decide)).1
        obtain ⟨l, r1, d1⟩ := count_sound h0 h3
        obtain ⟨m, r2, d2⟩ := count_sound (s := (countD t s).2.adv) h3 (hmk h)
        exact ⟨_, ((r1.app (Rdg.lit 44 e (by decide) (by decide))).app r2).app (must_sound (by decide) (by decide) h), by rw [List.append_assoc, List.append_assoc]; exact .both d1 d2 (by omega)⟩
  · rw [if_neg e] at h ⊢
    dsimp only at h ⊢
    split at h
    · exact (wrong_sound (by decide) h).elim
    · rename_i h1
      rw [if_neg h1]
      obtain ⟨l, r1, d1⟩ := count_sound h0 (hmk h)
      exact ⟨_, r1.app (must_sound (by decide) (by decide) h), .just d1⟩
theorem sizeD_one (z : SetD) : sizeD (oneD z) = 1 := by rw [oneD, sizeD, sizeK]
theorem sizeD_empty : sizeD emptyD = 1 := by rw [emptyD, sizeD, sizeK]
theorem node_sound {t : List UInt8} {s : RS} (h : (nodeS s).e = 0) : Rdg t s [] 1 (nodeS s) ∧ s.e = 0 := by
  have h0 : s.e = 0 := back_e (f := fun s => ((), nodeS s)) (fun h => node_keep h) h
  unfold nodeS at h ⊢
  split at h
  · exact (wrong_sound (by decide) h).elim
  · rename_i h1
    rw [if_neg h1]
    refine ⟨⟨?_, rfl⟩, h0⟩
    obtain ⟨p, n, e, f⟩ := s; cases h0; rfl
section
variable {t : List UInt8} {alt : RS → RgD × RS} {A : List UInt8 → RgD → Prop}
theorem repL_sound : ∀ {k : Nat} {n : RgD} {s : RS}, (repL t k n s).2.e = 0 → ∃ m j, Rdg t s m j (repL t k n s).2 ∧ sizeD (repL t k n s).1 = sizeD n + j ∧ ∀ l, DPiece A l n → DPiece A (l ++ m) (repL t k n s).1
  | 0, n, s, h => ⟨[], 0, .nil h, rfl, fun l hl => by rw [List.append_nil]; exact hl⟩
  | k + 1, n, s, h => by
    have hs : s.e = 0 := back_e (f := fun s => repL t (k + 1) n s) (fun h => by rw [repL_keep h]) h
    have key : ∀ {s1 : RS} {m1 : List UInt8} {a b : Int}, Rdg t s m1 0 s1 → DRep m1 a b → (repL t k (repD n a b) (nodeS s1)).2.e = 0 →
        ∃ m j, Rdg t s m j (repL t k (repD n a b) (nodeS s1)).2 ∧ sizeD (repL t k (repD n a b) (nodeS s1)).1 = sizeD n + j ∧ ∀ l, DPiece A l n → DPiece A (l ++ m) (repL t k (repD n a b) (nodeS s1)).1 := fun {s1 m1 a b} r1 d1 h => by
      have h2 : (nodeS s1).e = 0 := back_e (f := fun s => repL t k (repD n a b) s) (fun h => by rw [repL_keep h]) h
      obtain ⟨r2, _⟩ := node_sound (t := t) h2
      obtain ⟨m, j, r3, h4, h5⟩ := repL_sound h
      refine ⟨m1 ++ m, 1 + j, ?_, by rw [h4, sizeD_rep]; omega, fun l hl => by rw [← List.append_assoc]; exact h5 _ (.rep hl d1)⟩
      have := (r1.app r2).app r3
      rw [List.append_nil] at this
      simpa using this
    rw [repL] at h ⊢
    split at h
    · rename_i e; rw [if_pos e]; exact key (Rdg.lit 42 e (by decide) (by decide)) .star h
    · rename_i e; rw [if_neg e]
      split at h
      · rename_i e; rw [if_pos e]; exact key (Rdg.lit 43 e (by decide) (by decide)) .plus h
      · rename_i e; rw [if_neg e]
        split at h
        · rename_i e; rw [if_pos e]; exact key (Rdg.lit 63 e (by decide) (by decide)) .opt h
        · rename_i e; rw [if_neg e]
          split at h
          · rename_i e
            rw [if_pos e]
            have h2 : (nodeS (countsD t s.adv).2).e = 0 := back_e (f := fun s' => repL t k (repD n (countsD t s.adv).1.1 (countsD t s.adv).1.2) s') (fun h => by rw [repL_keep h]) h
            obtain ⟨m, r2, d2⟩ := counts_sound (t := t) (s := s.adv) hs (node_sound (t := t) h2).2
            exact key ((Rdg.lit 123 e (by decide) (by decide)).app r2) (.count d2) h
          · rename_i e
            rw [if_neg e]
            exact ⟨[], 0, .nil hs, rfl, fun l hl => by rw [List.append_nil]; exact hl⟩
/-- What the reader of brackets is asked. -/
structure AltS (t : List UInt8) (alt : RS → RgD × RS) (A : List UInt8 → RgD → Prop) : Prop where
  run : ∀ {s : RS}, (alt s).2.e = 0 → ∃ l, Rdg t s l (sizeD (alt s).1) (alt s).2 ∧ A l (alt s).1
  keep : ∀ {s : RS}, s.e ≠ 0 → (alt s).2.e = s.e
theorem atom_sound (ha : AltS t alt A) {s : RS} (h : (atomD t alt s).2.e = 0) : ∃ l, Rdg t s l (sizeD (atomD t alt s).1) (atomD t alt s).2 ∧ DAtom A l (atomD t alt s).1 := by
  unfold atomD at h ⊢
  split at h
  · rename_i e
    rw [if_pos e]
    have rm := must_sound (by decide) (by decide) h
    obtain ⟨l, r1, d1⟩ := ha.run (back_e (f := fun s => ((), mustS t 41 s)) (fun h => must_keep h) h)
    refine ⟨_, ?_, .paren d1⟩
    have := (Rdg.lit 40 e (by decide) (by decide)).app (r1.app rm)
    simpa using this
  · rename_i e; rw [if_neg e]
    split at h
    · rename_i e
      rw [if_pos e]
      obtain ⟨r2, _⟩ := node_sound (t := t) h
      exact ⟨_, (Rdg.lit 46 e (by decide) (by decide)).app r2, .any⟩
    · rename_i e46; rw [if_neg e46]
      split at h
      · rename_i e
        rw [if_pos e]
        obtain ⟨r2, h3⟩ := node_sound (t := t) h
        obtain ⟨l, r1, d1⟩ := set_sound h3
        refine ⟨91 :: l, ?_, .set d1⟩
        have := ((Rdg.lit 91 e (by decide) (by decide)).app r1).app r2
        simpa [sizeD_one] using this
      · rename_i e
        rw [if_neg e]
        obtain ⟨r2, h3⟩ := node_sound (t := t) h
        obtain ⟨l, r1, d1⟩ := byte_sound h3
        refine ⟨l, ?_, .byte d1 (fun e2 => ?_)⟩
        · have := r1.app r2
          simpa [sizeD_one] using this
        · subst e2
          have h5 : s.e = 0 := back_e (f := fun s => byteD t s) (fun h => byte_keep h) h3
          exact e46 (peek_at h5 r1.2)
theorem piece_sound (ha : AltS t alt A) {s : RS} (h : (pieceD t alt s).2.e = 0) : ∃ l, Rdg t s l (sizeD (pieceD t alt s).1) (pieceD t alt s).2 ∧ DPiece A l (pieceD t alt s).1 := by
  unfold pieceD at h ⊢
  have h1 : (atomD t alt s).2.e = 0 := back_e (f := fun s' => repL t (t.length + 1) (atomD t alt s).1 s') (fun h => by rw [repL_keep h]) h
  obtain ⟨l, r1, d1⟩ := atom_sound ha h1
  obtain ⟨m, j, r2, e2, d2⟩ := repL_sound (A := A) h
  exact ⟨_, by rw [e2]; exact r1.app r2, d2 _ (.atom d1)⟩
theorem catL_sound (ha : AltS t alt A) : ∀ {k : Nat} {acc : List RgD} {s : RS}, (catL t alt k acc s).2.e = 0 → ∃ l ns, Rdg t s l (sizeK ns) (catL t alt k acc s).2 ∧ (catL t alt k acc s).1 = acc ++ ns ∧ DPieces A l ns
  | 0, acc, s, h => ⟨[], [], .nil h, by rw [List.append_nil]; rfl, .nil⟩
  | k + 1, acc, s, h => by
    have hs : s.e = 0 := back_e (f := fun s => catL t alt (k + 1) acc s) (fun h => by rw [catL_keep h]) h
    rw [catL] at h ⊢
    split at h
    · rename_i e
      rw [if_pos e]
      have h1 : (pieceD t alt s).2.e = 0 := back_e (f := fun s' => catL t alt k (acc ++ [(pieceD t alt s).1]) s') (fun h => by rw [catL_keep h]) h
      obtain ⟨l, r1, d1⟩ := piece_sound ha h1
      obtain ⟨m, ns, r2, e2, d2⟩ := catL_sound ha h
      exact ⟨_, _, by rw [sizeK]; exact r1.app r2, by rw [e2]; simp, .cons d1 d2⟩
    · rename_i e
      rw [if_neg e]; exact ⟨[], [], .nil hs, by rw [List.append_nil], .nil⟩
theorem cat_sound (ha : AltS t alt A) {s : RS} (h : (catD t alt s).2.e = 0) : ∃ l, Rdg t s l (sizeD (catD t alt s).1) (catD t alt s).2 ∧ DCat A l (catD t alt s).1 := by
  unfold catD at h ⊢
  have h1 : (catL t alt (t.length + 1) [] s).2.e = 0 := by
    by_cases hz : (catL t alt (t.length + 1) [] s).2.e = 0
    · exact hz
    · exact absurd ((catOf_keep (l := (catL t alt (t.length + 1) [] s).1) hz).symm.trans h) hz
  obtain ⟨l, ns, r1, e1, d1⟩ := catL_sound ha h1
  rw [List.nil_append] at e1
  generalize catL t alt (t.length + 1) [] s = x at h h1 r1 e1
  obtain ⟨x1, x2⟩ := x
  dsimp only at e1 r1 h1
  subst e1
  match x1, d1 with
  | [], d1 =>
    obtain ⟨r2, _⟩ := node_sound (t := t) (s := x2) h
    exact ⟨l, by show Rdg t s l (sizeD emptyD) (nodeS x2); have := r1.app r2; rwa [List.append_nil, sizeK, Nat.zero_add, ← sizeD_empty] at this, [], d1, rfl⟩
  | [x], d1 => exact ⟨l, by have := r1; rw [sizeK, sizeK] at this; exact this, [x], d1, rfl⟩
  | x :: y :: q, d1 =>
    obtain ⟨r2, _⟩ := node_sound (t := t) (s := x2) h
    exact ⟨l, by have := r1.app r2; rw [List.append_nil] at this; exact this, x :: y :: q, d1, rfl⟩
theorem altL_sound (ha : AltS t alt A) : ∀ {k : Nat} {acc : List RgD} {s : RS}, (altL t alt k acc s).2.e = 0 → ∃ l ns, Rdg t s l (sizeK ns) (altL t alt k acc s).2 ∧ (altL t alt k acc s).1 = acc ++ ns ∧ ∀ m n, DCat A m n → DCats A (m ++ l) (n :: ns)
  | 0, acc, s, h => ⟨[], [], .nil h, by rw [List.append_nil]; rfl, fun m n hm => by rw [List.append_nil]; exact .one hm⟩
  | k + 1, acc, s, h => by
    have hs : s.e = 0 := back_e (f := fun s => altL t alt (k + 1) acc s) (fun h => by rw [altL_keep h]) h
    rw [altL] at h ⊢
    split at h
    · rename_i e
      rw [if_pos e]
      have h1 : (catD t alt s.adv).2.e = 0 := back_e (f := fun s' => altL t alt k (acc ++ [(catD t alt s.adv).1]) s') (fun h => by rw [altL_keep h]) h
      obtain ⟨l, r1, d1⟩ := cat_sound ha h1
      obtain ⟨m, ns, r2, e2, d2⟩ := altL_sound ha h
      refine ⟨[UInt8.ofNat 124] ++ l ++ m, (catD t alt s.adv).1 :: ns, by rw [sizeK]; have := ((Rdg.lit 124 e (by decide) (by decide)).app r1).app r2; rw [Nat.zero_add] at this; exact this, by rw [e2]; simp, fun m' n' hm => ?_⟩
      exact .cons hm (d2 _ _ d1)
    · rename_i e
      rw [if_neg e]; exact ⟨[], [], .nil hs, by rw [List.append_nil], fun m n hm => by rw [List.append_nil]; exact .one hm⟩
end
theorem alt_sound {t : List UInt8} : ∀ {d : Nat} {s : RS}, (altD t d s).2.e = 0 → ∃ l, Rdg t s l (sizeD (altD t d s).1) (altD t d s).2 ∧ DAlt d l (altD t d s).1
  | 0, s, h => (wrong_sound (s := s) (by decide) h).elim
  | d + 1, s, h => by
    have ha : AltS t (altD t d) (DAlt d) := ⟨fun h => alt_sound h, fun h => alt_keep h⟩
    rw [altD] at h ⊢
    have h1 : (altL t (altD t d) (t.length + 1) [(catD t (altD t d) s).1] (catD t (altD t d) s).2).2.e = 0 := by
      by_cases hz : (altL t (altD t d) (t.length + 1) [(catD t (altD t d) s).1] (catD t (altD t d) s).2).2.e = 0
      · exact hz
      · exact absurd ((altOf_keep (l := (altL t (altD t d) (t.length + 1) [(catD t (altD t d) s).1] (catD t (altD t d) s).2).1) hz).symm.trans h) hz
    have h2 : (catD t (altD t d) s).2.e = 0 := back_e (f := fun s' => altL t (altD t d) (t.length + 1) [(catD t (altD t d) s).1] s') (fun h => by rw [altL_keep h]) h1
    obtain ⟨l, r1, d1⟩ := cat_sound ha h2
    obtain ⟨m, ns, r2, e2, d2⟩ := altL_sound ha h1
    have hd := d2 _ _ d1
    have hr := r1.app r2
    generalize altL t (altD t d) (t.length + 1) [(catD t (altD t d) s).1] (catD t (altD t d) s).2 = x at h h1 hr e2
    obtain ⟨x1, x2⟩ := x
    dsimp only at e2 hr h1
    subst e2
    match ns, hd, hr with
    | [], hd, hr => exact ⟨_, by rw [sizeK] at hr; exact hr, _, hd, rfl⟩
    | y :: q, hd, hr =>
      obtain ⟨r3, _⟩ := node_sound (t := t) (s := x2) h
      exact ⟨_, by have := hr.app r3; rw [List.append_nil] at this; exact this, _, hd, rfl⟩
end Go.Proofs.YtinbmhbfcoiefaaGreatDoor
/-! Where a reader can stand. No program in sight. -/
namespace Go.Proofs.YtinbmhbfcoiefaaGreatDoor
open Go Go.E
set_option linter.unusedVariables false
set_option maxRecDepth 10000
def Known (e : Nat) : Prop := e = 1 ∨ e = 2 ∨ e = 5 ∨ e = 6 ∨ e = 160
structure Inv (t : List UInt8) (s : RS) : Prop where
  p0 : s.e = 0 → s.p ≤ t.length
  p : s.p ≤ t.length + 2
  f : s.f ≤ t.length
  e : s.e = 0 ∨ Known s.e
section
variable {t : List UInt8} {s : RS}
theorem Inv.wrong (h : Inv t s) {e f : Nat} (he : Known e) (hf : s.e = 0 → f ≤ t.length) : Inv t (s.wrong e f) := by
  unfold RS.wrong
  split
  · rename_i h0; exact ⟨fun h => by unfold Known at he; dsimp only at h; omega, h.p, hf h0, .inr he⟩
  · exact h
theorem peek_pos (h : peekD t s ≠ 0) : s.e = 0 ∧ s.p < t.length := by
  unfold peekD at h
  split at h
  · rename_i h1; exact ⟨h1.2, h1.1⟩
  · exact absurd rfl h
theorem Inv.adv (h : Inv t s) (hp : peekD t s ≠ 0) : Inv t s.adv := by
  have := peek_pos hp
  exact ⟨fun _ => this.2, by show s.p + 1 ≤ _; omega, h.f, h.e⟩
theorem Inv.advW (h : Inv t s) (hp : s.p ≤ t.length + 1) {a : Nat} (ha : a ≤ t.length) : Inv t (s.adv.wrong 5 a) := by
  unfold RS.wrong
  split
  · exact ⟨fun h => (by cases h), by show s.p + 1 ≤ _; omega, ha, .inr (.inr (.inr (.inl rfl)))⟩
  · rename_i h0; exact ⟨fun h => absurd h h0, by show s.p + 1 ≤ _; omega, h.f, h.e⟩
theorem Inv.digit (h : Inv t s) (hp : s.p ≤ t.length + 1) {a : Nat} (ha : a ≤ t.length) : Inv t (digitD t a s).2 := by
  unfold digitD
  split
  · rename_i h1; exact h.adv (by intro e; rw [e] at h1; cases h1)
  · split
    · exact h.adv (by omega)
    · exact h.advW hp ha
theorem digit_p {a : Nat} : (digitD t a s).2.p = s.p + 1 := by
  unfold digitD
  split
  · rfl
  · split
    · rfl
    · unfold RS.wrong; split <;> rfl
theorem Inv.esc (h : Inv t s) (hp : s.p ≤ t.length) {a : Nat} (ha : a ≤ t.length) : Inv t (escD t a s).2 := by
  unfold escD
  split
  · exact h.adv (by omega)
  · split
    · exact h.adv (by omega)
    · split
      · exact h.adv (by omega)
      · split
        · exact h.adv (by omega)
        · split
          · have h1 := h.adv (by omega)
            have hq : s.adv.p ≤ t.length := (peek_pos (t := t) (s := s) (by omega)).2
            exact (h1.digit (by omega) ha).digit (by rw [digit_p]; omega) ha
          · dsimp only
            split
            · exact h.advW (by omega) ha
            · rename_i hb; exact h.adv (by intro e; rw [e] at hb; exact hb (by decide))
theorem Inv.byte (h : Inv t s) : Inv t (byteD t s).2 := by
  unfold byteD
  split
  · rename_i e
    have hp := peek_pos (t := t) (s := s) (by rw [e]; decide)
    exact (h.adv (by rw [e]; decide)).esc (by show s.p + 1 ≤ _; omega) (by omega)
  · split
    · exact h.wrong (.inr (.inr (.inl rfl))) h.p0
    · rename_i hb; exact h.adv (by intro e; rw [e] at hb; exact hb (by decide))
theorem Inv.pair (h : Inv t s) : Inv t (pairD t s).2 := by
  unfold pairD
  split
  · rename_i e; exact (h.byte.adv (by rw [e]; decide)).byte
  · exact h.byte
theorem Inv.ite {c : Prop} [Decidable c] {a b : RS} (ha : c → Inv t a) (hb : ¬ c → Inv t b) : Inv t (if c then a else b) := by split <;> (first | exact ha (by assumption) | exact hb (by assumption))
theorem Inv.pairs {a : Nat} (ha : a ≤ t.length) : ∀ {k : Nat} {z : SetD} {s : RS}, Inv t s → Inv t (setL t a k z s).2
  | 0, z, s, h => h
  | k + 1, z, s, h => by
    rw [setL]
    split
    · split
      · exact h.wrong (.inr (.inr (.inl rfl))) h.p0
      · exact Inv.pairs ha (Inv.ite (fun _ => h.pair.wrong (.inl rfl) (fun _ => ha)) (fun _ => h.pair))
    · exact h
theorem Inv.eat (h : Inv t s) {c : Nat} (hc : c ≠ 0) : Inv t (eatS t c s) := by
  unfold eatS
  split
  · rename_i e; exact h.adv (by rw [e]; exact hc)
  · exact h
theorem Inv.must (h : Inv t s) {c : Nat} (hc : c ≠ 0) : Inv t (mustS t c s) := by
  unfold mustS
  split
  · rename_i e; exact h.adv (by rw [e]; exact hc)
  · exact h.wrong (.inr (.inr (.inl rfl))) h.p0
theorem Inv.set (h : Inv t s) {a : Nat} (ha : a ≤ t.length) : Inv t (setD t a s).2 := by
  have h1 := (Inv.pairs (a := a) ha (k := t.length + 1) (z := zeroS) (h.eat (c := 94) (by decide))).must (c := 93) (by decide)
  unfold setD
  exact Inv.ite (fun _ => h1.wrong (.inr (.inr (.inr (.inr rfl)))) (fun _ => ha)) (fun _ => h1)
theorem Inv.node (h : Inv t s) : Inv t (nodeS s) := by
  unfold nodeS
  have h1 : Inv t { s with n := s.n + 1 } := ⟨h.p0, h.p, h.f, h.e⟩
  exact Inv.ite (fun _ => h1.wrong (.inr (.inl rfl)) (fun e => h.p0 e)) (fun _ => h1)
theorem digs_le (l : List UInt8) : (digsOf l).length ≤ l.length := List.takeWhile_sublist _ |>.length_le
theorem Inv.count (h : Inv t s) (hp : s.p ≤ t.length) : Inv t (countD t s).2 := by
  have hl := digs_le (t.drop s.p)
  rw [List.length_drop] at hl
  have h1 : Inv t { s with p := s.p + (digsOf (t.drop s.p)).length } := ⟨fun _ => by dsimp only; omega, by dsimp only; omega, h.f, h.e⟩
  unfold countD
  dsimp only
  split
  · exact h1.wrong (.inr (.inr (.inl rfl))) (fun _ => hp)
  · split
    · exact h1.wrong (.inl rfl) (fun _ => hp)
    · exact h1
theorem Inv.counts (h : Inv t s) (hp : s.p ≤ t.length) : Inv t (countsD t s).2 := by
  have h1 := h.count hp
  unfold countsD
  dsimp only
  have h2 : Inv t (if peekD t (countD t s).2 = 44 then (if peekD t (countD t s).2.adv = 125 then ((-1 : Int), (countD t s).2.adv) else (((countD t (countD t s).2.adv).1 : Int), (countD t (countD t s).2.adv).2)) else (((countD t s).1 : Int), (countD t s).2)).2 := by
    split
    · rename_i e
      have h3 := h1.adv (by rw [e]; decide)
      split
      · exact h3
      · exact h3.count (peek_pos (t := t) (s := (countD t s).2) (by rw [e]; decide)).2
    · exact h1
  exact Inv.ite (fun _ => (h2.must (by decide)).wrong (.inl rfl) (fun _ => hp)) (fun _ => h2.must (by decide))
theorem Inv.rep : ∀ {k : Nat} {n : RgD} {s : RS}, Inv t s → Inv t (repL t k n s).2
  | 0, n, s, h => h
  | k + 1, n, s, h => by
    rw [repL]
    split
    · rename_i e; exact Inv.rep (h.adv (by rw [e]; decide)).node
    · split
      · rename_i e; exact Inv.rep (h.adv (by rw [e]; decide)).node
      · split
        · rename_i e; exact Inv.rep (h.adv (by rw [e]; decide)).node
        · split
          · rename_i e; exact Inv.rep ((h.adv (by rw [e]; decide)).counts (peek_pos (t := t) (s := s) (by rw [e]; decide)).2).node
          · exact h
end
section
variable {t : List UInt8} {alt : RS → RgD × RS} (ha : ∀ {s : RS}, Inv t s → s.e = 0 → Inv t (alt s).2)
include ha
theorem Inv.atom {s : RS} (h : Inv t s) (h0 : s.e = 0) : Inv t (atomD t alt s).2 := by
  unfold atomD
  split
  · rename_i e; exact (ha (h.adv (by rw [e]; decide)) h0).must (by decide)
  · split
    · rename_i e; exact (h.adv (by rw [e]; decide)).node
    · split
      · rename_i e; exact ((h.adv (by rw [e]; decide)).set (h.p0 h0)).node
      · exact h.byte.node
theorem Inv.piece {s : RS} (h : Inv t s) (h0 : s.e = 0) : Inv t (pieceD t alt s).2 := Inv.rep (h.atom ha h0)
theorem Inv.cats1 : ∀ {k : Nat} {l : List RgD} {s : RS}, Inv t s → Inv t (catL t alt k l s).2
  | 0, l, s, h => h
  | k + 1, l, s, h => by
    rw [catL]
    split
    · rename_i e; exact Inv.cats1 (h.piece ha (peek_pos e.1).1)
    · exact h
theorem Inv.cat {s : RS} (h : Inv t s) : Inv t (catD t alt s).2 := by
  unfold catD
  have h1 := Inv.cats1 ha (k := t.length + 1) (l := []) h
  generalize catL t alt (t.length + 1) [] s = x at h1
  unfold catOf
  split
  · exact h1.node
  · exact h1
  · exact h1.node
theorem Inv.alts : ∀ {k : Nat} {l : List RgD} {s : RS}, Inv t s → Inv t (altL t alt k l s).2
  | 0, l, s, h => h
  | k + 1, l, s, h => by
    rw [altL]
    split
    · rename_i e; exact Inv.alts ((h.adv (by rw [e]; decide)).cat ha)
    · exact h
end
theorem Inv.alt {t : List UInt8} : ∀ {d : Nat} {s : RS}, Inv t s → Inv t (altD t d s).2
  | 0, s, h => h.wrong (.inr (.inr (.inr (.inl rfl)))) h.p0
  | d + 1, s, h => by
    have h1 := Inv.alts (fun {s} h _ => Inv.alt (d := d) h) (k := t.length + 1) (l := [(catD t (altD t d) s).1]) (h.cat (fun {s} h _ => Inv.alt (d := d) h))
    unfold altD
    generalize altL t (altD t d) (t.length + 1) [(catD t (altD t d) s).1] (catD t (altD t d) s).2 = x at h1
    unfold altOf
    split
    · exact h1
    · exact h1.node
end Go.Proofs.YtinbmhbfcoiefaaGreatDoor
/-! How many nodes a reader can have counted. No program in sight. -/
namespace Go.Proofs.YtinbmhbfcoiefaaGreatDoor
open Go Go.E
set_option linter.unusedVariables false
set_option maxRecDepth 10000
structure NB (B : Nat) (s : RS) : Prop where
  n0 : s.e = 0 → s.n ≤ 512
  n : s.n ≤ B
section
variable {t : List UInt8} {s : RS} {B : Nat}
theorem wrong_n (s : RS) (e f : Nat) : (s.wrong e f).n = s.n := by unfold RS.wrong; split <;> rfl
theorem NB.wrong (h : NB B s) {e f : Nat} (he : e ≠ 0) : NB B (s.wrong e f) := ⟨fun h2 => (wrong_ne he h2).elim, by rw [wrong_n]; exact h.n⟩
theorem NB.le (h : NB B s) {C : Nat} (hc : B ≤ C) : NB C s := ⟨h.n0, Nat.le_trans h.n hc⟩
theorem NB.node (h : NB B s) : NB (B + 1) (nodeS s) := by
  have := h.n
  unfold nodeS
  split
  · exact ⟨fun h2 => (wrong_ne (by decide) h2).elim, by rw [wrong_n]; dsimp only; omega⟩
  · exact ⟨fun _ => by dsimp only; omega, by dsimp only; omega⟩
theorem digit_n {a : Nat} : (digitD t a s).2.n = s.n := by
  unfold digitD
  repeat' split
  all_goals first | rfl | exact wrong_n s.adv _ _
theorem esc_n {a : Nat} : (escD t a s).2.n = s.n := by
  unfold escD
  repeat' split
  all_goals first | rfl | exact wrong_n s.adv _ _ | (dsimp only; rw [digit_n, digit_n]; rfl) | skip
theorem byte_n : (byteD t s).2.n = s.n := by
  unfold byteD
  repeat' split
  all_goals first | rfl | exact wrong_n s _ _ | (rw [esc_n]; rfl)
theorem pair_n : (pairD t s).2.n = s.n := by
  unfold pairD
  split
  · dsimp only; rw [byte_n]; exact byte_n
  · exact byte_n
theorem setL_n {a : Nat} : ∀ {k : Nat} {z : SetD} {s : RS}, (setL t a k z s).2.n = s.n
  | 0, z, s => rfl
  | k + 1, z, s => by
    rw [setL]
    split
    · split
      · exact wrong_n s _ _
      · rw [setL_n]
        split
        · rw [wrong_n, pair_n]
        · exact pair_n
    · rfl
theorem must_n {c : Nat} : (mustS t c s).n = s.n := by
  unfold mustS
  split
  · rfl
  · exact wrong_n s _ _
theorem eat_n {c : Nat} : (eatS t c s).n = s.n := by
  unfold eatS
  split <;> rfl
theorem set_n {a : Nat} : (setD t a s).2.n = s.n := by
  unfold setD
  dsimp only
  split
  · rw [wrong_n, must_n, setL_n, eat_n]
  · rw [must_n, setL_n, eat_n]
theorem count_n : (countD t s).2.n = s.n := by
  unfold countD
  dsimp only
  repeat' split
  all_goals first | rfl | exact wrong_n _ _ _
theorem counts_n : (countsD t s).2.n = s.n := by
  unfold countsD
  dsimp only
  have h : (if peekD t (countD t s).2 = 44 then (if peekD t (countD t s).2.adv = 125 then ((-1 : Int), (countD t s).2.adv) else (((countD t (countD t s).2.adv).1 : Int), (countD t (countD t s).2.adv).2)) else (((countD t s).1 : Int), (countD t s).2)).2.n = s.n := by
    split
    · split
      · exact count_n
      · dsimp only; rw [count_n]; exact count_n
    · exact count_n
  generalize (if peekD t (countD t s).2 = 44 then (if peekD t (countD t s).2.adv = 125 then ((-1 : Int), (countD t s).2.adv) else (((countD t (countD t s).2.adv).1 : Int), (countD t (countD t s).2.adv).2)) else (((countD t s).1 : Int), (countD t s).2)) = x at h
  split
  · rw [wrong_n, must_n, h]
  · rw [must_n, h]
theorem NB.of (h : NB B s) {s' : RS} (hn : s'.n = s.n) (hk : s'.e = 0 → s.e = 0) : NB B s' := ⟨fun h2 => by rw [hn]; exact h.n0 (hk h2), by rw [hn]; exact h.n⟩
theorem NB.small (h : NB B s) (h0 : s.e = 0) {s' : RS} (hn : s'.n = s.n) : NB 513 (nodeS s') := by
  have h1 := h.n0 h0
  have : NB 512 s' := ⟨fun _ => by omega, by omega⟩
  exact this.node
theorem NB.rep (hB : 513 ≤ B) : ∀ {k : Nat} {n : RgD} {s : RS}, NB B s → NB B (repL t k n s).2
  | 0, n, s, h => h
  | k + 1, n, s, h => by
    rw [repL]
    split
    · rename_i e; exact NB.rep hB ((h.small (peek_pos (t := t) (s := s) (by rw [e]; decide)).1 (s' := s.adv) rfl).le hB)
    · split
      · rename_i e; exact NB.rep hB ((h.small (peek_pos (t := t) (s := s) (by rw [e]; decide)).1 (s' := s.adv) rfl).le hB)
      · split
        · rename_i e; exact NB.rep hB ((h.small (peek_pos (t := t) (s := s) (by rw [e]; decide)).1 (s' := s.adv) rfl).le hB)
        · split
          · rename_i e; exact NB.rep hB ((h.small (peek_pos (t := t) (s := s) (by rw [e]; decide)).1 (s' := (countsD t s.adv).2) counts_n).le hB)
          · exact h
end
section
variable {t : List UInt8} {alt : RS → RgD × RS} {B C : Nat} (hB : 513 ≤ B) (ha : ∀ {s : RS}, s.e = 0 → s.n ≤ 512 → NB B (alt s).2)
include hB ha
theorem NB.atom {s : RS} (h0 : s.e = 0) (hn : s.n ≤ 512) : NB B (atomD t alt s).2 := by
  have h : NB 512 s := ⟨fun _ => hn, hn⟩
  unfold atomD
  split
  · have h1 := ha (s := s.adv) h0 hn
    exact h1.of must_n (fun h2 => back_e (f := fun s => ((), mustS t 41 s)) (fun h => must_keep h) h2)
  · split
    · exact (h.small h0 (s' := s.adv) rfl).le hB
    · split
      · exact (h.small h0 (s' := (setD t s.p s.adv).2) set_n).le hB
      · exact (h.small h0 (s' := (byteD t s).2) byte_n).le hB
theorem NB.piece {s : RS} (h0 : s.e = 0) (hn : s.n ≤ 512) : NB B (pieceD t alt s).2 := NB.rep hB (NB.atom hB ha h0 hn)
theorem NB.cats1 : ∀ {k : Nat} {l : List RgD} {s : RS}, NB B s → NB B (catL t alt k l s).2
  | 0, l, s, h => h
  | k + 1, l, s, h => by
    rw [catL]
    split
    · rename_i e
      have h0 := (peek_pos e.1).1
      exact NB.cats1 (NB.piece hB ha h0 (h.n0 h0))
    · exact h
theorem NB.cat {s : RS} (h : NB B s) : NB (B + 1) (catD t alt s).2 := by
  unfold catD
  have h1 := NB.cats1 (t := t) hB ha (k := t.length + 1) (l := []) h
  generalize catL t alt (t.length + 1) [] s = x at h1
  unfold catOf
  split
  · exact h1.node
  · exact h1.le (by omega)
  · exact h1.node
theorem NB.alts : ∀ {k : Nat} {l : List RgD} {s : RS}, NB (B + 1) s → NB (B + 1) (altL t alt k l s).2
  | 0, l, s, h => h
  | k + 1, l, s, h => by
    rw [altL]
    split
    · rename_i e
      have h0 := (peek_pos (t := t) (s := s) (by rw [e]; decide)).1
      exact NB.alts (NB.cat hB ha (s := s.adv) ⟨fun _ => h.n0 h0, Nat.le_trans (h.n0 h0) (by omega)⟩)
    · exact h
end
theorem NB.alt {t : List UInt8} : ∀ {d : Nat} {s : RS}, s.e = 0 → s.n ≤ 512 → NB (513 + 2 * d) (altD t d s).2
  | 0, s, h0, hn => by
    have h : NB 513 s := ⟨fun _ => hn, by omega⟩
    exact h.wrong (by decide)
  | d + 1, s, h0, hn => by
    have ha : ∀ {s : RS}, s.e = 0 → s.n ≤ 512 → NB (513 + 2 * d) (altD t d s).2 := fun h0 hn => NB.alt h0 hn
    have h : NB (513 + 2 * d) s := ⟨fun _ => hn, by omega⟩
    have h1 := NB.alts (t := t) (by omega) ha (k := t.length + 1) (l := [(catD t (altD t d) s).1]) (NB.cat (t := t) (s := s) (by omega) ha h)
    unfold altD
    generalize altL t (altD t d) (t.length + 1) [(catD t (altD t d) s).1] (catD t (altD t d) s).2 = x at h1
    unfold altOf
    split
    · exact h1.le (by omega)
    · exact h1.node
end Go.Proofs.YtinbmhbfcoiefaaGreatDoor
/-! What is of the grammar may be. No program in sight. -/
namespace Go.Proofs.YtinbmhbfcoiefaaGreatDoor
open Go Go.E
set_option linter.unusedVariables false
set_option maxRecDepth 10000
section
variable {A : List UInt8 → RgD → Prop} (hA : ∀ l n, A l n → wrongD n = 0)
include hA
end
end Go.Proofs.YtinbmhbfcoiefaaGreatDoor
end
