/- Regions that draw their order: the operations that only look are taken first, up to one that does more, which is then the only one that may come up; and so on. No program in sight. -/
import Derived.Test.YtknfebfdehdapaaDoorV7
namespace Go.E
open Go
set_option linter.unusedVariables false
set_option linter.unusedSimpArgs false
section
variable {P : Program} {ops : Array Oper} {Q : Exit → Act → World → Prop} {S : World → Prop} {B : Array Bool → Bool}
/-- Whatever order is picked; till B holds of what has come up, S holds behind each operation. -/
def wpU (P : Program) (ops : Array Oper) (Q : Exit → Act → World → Prop) (S : World → Prop) (B : Array Bool → Bool) : Nat → Array Bool → Act → World → Prop
  | 0, ls, a, w => Region.ready .any ops ls = [] ∧ Q .normal a w
  | k + 1, ls, a, w => (Region.ready .any ops ls = [] → Q .normal a w) ∧
    ∀ i ∈ Region.ready .any ops ls, wpOp P ops Q i (fun a' w' => (B (ls.setIfInBounds i true) = false → S w') ∧ wpU P ops Q S B k (ls.setIfInBounds i true) a' w') a w
theorem wpU.any : ∀ (k : Nat) (ls : Array Bool) (a : Act) (w : World), wpU P ops Q S B k ls a w → wpAny P .any ops Q k ls a w
  | 0, _, _, _, h => h
  | k + 1, _, _, _, h => ⟨h.1, fun i hi => wpOp_mono (fun a' w' h' => wpU.any k _ a' w' h'.2) (h.2 i hi)⟩
/-- B holds already: nothing is asked of the worlds; another S, another B may be taken. -/
theorem wpU.next {S' : World → Prop} {B' : Array Bool → Bool} (hm : ∀ ls i, B ls = true → B (ls.setIfInBounds i true) = true) : ∀ (k : Nat) (ls : Array Bool) (a : Act) (w : World), B ls = true → wpU P ops Q S' B' k ls a w → wpU P ops Q S B k ls a w
  | 0, _, _, _, _, h => h
  | k + 1, ls, _, _, hb, h => ⟨h.1, fun i hi => wpOp_mono (fun a' w' h' => ⟨fun e => (by rw [hm ls i hb] at e; cases e), wpU.next hm k _ a' w' (hm ls i hb) h'.2⟩) (h.2 i hi)⟩
theorem wpU.narrow {S' : World → Prop} (hS : ∀ w, S' w → S w) : ∀ (k : Nat) (ls : Array Bool) (a : Act) (w : World), wpU P ops Q S' B k ls a w → wpU P ops Q S B k ls a w
  | 0, _, _, _, h => h
  | k + 1, ls, _, _, h => ⟨h.1, fun i hi => wpOp_mono (fun a' w' h' => ⟨fun e => hS _ (h'.1 e), wpU.narrow hS k _ a' w' h'.2⟩) (h.2 i hi)⟩
/-- Whatever has come up, all that it waits for has, too. -/
def Closed (ops : Array Oper) (ls : Array Bool) : Prop := ∀ (j : Nat) (o : Oper), ops[j]? = some o → ls.getD j false = true → ∀ e ∈ o.after, Region.binds .any e = true → ls.getD e.on false = true
theorem Closed.set {ls : Array Bool} {j : Nat} (h : Closed ops ls) (hj : j ∈ Region.ready .any ops ls) : Closed ops (ls.setIfInBounds j true) := fun k o hk hd e he hb => by
  by_cases ek : j = k
  · subst ek
    obtain ⟨_, o', ho', hall⟩ := mem_ready.1 hj
    rw [hk] at ho'; cases ho'
    exact getD_set_true (hall e he hb)
  · rw [getD_set_ne false ek] at hd
    exact getD_set_true (h k o hk hd e he hb)
theorem ready_undone {ls : Array Bool} {i : Nat} (h : i ∈ Region.ready .any ops ls) : ls.getD i false = false := by
  have h1 := (mem_ready.1 h).1
  rcases Nat.lt_or_ge i ls.size with h' | h'
  · simp [h'] at h1 ⊢; exact h1
  · simp [Array.getElem?_eq_none h'] at h1
theorem wpU.first {i : Nat} {oi : Oper} {v : Value} (hi : ops[i]? = some oi) (hsel : ∀ (j : Nat) (o : Oper) cs b, ops[j]? = some o → o.op ≠ .select cs b) (hQ : ∀ c a w, Q (.panic c) (a.put oi.dst v) w → Q (.panic c) a w)
    (hB : ∀ (ls : Array Bool) (j : Nat), Closed ops ls → j ∈ Region.ready .any ops ls → B ls = false → B (ls.setIfInBounds j true) = true → ls.getD i false = true)
    (hB2 : ∀ (ls : Array Bool) (i j : Nat), B (ls.setIfInBounds i true) = false → B ((ls.setIfInBounds i true).setIfInBounds j true) = true → B (ls.setIfInBounds j true) = true) : ∀ (k : Nat) (ls : Array Bool) (a : Act) (w : World), B ls = false → Closed ops ls →
      (∀ j oj, ops[j]? = some oj → j ≠ i → ls.getD j true = false → (∀ e ∈ oj.after, Region.binds .any e = true → e.on ≠ i) → oi.apart ops oj = true) →
      i ∈ Region.ready .any ops ls → YieldsIf P ops S oi v a → S w → wpU P ops Q S B k (ls.setIfInBounds i true) (a.put oi.dst v) w → wpU P ops Q S B (k + 1) ls a w := by
  intro k
  induction k with
  | zero =>
    intro ls a w _ _ _ hr hy hS H
    refine ⟨fun e => (by rw [e] at hr; cases hr), fun j hj => ?_⟩
    by_cases e : j = i
    · subst e; exact hy.wpOp hi hS ⟨fun _ => hS, H⟩
    · have := ready_mono hj e
      rw [H.1] at this; cases this
  | succ k ih =>
    intro ls a w hBl hcl hap hr hy hS H
    refine ⟨fun e => (by rw [e] at hr; cases hr), fun j hj => ?_⟩
    by_cases e : j = i
    · subst e; exact hy.wpOp hi hS ⟨fun _ => hS, H⟩
    · have hjr := H.2 j (ready_mono hj e)
      have waits : ∀ m om, m ∈ Region.ready .any ops ls → ops[m]? = some om → ∀ x ∈ om.after, Region.binds .any x = true → x.on ≠ i := by
        intro m om hm hom x hx hb hxi
        obtain ⟨_, o2, ho2, hall⟩ := mem_ready.1 hm
        rw [hom] at ho2; cases ho2
        have h1 := hall x hx hb
        have hiu := (mem_ready.1 hr).1
        rw [hxi] at h1
        rcases Nat.lt_or_ge i ls.size with h' | h'
        · simp [h'] at hiu h1; rw [hiu] at h1; cases h1
        · simp [Array.getElem?_eq_none h'] at h1
      obtain ⟨hju, oj, hoj, _⟩ := mem_ready.1 hj
      have hno := waits j oj hj hoj
      have hiu := ready_undone hr
      have hBi : B (ls.setIfInBounds i true) = false := by
        cases hb : B (ls.setIfInBounds i true) with
        | false => rfl
        | true => have := hB ls i hcl hr hBl hb; rw [hiu] at this; cases this
      have hBj : B (ls.setIfInBounds j true) = false := by
        cases hb : B (ls.setIfInBounds j true) with
        | false => rfl
        | true => have := hB ls j hcl hj hBl hb; rw [hiu] at this; cases this
      have hBij : B ((ls.setIfInBounds i true).setIfInBounds j true) = false := by
        cases hb : B ((ls.setIfInBounds i true).setIfInBounds j true) with
        | false => rfl
        | true => have := hB2 ls i j hBi hb; rw [hBj] at this; cases this
      have hput := wpOp_putIf hoj (hap j oj hoj e hju hno) (fun cs b => hsel i oi cs b hi) (fun cs b => hsel j oj cs b hoj) hQ hy hjr
      refine wpOp_mono (fun a' w' h3 => ?_) hput
      have hS' := h3.2.1 hBij
      refine ⟨fun _ => hS', ih _ a' w' hBj (hcl.set hj) (fun m om hom hmi hmu hmn => ?_) (ready_mono hr (Ne.symm e)) h3.1 hS' ?_⟩
      · refine hap m om hom hmi ?_ hmn
        by_cases ejm : j = m
        · subst ejm; exact hju
        · rwa [getD_set_ne true ejm] at hmu
      · rw [Array.setIfInBounds_comm _ _ e]; exact h3.2.2
end
/-- Operation e waits for i. -/
def waits (ops : Array Oper) (e i : Nat) : Bool := match ops[e]? with
  | some o => o.after.any fun x => Region.binds .any x && x.on == i
  | none => false
/-- .. if need be through others. -/
def waitsT (ops : Array Oper) : Nat → Nat → Nat → Bool
  | 0, _, _ => false
  | k + 1, e, i => waits ops e i || (match ops[e]? with
    | some o => o.after.any fun x => Region.binds .any x && waitsT ops k x.on i
    | none => false)
theorem waitsT.done {ops : Array Oper} {ls : Array Bool} (hc : Closed ops ls) : ∀ {k m i : Nat}, waitsT ops k m i = true → (∀ o, ops[m]? = some o → ∀ e ∈ o.after, Region.binds .any e = true → ls.getD e.on false = true) → ls.getD i false = true
  | 0, _, _, h, _ => by cases h
  | k + 1, m, i, h, hm => by
    unfold waitsT at h
    rw [Bool.or_eq_true] at h
    rcases h with h | h
    · unfold waits at h
      split at h
      · rename_i o ho
        simp only [Array.any_eq_true', Bool.and_eq_true, beq_iff_eq] at h
        obtain ⟨x, hx, hb, rfl⟩ := h
        exact hm o ho x hx hb
      · cases h
    · split at h
      · rename_i o ho
        simp only [Array.any_eq_true', Bool.and_eq_true] at h
        obtain ⟨x, hx, hb, h2⟩ := h
        exact waitsT.done hc h2 (fun o2 ho2 => hc x.on o2 ho2 (hm o ho x hx hb))
      · cases h
/-- The order in which they are told: what only looks (true), or what does more, and is awaited by all of its phase (false, true) or keeps what was seen (false, false). -/
inductive Fo where
  | leaf | nil | cons (i : Nat) (sub sib : Fo)
def Fo.heads : Fo → List Nat
  | .cons i _ sib => i :: sib.heads
  | _ => []
inductive Tk where
  | look (i : Nat) | last (i : Nat) | keep (i : Nat) | rest (fo : Fo)
/-- All orders in which the rest may come up. -/
def foOk (ops : Array Oper) : Fo → Nat → Array Bool → Bool
  | .leaf, _, ls => (Region.ready .any ops ls).isEmpty
  | .nil, _, _ => true
  | .cons i sub sib, k, ls => (match k with
    | 0 => false
    | k + 1 => (match sub with
      | .leaf => true
      | .nil => false
      | .cons i2 _ b2 => Region.ready .any ops (ls.setIfInBounds i true) == i2 :: b2.heads) && foOk ops sub k (ls.setIfInBounds i true)) && foOk ops sib k ls
/-- The operation by which the phase ends. -/
def phase : List Tk → Option Nat
  | [] => none
  | .last i :: _ => some i
  | _ :: r => phase r
def phB (ph : Option Nat) (ls : Array Bool) : Bool := match ph with
  | some e => ls.getD e false
  | none => false
def planOk (ops : Array Oper) : List Tk → Array Bool → Bool
  | [], ls => (Region.ready .any ops ls).isEmpty
  | .look i :: r, ls => !phB (phase r) ls && (Region.free .any ops ls i && (Region.ready .any ops ls).contains i && (match phase r with | some e => waitsT ops 9 e i | none => true)) && planOk ops r (ls.setIfInBounds i true)
  | .last i :: r, ls => !ls.getD i false && (Region.ready .any ops ls == [i]) && (ls.setIfInBounds i true).getD i false && planOk ops r (ls.setIfInBounds i true)
  | .keep i :: r, ls => !phB (phase r) ls && !phB (phase r) (ls.setIfInBounds i true) && (Region.ready .any ops ls == [i]) && planOk ops r (ls.setIfInBounds i true)
  | .rest fo :: r, ls => (match fo with | .cons i _ b => Region.ready .any ops ls == i :: b.heads | _ => false) && (match phase r with | none => true | some _ => false) && foOk ops fo (r.length + 1) ls
/-- An operation that only looks. -/
structure QOk (P : Program) (op : Op) (ty : TypeId) (env : Env) (ro : Ro) (own : Chs) (K : Value → Prop) : Prop where
  run : ∃ v, (∀ h, Sat ro own h → ∀ d pos af g, Pu P ⟨d, op, ty, pos, af, g⟩ env h v) ∧ K v
def vQ (P : Program) (T : TT) (op : Op) (ty : TypeId) (d : Option Nat) (B : Chs) (k : Kt) (env : Env) (ro : Ro) (own : Chs) : Prop := match pure1 T op env with
  | .ok v => setK d v k env ro own
  | .req p v => Stop (p ∧ setK d v k env ro own)
  | .no => Stop (QOk P op ty env ro B (fun v => setK d v k env ro own))
/-- Does an operation come, ahead of the phase's end, that changes something? -/
def hasKeep : List Tk → Bool
  | .keep _ :: _ => true
  | .rest _ :: _ => true
  | .look _ :: r => hasKeep r
  | _ => false
/-- What those that only look may lean on, till the phase ends: some of the parts. -/
structure Bs (own : Chs) (F : Chs → Prop) : Prop where
  run : ∃ b, Sup own b ∧ F b
/-- .. behind an operation that changes something: more may be leant on. -/
structure Bk (own B : Chs) (F : Chs → Prop) : Prop where
  run : ∃ b, Sup own b ∧ Sup b B ∧ F b
theorem Bk.all {own B : Chs} {F : Chs → Prop} (hs : Sup own B) (h : F own) : Bk own B F := ⟨own, Sup.all _, hs, h⟩
theorem Bk.same {own B : Chs} {F : Chs → Prop} (hs : Sup own B) (h : F B) : Bk own B F := ⟨B, hs, Sup.all _, h⟩
def nextB (r : List Tk) (F : Chs → Kt → Kt) (k : Kt) : Kt := fun env ro own => match hasKeep r with
  | true => Stop (Bs own (fun b => F b k env ro own))
  | false => F own k env ro own
theorem nextB.spec {r : List Tk} {F : Chs → Kt → Kt} {k : Kt} {env : Env} {ro : Ro} {own : Chs} (h : nextB r F k env ro own) : ∃ b, (∀ ro' g, Sat ro' own g → Sat ro' b g) ∧ F b k env ro own := by
  unfold nextB at h
  split at h
  · obtain ⟨b, h1, h2⟩ := h.run.run
    exact ⟨b, fun _ _ hg => hg.sup h1, h2⟩
  · exact ⟨own, fun _ _ hg => hg, h⟩
/-- The rest in all orders, up to a condition. -/
def vOne (P : Program) (T : TT) (all : List Oper) (i : Nat) (k : Kt) : Kt := fun env ro own => match all[i]? with
  | some ⟨d, op, ty, _, _, none⟩ => vOp P T op ty d k env ro own
  | _ => False
def vFo (P : Program) (T : TT) (all : List Oper) (B : Chs) (Φ : Kt) (fo : Fo) : Kt := Fo.rec (motive := fun _ => Kt) Φ (fun _ _ _ => True) (fun i _ _ sub sib env ro own => vOne P T all i (fun env' ro' own' => Stop (Sup own' B ∧ sub env' ro' own')) env ro own ∧ sib env ro own) fo
/-- All orders lead to a condition, from which it goes on. -/
structure AllOk (F : Kt → Prop) (k : Kt) (ro : Ro) : Prop where
  run : ∃ Φ : Kt, F Φ ∧ ∀ env' ro' own', Le ro ro' → Φ env' ro' own' → ∃ env0 own0, Sub2 env0 env' ∧ Sup own' own0 ∧ k env0 ro' own0
theorem AllOk.at {F : Kt → Prop} {k : Kt} {ro : Ro} {ι : Type} (f : ι → Env) (O : ι → Chs) (I : ι → Prop) (h : F (fun env' ro' own' => ro' = ro ∧ ∃ i, Sub (f i) env' ∧ Sup own' (O i) ∧ I i)) (hk : ∀ i, I i → k (f i) ro (O i)) : AllOk F k ro :=
  ⟨_, h, fun env' ro' own' _ ⟨e, i, h1, h2, h3⟩ => ⟨f i, O i, fun t v hv => h1.look hv, h2, by rw [e]; exact hk i h3⟩⟩
def vH1 (P : Program) (T : TT) (all : List Oper) (x : Tk) (r : List Tk) (ih : List (Nat × Bool) → Chs → Kt → Kt) (K : List (Nat × Bool)) (B : Chs) (k : Kt) : Kt := fun env ro own => match x with
  | .look i => (match all[i]? with
    | some ⟨d, op, ty, _, _, none⟩ => vQ P T op ty d B (ih K B k) env ro own
    | some ⟨d, op, ty, _, _, some (j, b)⟩ => (match dstOf all j with
      | some t => (match look env t with
        | some (.bool c) => (match kn K t with
          | some _ => bif sameB c b then vQ P T op ty d B (ih K B k) env ro own else setK d undef (ih K B k) env ro own
          | none => Stop (GJ c b false (vQ P T op ty d B (ih ((t, b) :: K) B k) ((t, .bool b) :: env) ro own) (setK d undef (ih ((t, !b) :: K) B k) ((t, .bool !b) :: env) ro own) (fun _ => False) (fun _ => False)))
        | some _ => setK d undef (ih K B k) env ro own
        | none => False)
      | none => False)
    | none => False)
  | .last i => (match all[i]? with
    | some ⟨d, op, ty, _, _, none⟩ => vOp P T op ty d (nextB r (ih K) k) env ro own
    | some ⟨d, op, ty, _, _, some (j, b)⟩ => (match dstOf all j with
      | some t => (match look env t with
        | some (.bool c) => (match kn K t with
          | some _ => bif sameB c b then vOp P T op ty d (nextB r (ih K) k) env ro own else setK d undef (nextB r (ih K) k) env ro own
          | none => Stop (GJ c b false (vOp P T op ty d (nextB r (ih ((t, b) :: K)) k) ((t, .bool b) :: env) ro own) (setK d undef (nextB r (ih ((t, !b) :: K)) k) ((t, .bool !b) :: env) ro own) (fun _ => False) (fun _ => False)))
        | some _ => setK d undef (nextB r (ih K) k) env ro own
        | none => False)
      | none => False)
    | none => False)
  | .keep i => (match all[i]? with
    | some ⟨d, op, ty, _, _, none⟩ => vOp P T op ty d (fun env' ro' own' => Stop (Bk own' B (fun B' => ih K B' k env' ro' own'))) env ro own
    | some ⟨d, op, ty, _, _, some (j, b)⟩ => (match dstOf all j with
      | some t => (match look env t with
        | some (.bool c) => (match kn K t with
          | some _ => bif sameB c b then vOp P T op ty d (fun env' ro' own' => Stop (Bk own' B (fun B' => ih K B' k env' ro' own'))) env ro own else setK d undef (ih K B k) env ro own
          | none => Stop (GJ c b false (vOp P T op ty d (fun env' ro' own' => Stop (Bk own' B (fun B' => ih ((t, b) :: K) B' k env' ro' own'))) ((t, .bool b) :: env) ro own) (setK d undef (ih ((t, !b) :: K) B k) ((t, .bool !b) :: env) ro own) (fun _ => False) (fun _ => False)))
        | some _ => setK d undef (ih K B k) env ro own
        | none => False)
      | none => False)
    | none => False)
  | .rest fo => Stop (AllOk (fun Φ => vFo P T all B Φ fo env ro own) k ro)
def vH (P : Program) (T : TT) (all : List Oper) (pl : List Tk) : List (Nat × Bool) → Chs → Kt → Kt := List.rec (motive := fun _ => List (Nat × Bool) → Chs → Kt → Kt) (fun _ _ k => k) (fun x r ih => vH1 P T all x r ih) pl
theorem vH_look {P : Program} {T : TT} {all : List Oper} {i : Nat} {r : List Tk} {K : List (Nat × Bool)} {B : Chs} {k : Kt} {env : Env} {ro : Ro} {own : Chs} : vH P T all (.look i :: r) K B k env ro own = (match all[i]? with
    | some ⟨d, op, ty, _, _, none⟩ => vQ P T op ty d B (vH P T all r K B k) env ro own
    | some ⟨d, op, ty, _, _, some (j, b)⟩ => (match dstOf all j with
      | some t => (match look env t with
        | some (.bool c) => (match kn K t with
          | some _ => bif sameB c b then vQ P T op ty d B (vH P T all r K B k) env ro own else setK d undef (vH P T all r K B k) env ro own
          | none => Stop (GJ c b false (vQ P T op ty d B (vH P T all r ((t, b) :: K) B k) ((t, .bool b) :: env) ro own) (setK d undef (vH P T all r ((t, !b) :: K) B k) ((t, .bool !b) :: env) ro own) (fun _ => False) (fun _ => False)))
        | some _ => setK d undef (vH P T all r K B k) env ro own
        | none => False)
      | none => False)
    | none => False) := rfl
theorem vH_last {P : Program} {T : TT} {all : List Oper} {i : Nat} {r : List Tk} {K : List (Nat × Bool)} {B : Chs} {k : Kt} {env : Env} {ro : Ro} {own : Chs} : vH P T all (.last i :: r) K B k env ro own = (match all[i]? with
    | some ⟨d, op, ty, _, _, none⟩ => vOp P T op ty d (nextB r (vH P T all r K) k) env ro own
    | some ⟨d, op, ty, _, _, some (j, b)⟩ => (match dstOf all j with
      | some t => (match look env t with
        | some (.bool c) => (match kn K t with
          | some _ => bif sameB c b then vOp P T op ty d (nextB r (vH P T all r K) k) env ro own else setK d undef (nextB r (vH P T all r K) k) env ro own
          | none => Stop (GJ c b false (vOp P T op ty d (nextB r (vH P T all r ((t, b) :: K)) k) ((t, .bool b) :: env) ro own) (setK d undef (nextB r (vH P T all r ((t, !b) :: K)) k) ((t, .bool !b) :: env) ro own) (fun _ => False) (fun _ => False)))
        | some _ => setK d undef (nextB r (vH P T all r K) k) env ro own
        | none => False)
      | none => False)
    | none => False) := rfl
theorem vH_keep {P : Program} {T : TT} {all : List Oper} {i : Nat} {r : List Tk} {K : List (Nat × Bool)} {B : Chs} {k : Kt} {env : Env} {ro : Ro} {own : Chs} : vH P T all (.keep i :: r) K B k env ro own = (match all[i]? with
    | some ⟨d, op, ty, _, _, none⟩ => vOp P T op ty d (fun env' ro' own' => Stop (Bk own' B (fun B' => vH P T all r K B' k env' ro' own'))) env ro own
    | some ⟨d, op, ty, _, _, some (j, b)⟩ => (match dstOf all j with
      | some t => (match look env t with
        | some (.bool c) => (match kn K t with
          | some _ => bif sameB c b then vOp P T op ty d (fun env' ro' own' => Stop (Bk own' B (fun B' => vH P T all r K B' k env' ro' own'))) env ro own else setK d undef (vH P T all r K B k) env ro own
          | none => Stop (GJ c b false (vOp P T op ty d (fun env' ro' own' => Stop (Bk own' B (fun B' => vH P T all r ((t, b) :: K) B' k env' ro' own'))) ((t, .bool b) :: env) ro own) (setK d undef (vH P T all r ((t, !b) :: K) B k) ((t, .bool !b) :: env) ro own) (fun _ => False) (fun _ => False)))
        | some _ => setK d undef (vH P T all r K B k) env ro own
        | none => False)
      | none => False)
    | none => False) := rfl
theorem vH_rest {P : Program} {T : TT} {all : List Oper} {fo : Fo} {r : List Tk} {K : List (Nat × Bool)} {B : Chs} {k : Kt} {env : Env} {ro : Ro} {own : Chs} : vH P T all (.rest fo :: r) K B k env ro own = Stop (AllOk (fun Φ => vFo P T all B Φ fo env ro own) k ro) := rfl
section
variable {P : Program} {T : TT} {Q : Exit → Act → World → Prop} {n : Fr} {σ : World}
/-- One operation, carried out. -/
theorem vOp_wp {op : Op} {ty : TypeId} {d : Option Nat} {pos : String} {af : Array Edge} {g : Option (Nat × Bool)} {k : Kt} {env : Env} {ro : Ro} {own : Chs} {a : Act} {w : World} {K : Act → World → Prop} (hT : TOk P T) (hd : okD n.size d = true) (hv : vOp P T op ty d k env ro own)
    (hf : Fits n env a) (hs : Sat ro own w.heap) (hw : Hp w.heap σ w)
    (hk : ∀ v ro' own' a' w', Le ro ro' → k (pushD d v env) ro' own' → Sat ro' own' w'.heap → Fits n (pushD d v env) a' → Hp w'.heap σ w' → K a' w') : (⟨d, op, ty, pos, af, g⟩ : Oper).wp P a w K Q := by
  have hput : ∀ v, Fits n (pushD d v env) (a.put d v) := fun v => by
    cases d with
    | none => exact hf
    | some d => exact hf.put hd v
  have hpure : ∀ v, (pure1 T op env).has v → k (pushD d v env) ro own → (⟨d, op, ty, pos, af, g⟩ : Oper).wp P a w K Q := fun v hp hkv => by
    unfold Oper.wp
    rw [(pure1_ok (h := w.heap) hT hp).run a.eval w hf.agree rfl]
    exact hk v ro own _ _ (Le.refl _) hkv hs (hput v) hw
  unfold vOp at hv
  split at hv
  · rename_i v hp
    exact hpure v (by rw [hp]; rfl) (by rwa [setK_eq] at hv)
  · rename_i p v hp
    obtain ⟨h1, h2⟩ := hv.run
    exact hpure v (by rw [hp]; exact ⟨h1, rfl⟩) (by rwa [setK_eq] at h2)
  · unfold vEff at hv
    split at hv
    · split at hv
      · rename_i hx hvs
        have hc := hv.run
        rw [capA_eq] at hc
        unfold Oper.wp
        rw [run_callv hf.agree hx hvs]
        rcases hc.run w hs with ⟨he, hcalls⟩ | ⟨v, w', he, hh, ro', own', hl, hs', hKv⟩
        · rw [he]
          refine hcalls.mono fun e w' ⟨v, hev, hh, ro', own', hl, hs', hKv⟩ => ?_
          subst hev
          replace hKv : setK d v k env ro' own' := hKv
          rw [setK_eq] at hKv
          exact hk v ro' own' _ _ hl hKv hs' (hput v) (hw.trans hh)
        · rw [he]
          replace hKv : setK d v k env ro' own' := hKv
          rw [setK_eq] at hKv
          exact hk v ro' own' _ _ hl hKv hs' (hput v) (hw.trans hh)
      · exact hv.elim
    · obtain ⟨v, w', hr, hh, ro', own', hl, hs', hK⟩ := (hv.run.run w.heap hs d pos af g).run a.eval w hf.agree rfl
      rw [setK_eq] at hK
      unfold Oper.wp
      rcases hr with hr | ⟨hr, rfl⟩ <;> rw [hr] <;> exact hk _ ro' own' _ _ hl hK hs' (hput _) (hw.trans hh)
theorem vQ_val {op : Op} {ty : TypeId} {d : Option Nat} {k : Kt} {env : Env} {ro : Ro} {own B : Chs} (hT : TOk P T) (hv : vQ P T op ty d B k env ro own) :
    ∃ v, (∀ h, Sat ro B h → ∀ d pos af g, Pu P ⟨d, op, ty, pos, af, g⟩ env h v) ∧ k (pushD d v env) ro own := by
  unfold vQ at hv
  split at hv
  · rename_i v hp
    exact ⟨v, fun h _ d pos af g => pure1_ok hT (by rw [hp]; rfl), by rwa [setK_eq] at hv⟩
  · rename_i p v hp
    obtain ⟨h1, h2⟩ := hv.run
    exact ⟨v, fun h _ d pos af g => pure1_ok hT (by rw [hp]; exact ⟨h1, rfl⟩), by rwa [setK_eq] at h2⟩
  · obtain ⟨v, h1, h2⟩ := hv.run.run
    exact ⟨v, h1, by rwa [setK_eq] at h2⟩
def Sw (σ : World) (ro : Ro) (own : Chs) (w : World) : Prop := Sat ro own w.heap ∧ Hp w.heap σ w
theorem phB_mono (ph : Option Nat) : ∀ (ls : Array Bool) (i : Nat), phB ph ls = true → phB ph (ls.setIfInBounds i true) = true := fun ls i h => by
  cases ph with
  | none => cases h
  | some e => exact getD_set_true h
theorem vFo_sound (hT : TOk P T) {l : List Oper} (hok : l.all (fun o => okD n.size o.dst) = true) {B : Chs} {Φ : Kt} {ro0 : Ro}
    (hk : ∀ env' ro' own' h', Le ro0 ro' → Φ env' ro' own' → Sat ro' own' h' → N n σ (Q .normal) env' h') :
    ∀ (fo : Fo) (k : Nat) (env : Env) (ro : Ro) (own : Chs) (ls : Array Bool) (a : Act) (w : World), Le ro0 ro → foOk l.toArray fo k ls = true → vFo P T l B Φ fo env ro own → Fits n env a → Sat ro own w.heap → Hp w.heap σ w →
      (fo = .leaf → wpU P l.toArray Q (Sw σ ro0 B) (phB none) k ls a w) ∧ (∀ k', k = k' + 1 → ∀ i ∈ fo.heads, wpOp P l.toArray Q i (fun a' w' => (phB none (ls.setIfInBounds i true) = false → Sw σ ro0 B w') ∧ wpU P l.toArray Q (Sw σ ro0 B) (phB none) k' (ls.setIfInBounds i true) a' w') a w) := by
  intro fo
  induction fo with
  | leaf =>
    intro k env ro own ls a w hl hp hv hf hs hw
    refine ⟨fun _ => ?_, fun k' _ i hi => by cases hi⟩
    have he : Region.ready .any l.toArray ls = [] := by simpa [foOk] using hp
    have hq := hk env ro own w.heap hl hv hs a w hf hw
    cases k with
    | zero => exact ⟨he, hq⟩
    | succ k => exact ⟨fun _ => hq, fun i hi => by rw [he] at hi; cases hi⟩
  | nil =>
    intro k env ro own ls a w hl hp hv hf hs hw
    exact ⟨fun e => (by cases e), fun _ _ i hi => (by cases hi)⟩
  | cons i sub sib ihs ihb =>
    intro k env ro own ls a w hl hp hv hf hs hw
    refine ⟨fun e => (by cases e), fun k' hk' j hj => ?_⟩
    subst hk'
    simp only [foOk, Bool.and_eq_true] at hp
    obtain ⟨⟨hp1, hp2⟩, hp3⟩ := hp
    obtain ⟨hv1, hv2⟩ : vOne P T l i (fun env' ro' own' => Stop (Sup own' B ∧ vFo P T l B Φ sub env' ro' own')) env ro own ∧ vFo P T l B Φ sib env ro own := hv
    rcases List.mem_cons.1 hj with e | hj
    · subst e
      unfold vOne at hv1
      split at hv1
      · rename_i d op ty pos af hi
        have hoki : okD n.size d = true := List.all_eq_true.1 hok _ (List.mem_of_getElem? hi)
        unfold wpOp
        simp only [List.getElem?_toArray, hi]
        rw [if_pos (show Region.wanted ⟨d, op, ty, pos, af, none⟩ (yielded l.toArray a.tmps) = true from rfl)]
        refine .inl ?_
        refine vOp_wp hT hoki hv1 hf hs hw (fun v ro' own' a' w' hl' hkk hs' hf' hw' => ?_)
        obtain ⟨hsup, hsub⟩ := hkk.run
        refine ⟨fun _ => ⟨(hs'.leq ⟨(hl.trans hl').le⟩).sup hsup, hw'⟩, ?_⟩
        have ih := ihs k' _ _ _ _ _ _ (hl.trans hl') hp2 hsub hf' hs' hw'
        cases sub with
        | leaf => exact ih.1 rfl
        | nil => cases hp1
        | cons i2 s2 b2 =>
          have hr : Region.ready .any l.toArray (ls.setIfInBounds j true) = i2 :: b2.heads := by simpa using hp1
          cases k' with
          | zero => simp [foOk] at hp2
          | succ k2 => exact ⟨fun e => (by rw [hr] at e; cases e), fun m hm => ih.2 k2 rfl m (by rw [hr] at hm; exact hm)⟩
      · exact hv1.elim
    · exact (ihb (k' + 1) env ro own ls a w hl hp3 hv2 hf hs hw).2 k' rfl j hj
theorem vH_sound (hT : TOk P T) {l : List Oper} (hns : Region.noSelect l.toArray = true) (hok : l.all (fun o => okD n.size o.dst) = true) (hQ : NoPanic Q) :
    ∀ {r : List Tk} {K : List (Nat × Bool)} {k : Kt} {env : Env} {ro : Ro} {own B : Chs} {ls : Array Bool} {a : Act} {w : World}, (∀ ro' g, Sat ro' own g → Sat ro' B g) → Closed l.toArray ls → planOk l.toArray r ls = true → vH P T l r K B k env ro own →
    (∀ env' ro' own' h', Le ro ro' → k env' ro' own' → Sat ro' own' h' → N n σ (Q .normal) env' h') → Fits n env a → Sat ro own w.heap → Hp w.heap σ w → wpU P l.toArray Q (Sw σ ro B) (phB (phase r)) r.length ls a w
  | [], K, k, env, ro, own, B, ls, a, w, hB, hcl, hp, hv, hk, hf, hs, hw => by
    refine ⟨by simpa [planOk] using hp, hk env ro own w.heap (Le.refl _) hv hs a w hf hw⟩
  | .look i :: r, K, k, env, ro, own, B, ls, a, w, hB, hcl, hp, hv, hk, hf, hs, hw => by
    simp only [planOk, Bool.and_eq_true, Bool.not_eq_true'] at hp
    obtain ⟨⟨hB0, ⟨hfree, hready0⟩, hwait⟩, hrest⟩ := hp
    have hready : i ∈ Region.ready .any l.toArray ls := by simpa using hready0
    have go : ∀ {oi : Oper} {v : Value} {env' : Env} {K' : List (Nat × Bool)}, l[i]? = some oi → YieldsIf P l.toArray (Sw σ ro B) oi v a → Fits n env' (a.put oi.dst v) → vH P T l r K' B k env' ro own → wpU P l.toArray Q (Sw σ ro B) (phB (phase (.look i :: r))) (r.length + 1) ls a w := fun {oi} {v} {env'} {K'} hi hy hf' hv' => by
      have hcl' := hcl.set hready
      refine wpU.first (oi := oi) (by simpa using hi) (Region.noSelect_spec hns) (fun c a w h => absurd h (hQ _ _ _)) (fun ls' j hcl2 hj h1 h2 => ?_) (fun ls' i' j h1 h2 => ?_) r.length ls a w hB0 hcl (Region.free_spec (by simpa using hi) hfree) hready hy ⟨hB _ _ hs, hw⟩ (vH_sound hT hns hok hQ hB hcl' hrest hv' hk hf' hs hw)
      · change phB (phase r) _ = _ at h1 h2
        cases hph : phase r with
        | none => rw [hph] at h2; cases h2
        | some e =>
          rw [hph] at h1 h2 hwait
          have hje : j = e := by
            by_cases hje : j = e
            · exact hje
            · simp only [phB] at h1 h2; rw [getD_set_ne false hje] at h2; rw [h1] at h2; cases h2
          subst hje
          obtain ⟨_, o, ho, hall⟩ := mem_ready.1 hj
          exact waitsT.done hcl2 hwait (fun o2 ho2 => by rw [ho] at ho2; cases ho2; exact hall)
      · change phB (phase r) _ = _ at h1 h2
        show phB (phase r) _ = true
        cases hph : phase r with
        | none => rw [hph] at h2; cases h2
        | some e =>
          rw [hph] at h1 h2
          simp only [phB] at h1 h2 ⊢
          by_cases hje : j = e
          · subst hje
            rcases Nat.lt_or_ge j ls'.size with h' | h'
            · simp [h']
            · simp [Array.getElem?_eq_none, h'] at h2
          · rw [getD_set_ne false hje] at h2; rw [h1] at h2; cases h2
    have hoki : ∀ {oi : Oper}, l[i]? = some oi → okD n.size oi.dst = true := fun hi => List.all_eq_true.1 hok _ (List.mem_of_getElem? hi)
    have look : ∀ {d : Option Nat} {op : Op} {ty : TypeId} {pos : String} {af : Array Edge} {g : Option (Nat × Bool)} {K' : List (Nat × Bool)} {env0 : Env}, l[i]? = some ⟨d, op, ty, pos, af, g⟩ → Region.wanted ⟨d, op, ty, pos, af, g⟩ (yielded l.toArray a.tmps) = true → Fits n env0 a → vQ P T op ty d B (vH P T l r K' B k) env0 ro own → wpU P l.toArray Q (Sw σ ro B) (phB (phase (.look i :: r))) (r.length + 1) ls a w := fun {d op ty pos af g K' env0} hi hwt hf0 hq => by
      obtain ⟨v, h1, h2⟩ := vQ_val hT hq
      refine go hi (.inl ⟨hwt, fun w' hw' => (h1 _ hw'.1 d pos af g).run a.eval w' hf0.agree rfl⟩) ?_ h2
      have := hoki hi
      cases d with
      | none => exact hf0
      | some d => exact hf0.put this v
    have skip : ∀ {d : Option Nat} {op : Op} {ty : TypeId} {pos : String} {af : Array Edge} {g : Option (Nat × Bool)} {K' : List (Nat × Bool)} {env0 : Env}, l[i]? = some ⟨d, op, ty, pos, af, g⟩ → Region.wanted ⟨d, op, ty, pos, af, g⟩ (yielded l.toArray a.tmps) = false → Fits n env0 a → setK d undef (vH P T l r K' B k) env0 ro own → wpU P l.toArray Q (Sw σ ro B) (phB (phase (.look i :: r))) (r.length + 1) ls a w := fun {d op ty pos af g K' env0} hi hwt hf0 hq => by
      rw [setK_eq] at hq
      refine go hi (.inr ⟨hwt, rfl⟩) ?_ hq
      have := hoki hi
      cases d with
      | none => exact hf0
      | some d => exact hf0.put this undef
    rw [vH_look] at hv
    split at hv
    · rename_i d op ty pos af hi
      exact look hi rfl hf hv
    · rename_i d op ty pos af j b hi
      split at hv
      · rename_i t hj
        split at hv
        · rename_i c ht
          have hy : yielded l.toArray a.tmps j = some c := by simp [yielded, dstOf_spec hj, hf.get _ _ ht]
          have key : (c = b → ∃ K' env0, Fits n env0 a ∧ vQ P T op ty d B (vH P T l r K' B k) env0 ro own) → (c = !b → ∃ K' env0, Fits n env0 a ∧ setK d undef (vH P T l r K' B k) env0 ro own) → wpU P l.toArray Q (Sw σ ro B) (phB (phase (.look i :: r))) (r.length + 1) ls a w := fun h1 h2 => by
            by_cases e : c = b
            · obtain ⟨K', env0, hf0, hq⟩ := h1 e
              exact look hi (by simp [Region.wanted, hy, e]) hf0 hq
            · obtain ⟨K', env0, hf0, hq⟩ := h2 (by revert e; cases b <;> cases c <;> simp)
              exact skip hi (by simp [Region.wanted, hy, e]) hf0 hq
          split at hv
          · refine key (fun e => ⟨K, env, hf, ?_⟩) (fun e => ⟨K, env, hf, ?_⟩)
            · subst e; have : sameB c c = true := by cases c <;> rfl
              rw [this] at hv; exact hv
            · subst e; have : sameB (!b) b = false := by cases b <;> rfl
              rw [this] at hv; exact hv
          · rcases hv.run with ⟨h1, h2⟩ | ⟨_, h3, _, _⟩
            · exact key (fun e => ⟨_, _, by subst e; exact hf.sub2 (Sub2.lit ht), h1 e⟩) (fun e => ⟨_, _, by subst e; exact hf.sub2 (Sub2.lit ht), h2 e⟩)
            · cases h3
        · rename_i u hne ht
          have hy : yielded l.toArray a.tmps j ≠ some b := by
            simp only [yielded, List.getElem?_toArray, dstOf_spec hj, Option.bind_some, hf.get _ _ ht]
            intro e
            split at e
            · rename_i b' hb'; simp at hb' e; exact hne b' (by rw [hb'])
            · cases e
          exact skip hi (by simpa [Region.wanted] using hy) hf hv
        · exact hv.elim
      · exact hv.elim
    · exact hv.elim
  | .last i :: r, K, k, env, ro, own, B, ls, a, w, hB, hcl, hp, hv, hk, hf, hs, hw => by
    simp only [planOk, Bool.and_eq_true, Bool.not_eq_true', beq_iff_eq] at hp
    obtain ⟨⟨⟨hB0, hready⟩, hset⟩, hrest⟩ := hp
    have hoki : ∀ {oi : Oper}, l[i]? = some oi → okD n.size oi.dst = true := fun hi => List.all_eq_true.1 hok _ (List.mem_of_getElem? hi)
    refine ⟨fun e => (by rw [hready] at e; cases e), fun j hj => ?_⟩
    have : j = i := by rw [hready] at hj; simpa using hj
    subst this
    have run : ∀ {d : Option Nat} {op : Op} {ty : TypeId} {pos : String} {af : Array Edge} {g : Option (Nat × Bool)} {K' : List (Nat × Bool)} {env0 : Env}, l[j]? = some ⟨d, op, ty, pos, af, g⟩ → Region.wanted ⟨d, op, ty, pos, af, g⟩ (yielded l.toArray a.tmps) = true → Fits n env0 a → vOp P T op ty d (nextB r (vH P T l r K') k) env0 ro own →
        wpOp P l.toArray Q j (fun a' w' => (phB (phase (.last j :: r)) (ls.setIfInBounds j true) = false → Sw σ ro B w') ∧ wpU P l.toArray Q (Sw σ ro B) (phB (phase (.last j :: r))) r.length (ls.setIfInBounds j true) a' w') a w := fun {d op ty pos af g K' env0} hi hwt hf0 hq => by
      unfold wpOp
      simp only [List.getElem?_toArray, hi]
      rw [if_pos hwt]
      exact .inl (vOp_wp hT (hoki hi) hq hf0 hs hw (fun v ro' own' a' w' hl hkk hs' hf' hw' => ⟨fun e => (by rw [show phB (phase (.last j :: r)) (ls.setIfInBounds j true) = true from hset] at e; cases e), (by obtain ⟨B', hB', hkk⟩ := hkk.spec; exact wpU.next (phB_mono _) _ _ _ _ hset (vH_sound hT hns hok hQ hB' (hcl.set (by rw [hready]; simp)) hrest hkk (fun env' ro2 own2 h2 hl2 => hk env' ro2 own2 h2 (hl.trans hl2)) hf' hs' hw'))⟩))
    have skip : ∀ {d : Option Nat} {op : Op} {ty : TypeId} {pos : String} {af : Array Edge} {g : Option (Nat × Bool)} {K' : List (Nat × Bool)} {env0 : Env}, l[j]? = some ⟨d, op, ty, pos, af, g⟩ → Region.wanted ⟨d, op, ty, pos, af, g⟩ (yielded l.toArray a.tmps) = false → Fits n env0 a → setK d undef (nextB r (vH P T l r K') k) env0 ro own →
        wpOp P l.toArray Q j (fun a' w' => (phB (phase (.last j :: r)) (ls.setIfInBounds j true) = false → Sw σ ro B w') ∧ wpU P l.toArray Q (Sw σ ro B) (phB (phase (.last j :: r))) r.length (ls.setIfInBounds j true) a' w') a w := fun {d op ty pos af g K' env0} hi hwt hf0 hq => by
      unfold wpOp
      simp only [List.getElem?_toArray, hi]
      rw [if_neg (by simp [hwt])]
      rw [setK_eq] at hq
      have hf' : Fits n (pushD d undef env0) (a.put d undef) := by
        have := hoki hi
        cases d with
        | none => exact hf0
        | some d => exact hf0.put this undef
      obtain ⟨B', hB', hq⟩ := hq.spec
      exact ⟨fun _ => ⟨hB _ _ hs, hw⟩, wpU.next (phB_mono _) _ _ _ _ hset (vH_sound hT hns hok hQ hB' (hcl.set (by rw [hready]; simp)) hrest hq hk hf' hs hw)⟩
    rw [vH_last] at hv
    split at hv
    · rename_i d op ty pos af hi
      exact run hi rfl hf hv
    · rename_i d op ty pos af j' b hi
      split at hv
      · rename_i t hj
        split at hv
        · rename_i c ht
          have hy : yielded l.toArray a.tmps j' = some c := by simp [yielded, dstOf_spec hj, hf.get _ _ ht]
          split at hv
          · by_cases e : c = b
            · subst e
              have e1 : sameB c c = true := by cases c <;> rfl
              rw [e1] at hv
              exact run hi (by simp [Region.wanted, hy]) hf hv
            · have e' : c = !b := by revert e; cases b <;> cases c <;> simp
              subst e'
              have e1 : sameB (!b) b = false := by cases b <;> rfl
              rw [e1] at hv
              exact skip hi (by simp [Region.wanted, hy]) hf hv
          · rcases hv.run with ⟨h1, h2⟩ | ⟨_, h3, _, _⟩
            · by_cases e : c = b
              · subst e
                exact run hi (by simp [Region.wanted, hy]) (hf.sub2 (Sub2.lit ht)) (h1 rfl)
              · have e' : c = !b := by revert e; cases b <;> cases c <;> simp
                subst e'
                exact skip hi (by simp [Region.wanted, hy]) (hf.sub2 (Sub2.lit ht)) (h2 rfl)
            · cases h3
        · rename_i u hne ht
          have hy : yielded l.toArray a.tmps j' ≠ some b := by
            simp only [yielded, List.getElem?_toArray, dstOf_spec hj, Option.bind_some, hf.get _ _ ht]
            intro e
            split at e
            · rename_i b' hb'; simp at hb' e; exact hne b' (by rw [hb'])
            · cases e
          exact skip hi (by simpa [Region.wanted] using hy) hf hv
        · exact hv.elim
      · exact hv.elim
    · exact hv.elim
  | .keep i :: r, K, k, env, ro, own, B, ls, a, w, hB, hcl, hp, hv, hk, hf, hs, hw => by
    simp only [planOk, Bool.and_eq_true, Bool.not_eq_true', beq_iff_eq] at hp
    obtain ⟨⟨⟨hB0, hB1⟩, hready⟩, hrest⟩ := hp
    have hoki : ∀ {oi : Oper}, l[i]? = some oi → okD n.size oi.dst = true := fun hi => List.all_eq_true.1 hok _ (List.mem_of_getElem? hi)
    refine ⟨fun e => (by rw [hready] at e; cases e), fun j hj => ?_⟩
    have : j = i := by rw [hready] at hj; simpa using hj
    subst this
    have run : ∀ {d : Option Nat} {op : Op} {ty : TypeId} {pos : String} {af : Array Edge} {g : Option (Nat × Bool)} {K' : List (Nat × Bool)} {env0 : Env}, l[j]? = some ⟨d, op, ty, pos, af, g⟩ → Region.wanted ⟨d, op, ty, pos, af, g⟩ (yielded l.toArray a.tmps) = true → Fits n env0 a → vOp P T op ty d (fun env' ro' own' => Stop (Bk own' B (fun B' => vH P T l r K' B' k env' ro' own'))) env0 ro own →
        wpOp P l.toArray Q j (fun a' w' => (phB (phase (.keep j :: r)) (ls.setIfInBounds j true) = false → Sw σ ro B w') ∧ wpU P l.toArray Q (Sw σ ro B) (phB (phase (.keep j :: r))) r.length (ls.setIfInBounds j true) a' w') a w := fun {d op ty pos af g K' env0} hi hwt hf0 hq => by
      unfold wpOp
      simp only [List.getElem?_toArray, hi]
      rw [if_pos hwt]
      exact .inl (vOp_wp hT (hoki hi) hq hf0 hs hw (fun v ro' own' a' w' hl hkk hs' hf' hw' => by
        obtain ⟨B', k1, k2, hkk⟩ := hkk.run.run
        exact ⟨fun _ => ⟨((hs'.leq ⟨hl.le⟩).sup k1).sup k2, hw'⟩, wpU.narrow (fun w2 h2 => ⟨(h2.1.leq ⟨hl.le⟩).sup k2, h2.2⟩) _ _ _ _ (vH_sound hT hns hok hQ (fun _ _ hg => hg.sup k1) (hcl.set (by rw [hready]; simp)) hrest hkk (fun env' ro2 own2 h2 hl2 => hk env' ro2 own2 h2 (hl.trans hl2)) hf' hs' hw')⟩))
    have skip : ∀ {d : Option Nat} {op : Op} {ty : TypeId} {pos : String} {af : Array Edge} {g : Option (Nat × Bool)} {K' : List (Nat × Bool)} {env0 : Env}, l[j]? = some ⟨d, op, ty, pos, af, g⟩ → Region.wanted ⟨d, op, ty, pos, af, g⟩ (yielded l.toArray a.tmps) = false → Fits n env0 a → setK d undef (vH P T l r K' B k) env0 ro own →
        wpOp P l.toArray Q j (fun a' w' => (phB (phase (.keep j :: r)) (ls.setIfInBounds j true) = false → Sw σ ro B w') ∧ wpU P l.toArray Q (Sw σ ro B) (phB (phase (.keep j :: r))) r.length (ls.setIfInBounds j true) a' w') a w := fun {d op ty pos af g K' env0} hi hwt hf0 hq => by
      unfold wpOp
      simp only [List.getElem?_toArray, hi]
      rw [if_neg (by simp [hwt])]
      rw [setK_eq] at hq
      have hf' : Fits n (pushD d undef env0) (a.put d undef) := by
        have := hoki hi
        cases d with
        | none => exact hf0
        | some d => exact hf0.put this undef
      exact ⟨fun _ => ⟨hB _ _ hs, hw⟩, vH_sound hT hns hok hQ hB (hcl.set (by rw [hready]; simp)) hrest hq hk hf' hs hw⟩
    rw [vH_keep] at hv
    split at hv
    · rename_i d op ty pos af hi
      exact run hi rfl hf hv
    · rename_i d op ty pos af j' b hi
      split at hv
      · rename_i t hj
        split at hv
        · rename_i c ht
          have hy : yielded l.toArray a.tmps j' = some c := by simp [yielded, dstOf_spec hj, hf.get _ _ ht]
          split at hv
          · by_cases e : c = b
            · subst e
              have e1 : sameB c c = true := by cases c <;> rfl
              rw [e1] at hv
              exact run hi (by simp [Region.wanted, hy]) hf hv
            · have e' : c = !b := by revert e; cases b <;> cases c <;> simp
              subst e'
              have e1 : sameB (!b) b = false := by cases b <;> rfl
              rw [e1] at hv
              exact skip hi (by simp [Region.wanted, hy]) hf hv
          · rcases hv.run with ⟨h1, h2⟩ | ⟨_, h3, _, _⟩
            · by_cases e : c = b
              · subst e
                exact run hi (by simp [Region.wanted, hy]) (hf.sub2 (Sub2.lit ht)) (h1 rfl)
              · have e' : c = !b := by revert e; cases b <;> cases c <;> simp
                subst e'
                exact skip hi (by simp [Region.wanted, hy]) (hf.sub2 (Sub2.lit ht)) (h2 rfl)
            · cases h3
        · rename_i u hne ht
          have hy : yielded l.toArray a.tmps j' ≠ some b := by
            simp only [yielded, List.getElem?_toArray, dstOf_spec hj, Option.bind_some, hf.get _ _ ht]
            intro e
            split at e
            · rename_i b' hb'; simp at hb' e; exact hne b' (by rw [hb'])
            · cases e
          exact skip hi (by simpa [Region.wanted] using hy) hf hv
        · exact hv.elim
      · exact hv.elim
    · exact hv.elim
  | .rest fo :: r, K, k, env, ro, own, B, ls, a, w, hB, hcl, hp, hv, hk, hf, hs, hw => by
    simp only [planOk, Bool.and_eq_true] at hp
    obtain ⟨⟨hp1, hp2⟩, hp3⟩ := hp
    rw [vH_rest] at hv
    obtain ⟨Φ, hF, hΦ⟩ := hv.run.run
    have hph : phase (.rest fo :: r) = none := by
      show phase r = none
      cases h : phase r with
      | none => rfl
      | some e => rw [h] at hp2; cases hp2
    rw [hph]
    have ih := vFo_sound (Q := Q) (σ := σ) (B := B) hT hok (fun env' ro' own' h' hl hΦ' hs' => (by obtain ⟨env0, own0, h1, h2, h3⟩ := hΦ _ _ _ hl hΦ'; exact fun a w hf hw => hk env0 ro' own0 h' hl h3 (hs'.sup h2) a w (hf.sub2 h1) hw)) fo (r.length + 1) env ro own ls a w (Le.refl _) hp3 hF hf hs hw
    cases fo with
    | leaf => cases hp1
    | nil => cases hp1
    | cons i2 s2 b2 =>
      have hr : Region.ready .any l.toArray ls = i2 :: b2.heads := by simpa using hp1
      exact ⟨fun e => (by rw [hr] at e; cases e), fun m hm => ih.2 r.length rfl m (by rw [hr] at hm; exact hm)⟩
/-- A region that draws its order, along a plan. -/
theorem CodeOk.drawn {id : Nat} {l : List Oper} {k : Exit → Kt} {env : Env} {ro : Ro} {own : Chs} [hT : TTab P T] (plan : List Tk) (hm : P.follows .mixedOrders = true) (hns : Region.noSelect l.toArray = true) (hlen : Nat.beq plan.length l.length = true) (hp : planOk l.toArray plan (Array.replicate l.length false) = true)
    (hv : nextB plan (vH P T l plan []) (k .normal) env ro own) : CodeOk P (.region id l.toArray true) k env ro own :=
  ⟨fun n σ Q hok hk h hs a w hf hw => wp_mono (wp_region_any (Q := fun e a w => match e with | .panic _ => False | e => Q e a w) hm (by
      have hl : plan.length = l.length := Nat.eq_of_beq_eq_true hlen
      obtain ⟨B, hB, hv⟩ := hv.spec
      have := wpU.any _ _ _ _ (vH_sound (σ := σ) (w := { w with drawn := w.drawn + 1 }) (Q := fun e a w => match e with | .panic _ => False | e => Q e a w) hT.ok hns (by simpa [okS] using hok) (fun c a w h => h) hB (fun j o _ hd => by simp [Array.getD] at hd) hp hv (fun env' ro' own' h' hl' hk' hs' => hk .normal env' ro' own' n.D h' hl' hk' hs' (Mk.refl _ _ _ _)) hf (by rw [hw.heap]; exact hs) ⟨rfl, hw.os, hw.tape, hw.output⟩)
      rw [hl] at this
      simpa using this)) (fun e a w hq => by cases e <;> first | exact hq | exact hq.elim)⟩
end
end Go.E
