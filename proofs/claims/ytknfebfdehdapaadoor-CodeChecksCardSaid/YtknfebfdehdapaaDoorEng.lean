/- The steps of a walk as theorems over an environment (slots with their values) and a heap: operations, regions, tests, loops, calls. No program in sight. -/
import Derived.WalkKit
import Derived.ProofKit
import Derived.Deep.Quiet
import Derived.Deep.MidRow
import Derived.OrdersHeld
namespace Go.E
set_option linter.unusedVariables false
set_option linter.unusedSimpArgs false
open Go

abbrev Env := List (Nat × Value)
abbrev Heap := Array Obj
def look : Env → Nat → Option Value
  | [], _ => none
  | (k, v) :: r, t => bif Nat.beq k t then some v else look r t
def ev (env : Env) : Operand → Option Value
  | .tmp t => look env t
  | .const v => some v
  | .global g => some (.pointer (some ⟨g, 0, none⟩))
  | .func f => some (.func (.func f) #[] #[])
def evs (env : Env) : List Operand → Option (List Value)
  | [] => some []
  | x :: r => match ev env x, evs env r with
    | some v, some vs => some (v :: vs)
    | _, _ => none
def Agree (env : Env) (ρ : Operand → Value) : Prop := ∀ x v, ev env x = some v → ρ x = v
theorem Agree.list {env : Env} {ρ : Operand → Value} (h : Agree env ρ) : ∀ {xs : List Operand} {vs : List Value}, evs env xs = some vs → xs.map ρ = vs
  | [], vs, hx => by simp [evs] at hx; subst hx; rfl
  | x :: r, vs, hx => by
    unfold evs at hx
    split at hx
    · rename_i v vs' h1 h2
      cases hx
      rw [List.map_cons, h _ _ h1, h.list h2]
    · cases hx

/-- A frame's size, and the marks that it bears (of ranges over functions). -/
structure Fr where
  size : Nat
  D : List Deferred
instance : Coe Nat Fr := ⟨fun n => ⟨n, []⟩⟩
structure Fits (n : Fr) (env : Env) (a : Act) : Prop where
  defers : a.defers = n.D
  size : a.tmps.size = n.size
  get : ∀ t v, look env t = some v → a.tmps[t]? = some v
theorem Fits.agree {n : Fr} {env : Env} {a : Act} (h : Fits n env a) : Agree env a.eval := by
  intro x v hx
  cases x with
  | tmp t => simp only [ev] at hx; have := h.get t v hx; simp [Act.eval, this]
  | const v' => simp only [ev, Option.some.injEq] at hx; subst hx; rfl
  | global g => simp only [ev, Option.some.injEq] at hx; subst hx; rfl
  | func f => simp only [ev, Option.some.injEq] at hx; subst hx; rfl
theorem Fits.put {n : Fr} {env : Env} {a : Act} (h : Fits n env a) {d : Nat} (hd : Nat.blt d n.size = true) (v : Value) : Fits n ((d, v) :: env) (a.put (some d) v) := by
  have hd' : d < n.size := by have := hd; simp [Nat.blt] at this; omega
  refine ⟨h.defers, by simp [Act.put, h.size], ?_⟩
  intro t u hu
  unfold look at hu
  by_cases e : d = t
  · subst e
    simp at hu
    subst hu
    simp [Act.put, h.size, hd']
  · have : Nat.beq d t = false := by cases hh : Nat.beq d t; rfl; exact absurd (Nat.eq_of_beq_eq_true hh) e
    rw [this] at hu
    have := h.get t u hu
    show (a.tmps.setIfInBounds d v)[t]? = some u
    rw [Array.getElem?_setIfInBounds_ne e]
    exact this
theorem Fits.put_none {n : Fr} {env : Env} {a : Act} (h : Fits n env a) (v : Value) : Fits n env (a.put none v) := h
def Sub : Env → Env → Prop
  | [], _ => True
  | (t, v) :: r, e => look e t = some v ∧ Sub r e
theorem Sub.look {e' e : Env} (h : Sub e' e) : ∀ {t v}, look e' t = some v → look e t = some v := by
  induction e' with
  | nil => intro t v hv; cases hv
  | cons p r ih =>
    obtain ⟨t0, v0⟩ := p
    intro t v hv
    unfold E.look at hv
    by_cases ht : Nat.beq t0 t = true
    · rw [ht] at hv
      simp at hv
      subst hv
      have : t0 = t := Nat.eq_of_beq_eq_true ht
      subst this
      exact h.1
    · rw [Bool.not_eq_true] at ht
      rw [ht] at hv
      exact ih h.2 hv
theorem Fits.sub {n : Fr} {e e' : Env} {a : Act} (h : Fits n e a) (hs : Sub e' e) : Fits n e' a := ⟨h.defers, h.size, fun t v hv => h.get t v (hs.look hv)⟩

theorem Fits.sub' {n : Fr} {e : Env} {a : Act} (h : Fits n e a) {t : Nat} {v : Value} (ht : look e t = some v) : Fits n ((t, v) :: e) a := ⟨h.defers, h.size, fun t' u hu => by
  unfold look at hu
  by_cases e' : Nat.beq t t' = true
  · rw [e'] at hu; simp at hu; subst hu; have := Nat.eq_of_beq_eq_true e'; subst this; exact h.get _ _ ht
  · rw [Bool.not_eq_true] at e'; rw [e'] at hu; exact h.get _ _ hu⟩

/-- The world's heap; all else in it (but the count of draws) as in σ. -/
structure Hp (h : Heap) (σ w : World) : Prop where
  heap : w.heap = h
  os : w.os = σ.os
  tape : w.tape = σ.tape
  output : w.output = σ.output
theorem Hp.self (w : World) : Hp w.heap w w := ⟨rfl, rfl, rfl, rfl⟩
theorem Hp.trans {h : Heap} {σ w w' : World} {h0 : Heap} (a : Hp h0 σ w) (b : Hp h w w') : Hp h σ w' := ⟨b.heap, b.os.trans a.os, b.tape.trans a.tape, b.output.trans a.output⟩

/-! ### an operation -/
/-- It yields v and leaves the world alone. -/
structure Pu (P : Program) (o : Oper) (env : Env) (h : Heap) (v : Value) : Prop where
  run : ∀ ρ w, Agree env ρ → w.heap = h → (execOp ρ o).run P w = .ok (.value v) w
/-- It yields some value (or nothing: 'undef'), and a heap. -/
structure Eff (P : Program) (o : Oper) (env : Env) (h : Heap) (Φ : Value → Heap → Prop) : Prop where
  run : ∀ ρ w, Agree env ρ → w.heap = h → ∃ v w', ((execOp ρ o).run P w = .ok (.value v) w' ∨ ((execOp ρ o).run P w = .ok .skip w' ∧ v = undef)) ∧ Hp w'.heap w w' ∧ Φ v w'.heap
/-- It enters a function. -/
structure Enters (P : Program) (o : Oper) (env : Env) (f : FuncId) (args : Array Value) : Prop where
  run : ∀ ρ w, Agree env ρ → (execOp ρ o).run P w = .ok (.enter f args) w
theorem Pu.eff {P : Program} {o : Oper} {env : Env} {h : Heap} {v : Value} (hp : Pu P o env h v) : Eff P o env h (fun u h' => u = v ∧ h' = h) :=
  .mk fun ρ w hr hw => ⟨v, w, .inl (hp.run ρ w hr hw), Hp.self w, rfl, hw⟩

/-- A function's contract: called in a world with this heap it returns a value; the value and the new heap are as told; nothing but the heap has changed (and the count of draws). -/
def Meets (P : Program) (f : FuncId) (args : Array Value) (h : Heap) (Φ : Value → Heap → Prop) : Prop :=
  ∀ w : World, w.heap = h → Calls P f args w (fun e w' => ∃ v, e = .returned v ∧ Hp w'.heap w w' ∧ Φ v w'.heap)
theorem Meets.mono {P : Program} {f : FuncId} {args : Array Value} {h : Heap} {Φ Ψ : Value → Heap → Prop} (hf : Meets P f args h Φ) (hi : ∀ v h', Φ v h' → Ψ v h') : Meets P f args h Ψ :=
  fun w hw => (hf w hw).mono fun _ _ ⟨v, he, hh, hp⟩ => ⟨v, he, hh, hi _ _ hp⟩

section
variable {P : Program} {all : Array Oper} {Q : Exit → Act → World → Prop} {n : Fr} {σ : World} {env : Env} {h : Heap}

def L (P : Program) (all : Array Oper) (Q : Exit → Act → World → Prop) (n : Fr) (σ : World) (ops : List Oper) (env : Env) (h : Heap) : Prop :=
  ∀ a w, Fits n env a → Hp h σ w → wpList P all Q ops a w
def C (P : Program) (Q : Exit → Act → World → Prop) (n : Fr) (σ : World) (c : Code) (env : Env) (h : Heap) : Prop :=
  ∀ a w, Fits n env a → Hp h σ w → c.wp P Q a w
def N (n : Fr) (σ : World) (K : Act → World → Prop) (env : Env) (h : Heap) : Prop := ∀ a w, Fits n env a → Hp h σ w → K a w

theorem L.sub {ops : List Oper} (env' : Env) (hs : Sub env' env) (k : L P all Q n σ ops env' h) : L P all Q n σ ops env h := fun a w hf hw => k a w (hf.sub hs) hw
theorem C.sub {c : Code} (env' : Env) (hs : Sub env' env) (k : C P Q n σ c env' h) : C P Q n σ c env h := fun a w hf hw => k a w (hf.sub hs) hw
theorem N.sub {K : Act → World → Prop} (env' : Env) (hs : Sub env' env) (k : N n σ K env' h) : N n σ K env h := fun a w hf hw => k a w (hf.sub hs) hw

/-- The slot of operation j. -/
def dstOf : List Oper → Nat → Option Nat
  | ⟨d, _, _, _, _, _⟩ :: _, 0 => d
  | _ :: r, j + 1 => dstOf r j
  | [], _ => none
theorem dstOf_spec : ∀ {l : List Oper} {j t : Nat}, dstOf l j = some t → (l[j]?).bind (·.dst) = some t
  | ⟨d, _, _, _, _, _⟩ :: _, 0, t, h => by simpa [dstOf] using h
  | o :: r, j + 1, t, h => by
    have : dstOf r j = some t := by cases o; simpa [dstOf] using h
    have := dstOf_spec this
    simpa using this
  | [], _, _, h => by simp [dstOf] at h
/-! ### the operations of a region in their order -/
theorem L.nil (k : N n σ (Q .normal) env h) : L P all Q n σ [] env h := fun a w hf hw => wpList_nil (k a w hf hw)
theorem L.pure {rest : List Oper} {d : Nat} {op : Op} {ty : TypeId} {pos : String} {af : Array Edge} {v : Value}
    (hp : Pu P ⟨some d, op, ty, pos, af, none⟩ env h v) (hd : Nat.blt d n.size = true) (k : L P all Q n σ rest ((d, v) :: env) h) :
    L P all Q n σ (⟨some d, op, ty, pos, af, none⟩ :: rest) env h := fun a w hf hw =>
  wpList_plain rfl fun _ hK => by
    unfold Oper.wp
    rw [hp.run a.eval w hf.agree hw.heap]
    exact hK _ _ (k _ _ (hf.put hd v) hw)
theorem L.eff {rest : List Oper} {d : Nat} {op : Op} {ty : TypeId} {pos : String} {af : Array Edge} {Φ : Value → Heap → Prop}
    (hp : Eff P ⟨some d, op, ty, pos, af, none⟩ env h Φ) (hd : Nat.blt d n.size = true) (k : ∀ v h', Φ v h' → L P all Q n σ rest ((d, v) :: env) h') :
    L P all Q n σ (⟨some d, op, ty, pos, af, none⟩ :: rest) env h := fun a w hf hw =>
  wpList_plain rfl fun _ hK => by
    obtain ⟨v, w', hr, hh, hΦ⟩ := hp.run a.eval w hf.agree hw.heap
    unfold Oper.wp
    rcases hr with hr | ⟨hr, rfl⟩ <;> rw [hr] <;> exact hK _ _ (k _ _ hΦ _ _ (hf.put hd _) (hw.trans hh))
theorem L.eff0 {rest : List Oper} {op : Op} {ty : TypeId} {pos : String} {af : Array Edge} {Φ : Value → Heap → Prop}
    (hp : Eff P ⟨none, op, ty, pos, af, none⟩ env h Φ) (k : ∀ v h', Φ v h' → L P all Q n σ rest env h') :
    L P all Q n σ (⟨none, op, ty, pos, af, none⟩ :: rest) env h := fun a w hf hw =>
  wpList_plain rfl fun _ hK => by
    obtain ⟨v, w', hr, hh, hΦ⟩ := hp.run a.eval w hf.agree hw.heap
    unfold Oper.wp
    rcases hr with hr | ⟨hr, rfl⟩ <;> rw [hr] <;> exact hK _ _ (k _ _ hΦ _ _ hf (hw.trans hh))
theorem L.call {rest : List Oper} {d : Nat} {op : Op} {ty : TypeId} {pos : String} {af : Array Edge} {f : FuncId} {args : Array Value} {Φ : Value → Heap → Prop}
    (he : Enters P ⟨some d, op, ty, pos, af, none⟩ env f args) (hd : Nat.blt d n.size = true) (hc : Meets P f args h Φ) (k : ∀ v h', Φ v h' → L P all Q n σ rest ((d, v) :: env) h') :
    L P all Q n σ (⟨some d, op, ty, pos, af, none⟩ :: rest) env h := fun a w hf hw =>
  wpList_plain rfl fun _ hK => by
    unfold Oper.wp
    rw [he.run a.eval w hf.agree]
    refine (hc w hw.heap).mono fun e w' ⟨v, hev, hh, hΦ⟩ => ?_
    subst hev
    exact hK _ _ (k v _ hΦ _ _ (hf.put hd v) (hw.trans hh))
theorem L.call0 {rest : List Oper} {op : Op} {ty : TypeId} {pos : String} {af : Array Edge} {f : FuncId} {args : Array Value} {Φ : Value → Heap → Prop}
    (he : Enters P ⟨none, op, ty, pos, af, none⟩ env f args) (hc : Meets P f args h Φ) (k : ∀ v h', Φ v h' → L P all Q n σ rest env h') :
    L P all Q n σ (⟨none, op, ty, pos, af, none⟩ :: rest) env h := fun a w hf hw =>
  wpList_plain rfl fun _ hK => by
    unfold Oper.wp
    rw [he.run a.eval w hf.agree]
    refine (hc w hw.heap).mono fun e w' ⟨v, hev, hh, hΦ⟩ => ?_
    subst hev
    exact hK _ _ (k v _ hΦ _ _ hf (hw.trans hh))
/-- A guarded operation whose guard holds (the slot of operation j bears the Bool that is wanted): as one without. -/
theorem L.guard {rest : List Oper} {d : Option Nat} {op : Op} {ty : TypeId} {pos : String} {af : Array Edge} {j : Nat} {b : Bool} {t : Nat}
    {l : List Oper} (hj0 : dstOf l j = some t) (ht : look env t = some (.bool b)) (k : L P l.toArray Q n σ (⟨d, op, ty, pos, af, none⟩ :: rest) env h) :
    L P l.toArray Q n σ (⟨d, op, ty, pos, af, some (j, b)⟩ :: rest) env h := fun a w hf hw => by
  have hj := dstOf_spec hj0
  have hy : yielded l.toArray a.tmps j = some b := by simp [yielded, hj, hf.get _ _ ht]
  have k := k a w hf hw
  unfold wpList at k ⊢
  simp only [Region.wanted, hy, beq_self_eq_true, if_true] at k ⊢
  exact k
theorem L.guard_not {rest : List Oper} {d : Nat} {op : Op} {ty : TypeId} {pos : String} {af : Array Edge} {j : Nat} {b : Bool} {t : Nat}
    {l : List Oper} (hj0 : dstOf l j = some t) (ht : look env t = some (.bool (!b))) (hd : Nat.blt d n.size = true) (k : L P l.toArray Q n σ rest ((d, undef) :: env) h) :
    L P l.toArray Q n σ (⟨some d, op, ty, pos, af, some (j, b)⟩ :: rest) env h := fun a w hf hw => by
  have hj := dstOf_spec hj0
  have hy : yielded l.toArray a.tmps j = some (!b) := by simp [yielded, hj, hf.get _ _ ht]
  have k := k _ w (hf.put hd undef) hw
  unfold wpList
  rw [if_neg (by simp [Region.wanted, hy])]
  exact k
/-- Ways that part in a region meet again: slot t bears a value of which Φ tells. -/
theorem L.join {ops : List Oper} (env0 : Env) (t : Nat) (Φ : Value → Heap → Prop) (k1 : L P all (fun e a w => e = .normal ∧ ∃ v h', Φ v h' ∧ Fits n ((t, v) :: env0) a ∧ Hp h' σ w) n σ ops env h)
    (k2 : ∀ v h', Φ v h' → N n σ (Q .normal) ((t, v) :: env0) h') : L P all Q n σ ops env h := fun a w hf hw => by
  have h0 := k1 a w hf hw
  clear k1 hf hw
  induction ops generalizing a w with
  | nil =>
    obtain ⟨_, v, h', hΦ, hf, hw⟩ := h0
    exact k2 v h' hΦ a w hf hw
  | cons o rest ih =>
    unfold wpList at h0 ⊢
    split
    · rename_i hw'
      rw [if_pos hw'] at h0
      rcases h0 with h0 | ⟨h1, a', w', h2⟩
      · left
        unfold Oper.wp at h0 ⊢
        generalize (execOp a.eval o).run P w = r at h0 ⊢
        cases r with
        | ok nx w' =>
          cases nx <;> simp only [Oper.upon] at h0 ⊢ <;> first
            | exact ih _ _ h0
            | exact Calls.mono h0 (fun e w'' he => by cases e <;> first | exact ih _ _ he | (obtain ⟨hh, _⟩ := he; cases hh; done) | (obtain ⟨_, _, hh, _⟩ := he; cases hh; done))
            | exact Rows.mono h0 (fun v w'' he => ih _ _ he)
        | halt x w' => cases x <;> simp only [Oper.upon] at h0 ⊢ <;> (obtain ⟨hh, _⟩ := h0; cases hh)
      · cases h2.1
    · rename_i hw'
      rw [if_neg hw'] at h0
      exact ih _ _ h0
theorem N.join {t : Nat} {Φ : Value → Heap → Prop} {env0 : Env} {v : Value} (hΦ : Φ v h) (hs : Sub ((t, v) :: env0) env) :
    N n σ ((fun (e : Exit) a w => e = .normal ∧ ∃ v h', Φ v h' ∧ Fits n ((t, v) :: env0) a ∧ Hp h' σ w) .normal) env h := fun _ _ hf hw => ⟨rfl, v, h, hΦ, hf.sub hs, hw⟩
/-- A Bool in a slot, parted. -/
theorem L.bool {ops : List Oper} (t : Nat) {b : Bool} (hb : look env t = some (.bool b)) (k1 : b = true → L P all Q n σ ops ((t, .bool true) :: env) h) (k2 : b = false → L P all Q n σ ops ((t, .bool false) :: env) h) :
    L P all Q n σ ops env h := fun a w hf hw => by
  cases b
  · exact k2 rfl a w ⟨hf.defers, hf.size, fun t' v hv => by
      unfold look at hv
      by_cases e : Nat.beq t t' = true
      · rw [e] at hv; simp at hv; subst hv; have := Nat.eq_of_beq_eq_true e; subst this; exact hf.get _ _ hb
      · rw [Bool.not_eq_true] at e; rw [e] at hv; exact hf.get _ _ hv⟩ hw
  · exact k1 rfl a w ⟨hf.defers, hf.size, fun t' v hv => by
      unfold look at hv
      by_cases e : Nat.beq t t' = true
      · rw [e] at hv; simp at hv; subst hv; have := Nat.eq_of_beq_eq_true e; subst this; exact hf.get _ _ hb
      · rw [Bool.not_eq_true] at e; rw [e] at hv; exact hf.get _ _ hv⟩ hw
theorem L.dec {ops : List Oper} (t : Nat) {p : Prop} [Decidable p] (hb : look env t = some (.bool (decide p))) (k1 : p → L P all Q n σ ops ((t, .bool true) :: env) h) (k2 : ¬ p → L P all Q n σ ops ((t, .bool false) :: env) h) :
    L P all Q n σ ops env h := L.bool t hb (fun e => k1 (of_decide_eq_true e)) (fun e => k2 (of_decide_eq_false e))

/-- A guarded operation whose guard is not decided: parted. -/
theorem L.gdec {rest : List Oper} {d : Option Nat} {op : Op} {ty : TypeId} {pos : String} {af : Array Edge} {j : Nat} {b : Bool} {t : Nat} {p : Prop} [Decidable p]
    {l : List Oper} (_hj : dstOf l j = some t) (ht : look env t = some (.bool (decide p))) (k1 : p → L P l.toArray Q n σ (⟨d, op, ty, pos, af, some (j, b)⟩ :: rest) ((t, .bool true) :: env) h)
    (k2 : ¬ p → L P l.toArray Q n σ (⟨d, op, ty, pos, af, some (j, b)⟩ :: rest) ((t, .bool false) :: env) h) : L P l.toArray Q n σ (⟨d, op, ty, pos, af, some (j, b)⟩ :: rest) env h := L.dec t ht k1 k2
theorem L.gbool {rest : List Oper} {d : Option Nat} {op : Op} {ty : TypeId} {pos : String} {af : Array Edge} {j : Nat} {b : Bool} {t : Nat} {c : Bool}
    {l : List Oper} (_hj : dstOf l j = some t) (ht : look env t = some (.bool c)) (k1 : c = true → L P l.toArray Q n σ (⟨d, op, ty, pos, af, some (j, b)⟩ :: rest) ((t, .bool true) :: env) h)
    (k2 : c = false → L P l.toArray Q n σ (⟨d, op, ty, pos, af, some (j, b)⟩ :: rest) ((t, .bool false) :: env) h) : L P l.toArray Q n σ (⟨d, op, ty, pos, af, some (j, b)⟩ :: rest) env h := L.bool t ht k1 k2
def JoinB (n : Fr) (σ : World) (env : Env) (h : Heap) (t : Nat) (c : Bool) (e : Exit) (a : Act) (w : World) : Prop := e = .normal ∧ ∃ v h', (v = .bool c ∧ h' = h) ∧ Fits n ((t, v) :: env) a ∧ Hp h' σ w
/-- Ways that part in a region which tests p, and leaves the heap alone, meet again. -/
theorem L.joinB {ops : List Oper} {env0 : Env} (t : Nat) (p : Prop) [Decidable p] (_hs : Sub env0 env) (k1 : L P all (JoinB n σ env0 h t (decide p)) n σ ops env h) (k2 : N n σ (Q .normal) ((t, .bool (decide p)) :: env0) h) : L P all Q n σ ops env h :=
  L.join env0 t (fun v h' => v = .bool (decide p) ∧ h' = h) k1 (fun v h' ⟨hv, hh⟩ => by subst hv; subst hh; exact k2)
theorem N.joinB {env0 : Env} {t : Nat} {c c' : Bool} (hv : look env t = some (.bool c')) (hc : c' = c) (hs : Sub env0 env) : N n σ (JoinB n σ env0 h t c .normal) env h :=
  fun _ _ hf hw => ⟨rfl, _, h, ⟨rfl, rfl⟩, ⟨hf.defers, hf.size, fun t' v hv' => by
    unfold look at hv'
    by_cases e : Nat.beq t t' = true
    · rw [e] at hv'; simp at hv'; subst hv'; have := Nat.eq_of_beq_eq_true e; subst this; subst hc; exact hf.get _ _ hv
    · rw [Bool.not_eq_true] at e; rw [e] at hv'; exact hf.get _ _ (hs.look hv')⟩, hw⟩
theorem Sub.cons {e e' : Env} {t : Nat} {v : Value} (h1 : E.look e t = some v) (h2 : Sub e' e) : Sub ((t, v) :: e') e := ⟨h1, h2⟩

/-! ### a region that draws its order, where each operation yields one value whatever heap of a class there is -/
def Cls (K : Heap → Prop) (σ w : World) : Prop := ∃ h, K h ∧ Hp h σ w
def LQ (P : Program) (all : Array Oper) (K : Heap → Prop) (F : Act → Prop) (n : Fr) (σ : World) (ops : List Oper) (env : Env) : Prop := ∀ a, Fits n env a → wpQuiet P all (Cls K σ) F ops a
theorem C.quiet {id : Nat} {l : List Oper} (K : Heap → Prop) (hm : P.follows .mixedOrders = true) (hB : Region.lexB .any l.toArray = true) (hK : K h)
    (k : LQ P l.toArray K (fun a => ∀ w, Cls K σ w → Q .normal a w) n σ l env) : C P Q n σ (.region id l.toArray true) env h := fun a w hf hw =>
  wp_region_quiet (C := Cls K σ) hm hB ⟨h, hK, hw.heap, hw.os, hw.tape, hw.output⟩ (by simpa using k a hf)
section
variable {K : Heap → Prop} {F : Act → Prop}
theorem LQ.nil {Q' : Act → World → Prop} (k : ∀ h, K h → N n σ Q' env h) : LQ P all K (fun a => ∀ w, Cls K σ w → Q' a w) n σ [] env := fun a hf => wpQuiet_nil (fun w ⟨h, hK, hw⟩ => k h hK a w hf hw)
theorem LQ.sub {ops : List Oper} (env' : Env) (hs : Sub env' env) (k : LQ P all K F n σ ops env') : LQ P all K F n σ ops env := fun a hf => k a (hf.sub hs)
theorem LQ.pure {rest : List Oper} {d : Nat} {op : Op} {ty : TypeId} {pos : String} {af : Array Edge} {v : Value}
    (hp : ∀ h, K h → Pu P ⟨some d, op, ty, pos, af, none⟩ env h v) (hd : Nat.blt d n.size = true) (k : LQ P all K F n σ rest ((d, v) :: env)) :
    LQ P all K F n σ (⟨some d, op, ty, pos, af, none⟩ :: rest) env := fun a hf =>
  wpQuiet_step fun _ hK => by
    rw [if_pos (show Region.wanted _ _ = true from rfl)]
    refine ⟨v, fun w ⟨h, hKh, hw⟩ => ?_, hK _ (k _ (hf.put hd v))⟩
    unfold Oper.quietAt
    rw [(hp h hKh).run a.eval w hf.agree hw.heap]
    exact ⟨rfl, rfl⟩
theorem LQ.call {rest : List Oper} {d : Nat} {op : Op} {ty : TypeId} {pos : String} {af : Array Edge} {f : FuncId} {args : Array Value} {v : Value}
    (he : Enters P ⟨some d, op, ty, pos, af, none⟩ env f args) (hd : Nat.blt d n.size = true) (hc : ∀ h, K h → Meets P f args h (fun u h' => u = v ∧ K h')) (k : LQ P all K F n σ rest ((d, v) :: env)) :
    LQ P all K F n σ (⟨some d, op, ty, pos, af, none⟩ :: rest) env := fun a hf =>
  wpQuiet_step fun _ hK => by
    rw [if_pos (show Region.wanted _ _ = true from rfl)]
    refine ⟨v, fun w ⟨h, hKh, hw⟩ => ?_, hK _ (k _ (hf.put hd v))⟩
    unfold Oper.quietAt
    rw [he.run a.eval w hf.agree]
    refine ⟨rfl, (hc h hKh w hw.heap).mono fun e w' ⟨u, hev, hh, hu, hk⟩ => ?_⟩
    subst hu
    exact ⟨hev, w'.heap, hk, hw.trans hh⟩
theorem LQ.guard {rest : List Oper} {d : Option Nat} {op : Op} {ty : TypeId} {pos : String} {af : Array Edge} {j : Nat} {b : Bool} {t : Nat}
    {l : List Oper} (hj0 : dstOf l j = some t) (ht : look env t = some (.bool b)) (k : LQ P l.toArray K F n σ (⟨d, op, ty, pos, af, none⟩ :: rest) env) :
    LQ P l.toArray K F n σ (⟨d, op, ty, pos, af, some (j, b)⟩ :: rest) env := fun a hf => by
  have hj := dstOf_spec hj0
  have hy : yielded l.toArray a.tmps j = some b := by simp [yielded, hj, hf.get _ _ ht]
  have k := k a hf
  unfold wpQuiet at k ⊢
  simp only [Region.wanted, hy, beq_self_eq_true, if_true] at k ⊢
  exact k
theorem LQ.guard_not {rest : List Oper} {d : Nat} {op : Op} {ty : TypeId} {pos : String} {af : Array Edge} {j : Nat} {b : Bool} {t : Nat}
    {l : List Oper} (hj0 : dstOf l j = some t) (ht : look env t = some (.bool (!b))) (hd : Nat.blt d n.size = true) (k : LQ P l.toArray K F n σ rest ((d, undef) :: env)) :
    LQ P l.toArray K F n σ (⟨some d, op, ty, pos, af, some (j, b)⟩ :: rest) env := fun a hf => by
  have hj := dstOf_spec hj0
  have hy : yielded l.toArray a.tmps j = some (!b) := by simp [yielded, hj, hf.get _ _ ht]
  have k := k _ (hf.put hd undef)
  unfold wpQuiet
  rw [if_neg (by simp [Region.wanted, hy])]
  exact k
theorem LQ.gdec {rest : List Oper} {d : Option Nat} {op : Op} {ty : TypeId} {pos : String} {af : Array Edge} {j : Nat} {b : Bool} {t : Nat} {p : Prop} [Decidable p]
    {l : List Oper} (_hj : dstOf l j = some t) (ht : look env t = some (.bool (decide p))) (k1 : p → LQ P l.toArray K F n σ (⟨d, op, ty, pos, af, some (j, b)⟩ :: rest) ((t, .bool true) :: env))
    (k2 : ¬ p → LQ P l.toArray K F n σ (⟨d, op, ty, pos, af, some (j, b)⟩ :: rest) ((t, .bool false) :: env)) : LQ P l.toArray K F n σ (⟨d, op, ty, pos, af, some (j, b)⟩ :: rest) env := fun a hf => by
  by_cases hp : p
  · exact k1 hp a (by have : decide p = true := decide_eq_true hp
                      rw [this] at ht
                      exact hf.sub' ht)
  · exact k2 hp a (by have : decide p = false := decide_eq_false hp
                      rw [this] at ht
                      exact hf.sub' ht)
end

/-! ### a region that draws its order, with operations that make or write memory: what yields its value in every heap of a class is taken first; whatever else may come up comes up -/
def Ret (σ : World) (Φ : Value → Heap → Prop) (e : Ending) (w' : World) : Prop := ∃ v, e = .returned v ∧ Hp w'.heap σ w' ∧ Φ v w'.heap
def NoPanic (Q : Exit → Act → World → Prop) : Prop := ∀ c a w, ¬ Q (.panic c) a w
theorem NoPanic.body {fn : Func} {Φ : Value → Heap → Prop} {σ : World} : NoPanic (bodyPost P fn (Ret σ Φ)) := fun c a w h => by
  obtain ⟨_, v, hv, _⟩ := h
  cases hv
theorem NoPanic.then {K : Act → World → Prop} (h : NoPanic Q) : NoPanic (Exit.then K Q) := fun c a w hq => h c a w hq
theorem NoPanic.block {id : Nat} (h : NoPanic Q) : NoPanic (Exit.inBlock id Q) := fun c a w hq => h c a w hq
theorem NoPanic.normal {A : Act → World → Prop} : NoPanic (fun e a w => e = .normal ∧ A a w) := fun c a w hq => by cases hq.1
theorem NoPanic.joinB {env0 : Env} {t : Nat} {c : Bool} : NoPanic (JoinB n σ env0 h t c) := fun _ _ _ hq => by cases hq.1
def H (P : Program) (all : Array Oper) (Q : Exit → Act → World → Prop) (K : Heap → Prop) (n : Fr) (σ : World) (fuel : Nat) (listed : Array Bool) (env : Env) (h : Heap) : Prop :=
  ∀ a w, Fits n env a → Hp h σ w → wpAnyH P .any all Q (Cls K σ) fuel listed a w
theorem C.drawn {id : Nat} {l : List Oper} (K : Heap → Prop) (hm : P.follows .mixedOrders = true) (_hK : K h) (k : H P l.toArray Q K n σ l.length (Array.replicate l.length false) env h) : C P Q n σ (.region id l.toArray true) env h := fun a w hf hw =>
  wp_region_any hm (by
    have := wpAny_of_held _ _ _ _ (k a { w with drawn := w.drawn + 1 } hf ⟨hw.heap, hw.os, hw.tape, hw.output⟩)
    simpa using this)
section
variable {K : Heap → Prop} {fuel : Nat} {listed : Array Bool}
def Wanted (l : List Oper) (env : Env) : Option (Nat × Bool) → Prop
  | none => True
  | some (j, b) => ∃ t, dstOf l j = some t ∧ look env t = some (.bool b)
theorem Wanted.wanted {l : List Oper} {g : Option (Nat × Bool)} {a : Act} (hf : Fits n env a) (hw : Wanted l env g) {d : Option Nat} {op : Op} {ty : TypeId} {pos : String} {af : Array Edge} :
    Region.wanted ⟨d, op, ty, pos, af, g⟩ (yielded l.toArray a.tmps) = true := by
  cases g with
  | none => rfl
  | some p =>
    obtain ⟨j, b⟩ := p
    obtain ⟨t, hj0, ht⟩ := hw
    have hj := dstOf_spec hj0
    have hy : yielded l.toArray a.tmps j = some b := by simp [yielded, hj, hf.get _ _ ht]
    simp [Region.wanted, hy]
/-- Guarded operations, taken first. -/
theorem H.takeG {l : List Oper} {g : Option (Nat × Bool)} {i d : Nat} {op : Op} {ty : TypeId} {pos : String} {af : Array Edge} {v : Value} (hi : l.toArray[i]? = some ⟨some d, op, ty, pos, af, g⟩) (hw0 : Wanted l env g) (hs : Region.noSelect l.toArray = true) (hf : Region.free .any l.toArray listed i = true)
    (hr : (Region.ready .any l.toArray listed).contains i = true) (hQ : NoPanic Q) (hK : K h) (hp : ∀ h, K h → Pu P ⟨some d, op, ty, pos, af, g⟩ env h v) (hd : Nat.blt d n.size = true)
    (k : H P l.toArray Q K n σ fuel (listed.setIfInBounds i true) ((d, v) :: env) h) : H P l.toArray Q K n σ (fuel + 1) listed env h := fun a w hft hw =>
  wpAnyH_take hi hs hf hr (fun c a w hq => absurd hq (hQ _ _ _)) (.inl ⟨hw0.wanted hft, fun w ⟨h', hK', hw'⟩ => (hp h' hK').run a.eval w hft.agree hw'.heap⟩) ⟨h, hK, hw⟩ (k _ _ (hft.put hd v) hw)
theorem H.callG {l : List Oper} {g : Option (Nat × Bool)} {i d : Nat} {op : Op} {ty : TypeId} {pos : String} {af : Array Edge} {f : FuncId} {args : Array Value} {Φ : Value → Heap → Prop} (hi : l.toArray[i]? = some ⟨some d, op, ty, pos, af, g⟩) (hw0 : Wanted l env g) (hr : Region.ready .any l.toArray listed = [i])
    (he : Enters P ⟨some d, op, ty, pos, af, g⟩ env f args) (hd : Nat.blt d n.size = true) (hc : Meets P f args h Φ)
    (k : ∀ v h', Φ v h' → K h' ∧ H P l.toArray Q K n σ fuel (listed.setIfInBounds i true) ((d, v) :: env) h') : H P l.toArray Q K n σ (fuel + 1) listed env h := fun a w hf hw =>
  wpAnyH_all hr (by simp) (fun j hj => by
    have : j = i := by simpa using hj
    subst this
    unfold wpOp
    simp only [hi]
    rw [if_pos (hw0.wanted hf)]
    left
    unfold Oper.wp
    rw [he.run a.eval w hf.agree]
    refine (hc w hw.heap).mono fun e w' ⟨v, hev, hh, hΦ⟩ => ?_
    subst hev
    obtain ⟨hk, hc⟩ := k v _ hΦ
    exact ⟨⟨_, hk, hw.trans hh⟩, hc _ _ (hf.put hd v) (hw.trans hh)⟩)
theorem H.effG {l : List Oper} {g : Option (Nat × Bool)} {i d : Nat} {op : Op} {ty : TypeId} {pos : String} {af : Array Edge} {Φ : Value → Heap → Prop} (hi : l.toArray[i]? = some ⟨some d, op, ty, pos, af, g⟩) (hw0 : Wanted l env g) (hr : Region.ready .any l.toArray listed = [i]) (hp : Eff P ⟨some d, op, ty, pos, af, g⟩ env h Φ) (hd : Nat.blt d n.size = true)
    (k : ∀ v h', Φ v h' → K h' ∧ H P l.toArray Q K n σ fuel (listed.setIfInBounds i true) ((d, v) :: env) h') : H P l.toArray Q K n σ (fuel + 1) listed env h := fun a w hf hw =>
  wpAnyH_all hr (by simp) (fun j hj => by
    have : j = i := by simpa using hj
    subst this
    unfold wpOp
    simp only [hi]
    rw [if_pos (hw0.wanted hf)]
    left
    obtain ⟨v, w', hrn, hh, hΦ⟩ := hp.run a.eval w hf.agree hw.heap
    unfold Oper.wp
    obtain ⟨hk, hc⟩ := k v _ hΦ
    rcases hrn with hrn | ⟨hrn, rfl⟩ <;> rw [hrn] <;> exact ⟨⟨_, hk, hw.trans hh⟩, hc _ _ (hf.put hd _) (hw.trans hh)⟩)
theorem H.done (hr : Region.ready .any all listed = []) (k : N n σ (Q .normal) env h) : H P all Q K n σ 0 listed env h := fun a w hf hw => ⟨hr, k a w hf hw⟩
theorem H.take {i d : Nat} {op : Op} {ty : TypeId} {pos : String} {af : Array Edge} {v : Value} (hi : all[i]? = some ⟨some d, op, ty, pos, af, none⟩) (hs : Region.noSelect all = true) (hf : Region.free .any all listed i = true)
    (hr : (Region.ready .any all listed).contains i = true) (hQ : NoPanic Q) (hK : K h) (hp : ∀ h, K h → Pu P ⟨some d, op, ty, pos, af, none⟩ env h v) (hd : Nat.blt d n.size = true)
    (k : H P all Q K n σ fuel (listed.setIfInBounds i true) ((d, v) :: env) h) : H P all Q K n σ (fuel + 1) listed env h := fun a w hft hw =>
  wpAnyH_take hi hs hf hr (fun c a w hq => absurd hq (hQ _ _ _)) (.inl ⟨rfl, fun w ⟨h', hK', hw'⟩ => (hp h' hK').run a.eval w hft.agree hw'.heap⟩) ⟨h, hK, hw⟩ (k _ _ (hft.put hd v) hw)
/-- Just one may come up: an operation that changes the heap. -/
theorem H.eff {i d : Nat} {op : Op} {ty : TypeId} {pos : String} {af : Array Edge} {Φ : Value → Heap → Prop} (hi : all[i]? = some ⟨some d, op, ty, pos, af, none⟩) (hr : Region.ready .any all listed = [i]) (hp : Eff P ⟨some d, op, ty, pos, af, none⟩ env h Φ) (hd : Nat.blt d n.size = true)
    (k : ∀ v h', Φ v h' → K h' ∧ H P all Q K n σ fuel (listed.setIfInBounds i true) ((d, v) :: env) h') : H P all Q K n σ (fuel + 1) listed env h := fun a w hf hw =>
  wpAnyH_all hr (by simp) (fun j hj => by
    have : j = i := by simpa using hj
    subst this
    unfold wpOp
    simp only [hi]
    rw [if_pos (show Region.wanted _ _ = true from rfl)]
    left
    obtain ⟨v, w', hrn, hh, hΦ⟩ := hp.run a.eval w hf.agree hw.heap
    unfold Oper.wp
    obtain ⟨hk, hc⟩ := k v _ hΦ
    rcases hrn with hrn | ⟨hrn, rfl⟩ <;> rw [hrn] <;> exact ⟨⟨_, hk, hw.trans hh⟩, hc _ _ (hf.put hd _) (hw.trans hh)⟩)
theorem H.eff0 {i : Nat} {op : Op} {ty : TypeId} {pos : String} {af : Array Edge} {Φ : Value → Heap → Prop} (hi : all[i]? = some ⟨none, op, ty, pos, af, none⟩) (hr : Region.ready .any all listed = [i]) (hp : Eff P ⟨none, op, ty, pos, af, none⟩ env h Φ)
    (k : ∀ v h', Φ v h' → K h' ∧ H P all Q K n σ fuel (listed.setIfInBounds i true) env h') : H P all Q K n σ (fuel + 1) listed env h := fun a w hf hw =>
  wpAnyH_all hr (by simp) (fun j hj => by
    have : j = i := by simpa using hj
    subst this
    unfold wpOp
    simp only [hi]
    rw [if_pos (show Region.wanted _ _ = true from rfl)]
    left
    obtain ⟨v, w', hrn, hh, hΦ⟩ := hp.run a.eval w hf.agree hw.heap
    unfold Oper.wp
    obtain ⟨hk, hc⟩ := k v _ hΦ
    rcases hrn with hrn | ⟨hrn, rfl⟩ <;> rw [hrn] <;> exact ⟨⟨_, hk, hw.trans hh⟩, hc _ _ hf (hw.trans hh)⟩)
theorem H.call {i d : Nat} {op : Op} {ty : TypeId} {pos : String} {af : Array Edge} {f : FuncId} {args : Array Value} {Φ : Value → Heap → Prop} (hi : all[i]? = some ⟨some d, op, ty, pos, af, none⟩) (hr : Region.ready .any all listed = [i])
    (he : Enters P ⟨some d, op, ty, pos, af, none⟩ env f args) (hd : Nat.blt d n.size = true) (hc : Meets P f args h Φ)
    (k : ∀ v h', Φ v h' → K h' ∧ H P all Q K n σ fuel (listed.setIfInBounds i true) ((d, v) :: env) h') : H P all Q K n σ (fuel + 1) listed env h := fun a w hf hw =>
  wpAnyH_all hr (by simp) (fun j hj => by
    have : j = i := by simpa using hj
    subst this
    unfold wpOp
    simp only [hi]
    rw [if_pos (show Region.wanted _ _ = true from rfl)]
    left
    unfold Oper.wp
    rw [he.run a.eval w hf.agree]
    refine (hc w hw.heap).mono fun e w' ⟨v, hev, hh, hΦ⟩ => ?_
    subst hev
    obtain ⟨hk, hc⟩ := k v _ hΦ
    exact ⟨⟨_, hk, hw.trans hh⟩, hc _ _ (hf.put hd v) (hw.trans hh)⟩)
/-- Two may come up: either first. -/
theorem H.two {i j : Nat} (hr : Region.ready .any all listed = [i, j]) (k1 : ∀ a w, Fits n env a → Hp h σ w → wpOp P all Q i (fun a' w' => Cls K σ w' ∧ wpAnyH P .any all Q (Cls K σ) fuel (listed.setIfInBounds i true) a' w') a w)
    (k2 : ∀ a w, Fits n env a → Hp h σ w → wpOp P all Q j (fun a' w' => Cls K σ w' ∧ wpAnyH P .any all Q (Cls K σ) fuel (listed.setIfInBounds j true) a' w') a w) : H P all Q K n σ (fuel + 1) listed env h := fun a w hf hw =>
  wpAnyH_all hr (by simp) (fun x hx => by
    simp at hx
    rcases hx with rfl | rfl
    · exact k1 a w hf hw
    · exact k2 a w hf hw)
/-- The class made smaller, on the way. -/
theorem H.narrow (K' : Heap → Prop) (hK : ∀ h, K' h → K h) (k : H P all Q K' n σ fuel listed env h) : H P all Q K n σ fuel listed env h := fun a w hf hw => by
  have := k a w hf hw
  clear k hf hw
  induction fuel generalizing listed a w with
  | zero => exact this
  | succ f ih => exact ⟨this.1, fun i hi => wpOp_mono (fun a' w' ⟨⟨h1, h2, h3⟩, h4⟩ => ⟨⟨h1, hK _ h2, h3⟩, ih _ _ h4⟩) (this.2 i hi)⟩
theorem H.sub (env' : Env) (hs : Sub env' env) (k : H P all Q K n σ fuel listed env' h) : H P all Q K n σ fuel listed env h := fun a w hf hw => k a w (hf.sub hs) hw
end

/-! ### code -/
theorem C.seq {x y : Code} (k : C P (Exit.then (y.wp P Q) Q) n σ x env h) : C P Q n σ (.seq x y) env h := fun a w hf hw => wp_seq (k a w hf hw)
theorem C.region {id : Nat} {l : List Oper} (k : L P l.toArray Q n σ l env h) : C P Q n σ (.region id l.toArray false) env h := fun a w hf hw => wp_region_lit (k a w hf hw)
theorem C.skip (k : N n σ (Q .normal) env h) : C P Q n σ .skip env h := fun a w hf hw => wp_skip (k a w hf hw)
theorem C.label {l : Nat} (k : N n σ (Q .normal) env h) : C P Q n σ (.label l) env h := fun a w hf hw => wp_label (k a w hf hw)
theorem C.exit {id : Nat} (k : N n σ (Q (.exit id)) env h) : C P Q n σ (.exit id) env h := fun a w hf hw => wp_exit (k a w hf hw)
theorem C.ret (k : N n σ (Q .ret) env h) : C P Q n σ .ret env h := fun a w hf hw => wp_ret (k a w hf hw)
theorem C.block {id : Nat} {c : Code} (k : C P (Exit.inBlock id Q) n σ c env h) : C P Q n σ (.block id c) env h := fun a w hf hw => wp_block (k a w hf hw)
theorem C.cond {c : Operand} {x y : Code} {b : Bool} (hb : ev env c = some (.bool b)) (k1 : b = true → C P Q n σ x env h) (k2 : b = false → C P Q n σ y env h) : C P Q n σ (.cond c x y) env h :=
  fun a w hf hw => wp_cond_split (hf.agree _ _ hb) (fun e => k1 e a w hf hw) (fun e => k2 e a w hf hw)
theorem C.dec {c : Operand} {x y : Code} {p : Prop} [Decidable p] (hb : ev env c = some (.bool (decide p))) (k1 : p → C P Q n σ x env h) (k2 : ¬ p → C P Q n σ y env h) : C P Q n σ (.cond c x y) env h :=
  C.cond hb (fun e => k1 (of_decide_eq_true e)) (fun e => k2 (of_decide_eq_false e))
theorem C.tt {c : Operand} {x y : Code} (hb : ev env c = some (.bool true)) (k : C P Q n σ x env h) : C P Q n σ (.cond c x y) env h := C.cond hb (fun _ => k) (fun e => by cases e)
theorem C.ff {c : Operand} {x y : Code} (hb : ev env c = some (.bool false)) (k : C P Q n σ y env h) : C P Q n σ (.cond c x y) env h := C.cond hb (fun e => by cases e) (fun _ => k)

def Cut {ι : Type} (n : Fr) (σ : World) (f : ι → Env) (I : ι → Heap → Prop) (a : Act) (w : World) : Prop := ∃ j h', I j h' ∧ Fits n (f j) a ∧ Hp h' σ w
/-- Ways meet again behind x. -/
theorem C.cut {ι : Type} {x y : Code} (f : ι → Env) (I : ι → Heap → Prop) (k1 : C P (Exit.then (Cut n σ f I) Q) n σ x env h) (k2 : ∀ j h', I j h' → C P Q n σ y (f j) h') : C P Q n σ (.seq x y) env h :=
  fun a w hf hw => wp_seq (wp_mono (k1 a w hf hw) fun e a' w' hq => by
    cases e <;> first | (obtain ⟨j, h', hI, hf', hw'⟩ := hq; exact k2 j h' hI a' w' hf' hw') | exact hq)
theorem N.cut {ι : Type} {f : ι → Env} {I : ι → Heap → Prop} (j : ι) (hI : I j h) (hs : Sub (f j) env) : N n σ (Cut n σ f I) env h := fun _ _ hf hw => ⟨j, h, hI, hf.sub hs, hw⟩
theorem C.late {ι : Type} {x : Code} (f : ι → Env) (I : ι → Heap → Prop) (k1 : C P (Exit.then (Cut n σ f I) Q) n σ x env h) (k2 : ∀ j h', I j h' → N n σ (Q .normal) (f j) h') : C P Q n σ x env h :=
  fun a w hf hw => wp_mono (k1 a w hf hw) fun e a' w' hq => by
    cases e <;> first | (obtain ⟨j, h', hI, hf', hw'⟩ := hq; exact k2 j h' hI a' w' hf' hw') | exact hq
/-- .. where one slot bears what the ways have made. -/
theorem C.late1 {x : Code} {env0 : Env} (t : Nat) (Φ : Value → Heap → Prop) (_hs : Sub env0 env) (k1 : C P (Exit.then (Cut n σ (fun v => (t, v) :: env0) Φ) Q) n σ x env h) (k2 : ∀ v h', Φ v h' → N n σ (Q .normal) ((t, v) :: env0) h') : C P Q n σ x env h :=
  C.late _ _ k1 k2
def Round {ι : Type} (n : ι → Fr) (σ : World) (f : ι → Env) (I : ι → Heap → Prop) (μ : ι → Nat) (m : Nat) (a : Act) (w : World) : Prop := ∃ j h', I j h' ∧ μ j < m ∧ Fits (n j) (f j) a ∧ Hp h' σ w
theorem N.round {ι : Type} {f : ι → Env} {I : ι → Heap → Prop} {μ : ι → Nat} {m : Nat} {n : ι → Fr} (j : ι) (hI : I j h) (hm : μ j < m) (hs : Sub (f j) env) : N (n j) σ (Round n σ f I μ m) env h := fun _ _ hf hw => ⟨j, h, hI, hm, hf.sub hs, hw⟩
theorem C.loop {ι : Type} {c : Code} {n : ι → Fr} (f : ι → Env) (I : ι → Heap → Prop) (μ : ι → Nat) (i0 : ι) (hI : I i0 h) (hs : Sub (f i0) env)
    (k : ∀ i h, I i h → C P (Exit.then (Round n σ f I μ (μ i)) Q) (n i) σ c (f i) h) : C P Q (n i0) σ (.loop c) env h := by
  intro a w hf hw b kk cs
  have key : ∀ m i h a w, μ i = m → I i h → Fits (n i) (f i) a → Hp h σ w → ∃ e a' w', Q e a' w' ∧ Arrives P (lone (b.at a (.code c :: .inLoop c :: kk)) cs w) b kk cs e a' w' := by
    intro m
    induction m using Nat.strongRecOn with
    | _ m ih =>
      intro i h a w hm hI hf hw
      obtain ⟨e, a₁, w₁, hq, harr⟩ := k i h hI a w hf hw b (.inLoop c :: kk) cs
      cases e with
      | normal =>
        obtain ⟨j, h', hI', hlt, hf', hw'⟩ := hq
        obtain ⟨e₂, a₂, w₂, hq₂, harr₂⟩ := ih (μ j) (hm ▸ hlt) j h' a₁ w₁ rfl hI' hf' hw'
        exact ⟨e₂, a₂, w₂, hq₂, .of_steps (Steps.trans harr (.one step_inLoop)) harr₂⟩
      | exit id => exact ⟨_, a₁, w₁, hq, .pass (x := .inLoop c) rfl (fun _ _ => .inl (by simp)) harr⟩
      | goto l => exact ⟨_, a₁, w₁, hq, .pass (x := .inLoop c) rfl (fun _ _ => .inl (by simp)) harr⟩
      | ret => exact ⟨_, a₁, w₁, hq, .pass (x := .inLoop c) rfl (fun _ _ => .inl (by simp)) harr⟩
      | panic ch => exact ⟨_, a₁, w₁, hq, .pass (x := .inLoop c) rfl (fun _ _ => .inl (by simp)) harr⟩
      | outgrown => exact ⟨_, a₁, w₁, hq, .pass (x := .inLoop c) rfl (fun _ _ => .inl (by simp)) harr⟩
  obtain ⟨e, a', w', hq, harr⟩ := key _ i0 h a w rfl hI (hf.sub hs) hw
  exact ⟨e, a', w', hq, .of_steps (.one step_loop) harr⟩

/-! ### where a piece of code ends -/
theorem N.then_normal {K : Act → World → Prop} (k : N n σ K env h) : N n σ (Exit.then K Q .normal) env h := k
theorem N.wp {c : Code} (k : C P Q n σ c env h) : N n σ (c.wp P Q) env h := k
theorem N.then_exit {K : Act → World → Prop} {id : Nat} (k : N n σ (Q (.exit id)) env h) : N n σ (Exit.then K Q (.exit id)) env h := k
theorem N.then_ret {K : Act → World → Prop} (k : N n σ (Q .ret) env h) : N n σ (Exit.then K Q .ret) env h := k
theorem N.block_normal {id : Nat} (k : N n σ (Q .normal) env h) : N n σ (Exit.inBlock id Q .normal) env h := k
theorem N.block_ret {id : Nat} (k : N n σ (Q .ret) env h) : N n σ (Exit.inBlock id Q .ret) env h := k
theorem N.block_same {id : Nat} (k : N n σ (Q .normal) env h) : N n σ (Exit.inBlock id Q (.exit id)) env h := fun a w hf hw => by
  simp only [Exit.inBlock, if_true]; exact k a w hf hw
theorem N.block_other {id id' : Nat} (hne : Nat.beq id' id = false) (k : N n σ (Q (.exit id')) env h) : N n σ (Exit.inBlock id Q (.exit id')) env h := fun a w hf hw => by
  have : id' ≠ id := fun e => by subst e; simp at hne
  simp only [Exit.inBlock, if_neg this]; exact k a w hf hw

/-! ### a function -/
theorem N.ret1 {fn : Func} {Φ : Value → Heap → Prop} {t : Nat} {v : Value} (hD : n.D = []) (hr : fn.results = #[.tmp t]) (hv : look env t = some v) (hΦ : Φ v h) : N n σ (bodyPost P fn (Ret σ Φ) .ret) env h :=
  fun a w hf hw => ⟨hf.defers.trans hD, v, by simp [results, hr, hf.get _ _ hv], v, rfl, hw.heap ▸ hw, hw.heap ▸ hΦ⟩
theorem N.ret2 {fn : Func} {Φ : Value → Heap → Prop} {t1 t2 : Nat} {v1 v2 : Value} (hD : n.D = []) (hr : fn.results = #[.tmp t1, .tmp t2]) (h1 : look env t1 = some v1) (h2 : look env t2 = some v2) (hΦ : Φ (.tuple #[v1, v2]) h) :
    N n σ (bodyPost P fn (Ret σ Φ) .ret) env h :=
  fun a w hf hw => ⟨hf.defers.trans hD, .tuple #[v1, v2], by simp [results, hr, hf.get _ _ h1, hf.get _ _ h2], _, rfl, hw.heap ▸ hw, hw.heap ▸ hΦ⟩
theorem N.ret3 {fn : Func} {Φ : Value → Heap → Prop} {t1 t2 t3 : Nat} {v1 v2 v3 : Value} (hD : n.D = []) (hr : fn.results = #[.tmp t1, .tmp t2, .tmp t3]) (h1 : look env t1 = some v1) (h2 : look env t2 = some v2) (h3 : look env t3 = some v3)
    (hΦ : Φ (.tuple #[v1, v2, v3]) h) : N n σ (bodyPost P fn (Ret σ Φ) .ret) env h :=
  fun a w hf hw => ⟨hf.defers.trans hD, .tuple #[v1, v2, v3], by simp [results, hr, hf.get _ _ h1, hf.get _ _ h2, hf.get _ _ h3], _, rfl, hw.heap ▸ hw, hw.heap ▸ hΦ⟩
theorem N.ret0 {fn : Func} {Φ : Value → Heap → Prop} (hD : n.D = []) (hr : fn.results = #[]) (hΦ : Φ (.tuple #[]) h) : N n σ (bodyPost P fn (Ret σ Φ) .ret) env h :=
  fun a w hf hw => ⟨hf.defers.trans hD, .tuple #[], by simp [results, hr], _, rfl, hw.heap ▸ hw, hw.heap ▸ hΦ⟩
/-- A body that ends without 'return' (no results). -/
theorem N.end0 {fn : Func} {Φ : Value → Heap → Prop} (hD : n.D = []) (hr : fn.results = #[]) (hΦ : Φ (.tuple #[]) h) : N n σ (bodyPost P fn (Ret σ Φ) .normal) env h :=
  fun a w hf hw => ⟨hf.defers.trans hD, .tuple #[], by simp [results, hr], _, rfl, hw.heap ▸ hw, hw.heap ▸ hΦ⟩
def argEnv : Nat → List Value → Env
  | _, [] => []
  | k, v :: r => (k, v) :: argEnv (k + 1) r
theorem look_argEnv : ∀ (vs : List Value) (k t : Nat) (v : Value), look (argEnv k vs) t = some v → k ≤ t ∧ vs[t - k]? = some v
  | [], _, _, _, h => by cases h
  | u :: r, k, t, v, h => by
    unfold argEnv look at h
    by_cases e : Nat.beq k t = true
    · rw [e] at h
      have := Nat.eq_of_beq_eq_true e
      subst this
      simp at h
      simp [h]
    · rw [Bool.not_eq_true] at e
      rw [e] at h
      have ih := look_argEnv r (k + 1) t v h
      refine ⟨by omega, ?_⟩
      rw [show t - k = (t - (k + 1)) + 1 by omega]
      simpa using ih.2
theorem Meets.intro {f : FuncId} {fn : Func} {c : Code} {args : List Value} {Φ : Value → Heap → Prop} (hf : P.funcs[f]? = some fn) (hb : fn.body = some c) {m : Nat} (hn : fn.ntmps = m) (hl : Nat.ble args.length m = true)
    (k : ∀ σ, C P (bodyPost P fn (Ret σ Φ)) ⟨m, []⟩ σ c (argEnv 0 args) h) : Meets P f args.toArray h Φ := fun w hw =>
  calls_of_wp hf hb (k w _ w ⟨rfl, by have : args.length ≤ m := by simpa using hl
                                      simp [hn]; omega, fun t v hv => by
    have := (look_argEnv args 0 t v hv).2
    simp only [Nat.sub_zero] at this
    have ht : t < args.length := (List.getElem?_eq_some_iff.1 this).1
    rw [Array.getElem?_append_left (by simpa using ht)]
    simpa using this⟩ ⟨hw, rfl, rfl, rfl⟩)
end
end Go.E
