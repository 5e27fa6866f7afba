/- The reckoning of code, and that it is right. No program in sight. -/
import Derived.Test.YtknfebfdehdapaaDoorV2
namespace Go.E
open Go
set_option linter.unusedVariables false
set_option linter.unusedSimpArgs false

abbrev Kt := Env → Ro → Chs → Prop
structure Stop (p : Prop) : Prop where
  run : p
structure Br (c : Bool) (A B : Prop) : Prop where
  yes : c = true → A
  no : c = false → B
def jb (b c q : Bool) : Bool := match b with | true => c && q | false => c || q
/-- A part of a region that is run just if c is b: the ways are walked apart, or they meet again at a test's value. -/
inductive GJ (c b chk : Bool) (A B : Prop) (S R : Bool → Prop) : Prop where
  | split (yes : c = b → A) (no : c = !b → B)
  | join (q : Bool) (hc : chk = true) (seg : c = b → S q) (rest : R (jb b c q))
/-- Those parts of l are there. -/
inductive Sup : Chs → Chs → Prop where
  | nil (l : Chs) : Sup l []
  | cons {l : Chs} {c : Chunk} {r : Chs} {o : Chs} (h : Take l c r) (t : Sup r o) : Sup l (c :: o)
  | nilc {l : Chs} {t : TypeId} {s : Nat} {o : Chs} (h : Sup l o) : Sup l (.sl none 0 0 t s [] :: o)
  | all (l : Chs) : Sup l l
  | drop (c : Chunk) {l o : Chs} (h : Sup l o) : Sup (c :: l) o
theorem Sat.nilc {ro : Ro} {own : Chs} {h : Heap} (hs : Sat ro own h) (t : TypeId) (s : Nat) : Sat ro (.sl none 0 0 t s [] :: own) h :=
  hs.new (fun b _ => rfl) ⟨by simp, Nat.le_refl _, Nat.zero_le _, .inl ⟨rfl, rfl, rfl⟩⟩ (by simp [Chunk.fp]) (by simp [Chunk.fp])
/-- Some parts are told, the rest is carried along. -/
theorem Sat.under {ro : Ro} {c : Chunk} {own own' : Chs} {h : Heap} (hs : Sat ro (c :: own) h) (hs' : Sat ro own' h) (hf : ∀ d ∈ own', ∀ b ∈ d.fp, ∃ e ∈ own, b ∈ e.fp) : Sat ro (c :: own') h := by
  obtain ⟨h1, h2, h3⟩ := hs.cons
  refine ⟨hs.last, fun d hd => ?_, ?_, fun d hd b hb => ?_⟩
  · simp at hd
    rcases hd with rfl | hd
    · exact h1
    · exact hs'.parts d hd
  · rw [List.flatMap_cons, List.nodup_append]
    have := hs.nd
    rw [List.flatMap_cons, List.nodup_append] at this
    refine ⟨this.1, hs'.nd, fun b hb b' hb' e => ?_⟩
    subst e
    obtain ⟨d, hd, hbd⟩ := List.mem_flatMap.1 hb'
    obtain ⟨e, he, hbe⟩ := hf d hd b hbd
    exact h3 b hb e he hbe
  · simp at hd
    rcases hd with rfl | hd
    · exact hs.ap d (by simp) b hb
    · exact hs'.ap d hd b hb
theorem Sup.spec {own own' : Chs} (hp : Sup own own') : ∀ {ro : Ro} {h : Heap}, Sat ro own h → Sat ro own' h ∧ ∀ d ∈ own', ∀ b ∈ d.fp, ∃ e ∈ own, b ∈ e.fp := by
  induction hp with
  | nil l => intro ro h hs; exact ⟨⟨hs.last, by simp, by simp, by simp⟩, by simp⟩
  | cons ht t ih =>
    intro ro h hs
    have hs1 := hs.perm ht.perm
    obtain ⟨h1, h2⟩ := ih hs1.drop
    refine ⟨hs1.under h1 h2, fun d hd b hb => ?_⟩
    simp at hd
    rcases hd with rfl | hd
    · exact ⟨d, ht.perm.mem_iff.2 (by simp), hb⟩
    · obtain ⟨e, he, hbe⟩ := h2 d hd b hb
      exact ⟨e, ht.perm.mem_iff.2 (by simp [he]), hbe⟩
  | nilc t ih =>
    intro ro h hs
    obtain ⟨h1, h2⟩ := ih hs
    refine ⟨h1.nilc _ _, fun d hd b hb => ?_⟩
    simp at hd
    rcases hd with rfl | hd
    · simp [Chunk.fp] at hb
    · exact h2 d hd b hb
  | all l => intro ro h hs; exact ⟨hs, fun d hd b hb => ⟨d, hd, hb⟩⟩
  | drop c t ih =>
    intro ro h hs
    obtain ⟨h1, h2⟩ := ih hs.drop
    exact ⟨h1, fun d hd b hb => by obtain ⟨e, he, hbe⟩ := h2 d hd b hb; exact ⟨e, by simp [he], hbe⟩⟩
theorem Sat.sup {ro : Ro} {own own' : Chs} {h : Heap} (hs : Sat ro own h) (hp : Sup own own') : Sat ro own' h := (hp.spec hs).1
theorem Sub.weak {t : Nat} {v : Value} : ∀ {e : Env} {f : Env}, Sub e f → (∀ p ∈ e, p.1 ≠ t) → Sub e ((t, v) :: f)
  | [], _, _, _ => trivial
  | (k, u) :: r, f, h, hn => ⟨by
      have hk : k ≠ t := hn (k, u) (by simp)
      have : Nat.beq t k = false := by cases hh : Nat.beq t k; rfl; exact absurd (Nat.eq_of_beq_eq_true hh).symm hk
      simp only [E.look, this, cond_false]; exact h.1, Sub.weak h.2 (fun p hp => hn p (by simp [hp]))⟩
def Sub2 (e' e : Env) : Prop := ∀ t v, look e' t = some v → look e t = some v
theorem Fits.sub2 {n : Fr} {e e' : Env} {a : Act} (h : Fits n e a) (hs : Sub2 e' e) : Fits n e' a := ⟨h.defers, h.size, fun t v hv => h.get t v (hs t v hv)⟩
theorem Sub.to2 {e' e : Env} (h : Sub e' e) : Sub2 e' e := fun t v hv => h.look hv
/-- What is told may be told otherwise. -/
inductive Wk (k : Kt) : Env → Ro → Chs → Prop where
  | id {env : Env} {ro : Ro} {own : Chs} (h : k env ro own) : Wk k env ro own
  | own {env : Env} {ro : Ro} {own : Chs} (own' : Chs) (hp : Sup own own') (h : Wk k env ro own') : Wk k env ro own
  | env {env : Env} {ro : Ro} {own : Chs} (env' : Env) (hp : Sub env' env) (h : Wk k env' ro own) : Wk k env ro own
  | freeze {env : Env} {ro : Ro} {own own' : Chs} {c : Chunk} (ht : Take own c own') (h : ∀ ro', Le ro ro' → c.holds ro' → Wk k env ro' own') : Wk k env ro own
  | perm {env : Env} {ro : Ro} {own own' : Chs} (hp : own.Perm own') (h : Wk k env ro own') : Wk k env ro own
  | know {env : Env} {ro : Ro} {own : Chs} (p : Prop) (hp : ∀ h, Sat ro own h → p) (h : p → Wk k env ro own) : Wk k env ro own
theorem Wk.get {k : Kt} {env : Env} {ro : Ro} {own : Chs} (hk : Wk k env ro own) : ∀ h, Sat ro own h → ∃ env' ro' own', Sub2 env' env ∧ Le ro ro' ∧ Sat ro' own' h ∧ k env' ro' own' := by
  induction hk with
  | id h => intro g hg; exact ⟨_, _, _, fun _ _ h => h, Le.refl _, hg, h⟩
  | own own' hp h ih => intro g hg; exact ih g (hg.sup hp)
  | env env' hp h ih =>
    intro g hg
    obtain ⟨e, r, o, h1, h2, h3, h4⟩ := ih g hg
    exact ⟨e, r, o, fun t v hv => hp.look (h1 t v hv), h2, h3, h4⟩
  | freeze ht h ih =>
    intro g hg
    obtain ⟨ro', hl, hc, hs⟩ := (hg.perm ht.perm).freeze
    obtain ⟨e, r, o, h1, h2, h3, h4⟩ := ih ro' hl hc g hs
    exact ⟨e, r, o, h1, hl.trans h2, h3, h4⟩
  | perm hp h ih => intro g hg; exact ih g (hg.perm hp)
  | know p hp h ih => intro g hg; exact ih (hp g hg) g hg
/-- Two pieces behind each other: straight on, or with a cut between. -/
inductive SeqOk (A : Kt → Prop) (B : Kt) (ro : Ro) : Prop where
  | pass (h : A B)
  | cut {ι : Type} (E : ι → Env) (O : ι → Chs) (I : ι → Ro → Prop) (h1 : A (Wk fun env ro own => ∃ i, I i ro ∧ Sub (E i) env ∧ Sup own (O i))) (h2 : ∀ i ro', Le ro ro' → I i ro' → B (E i) ro' (O i))
inductive LoopOk (ws : List Nat) (A : Kt → Kt) (env : Env) (ro : Ro) (own : Chs) : Prop where
  | intro {ι : Type} (E : ι → Env) (O : ι → Chs) (I : ι → Ro → Prop) (μ : ι → Nat) (init : Wk (fun env ro own => ∃ i, I i ro ∧ Sub (E i) env ∧ Sup own (O i)) env ro own)
    (round : ∀ i ro', Le ro ro' → I i ro' → A (Wk fun env ro own => ∃ j, I j ro ∧ μ j < μ i ∧ Sub (E j) env ∧ Sup own (O j)) (E i) ro' (O i))

def memN : List Nat → Nat → Bool
  | [], _ => false
  | x :: r, y => bif Nat.beq x y then true else memN r y
/-- What stays of an environment where some slots are written. -/
inductive Keep : List Nat → Env → Env → Prop where
  | nil (ws : List Nat) : Keep ws [] []
  | skip {ws : List Nat} {k : Nat} {v : Value} {r r' : Env} (hm : memN ws k = true) (h : Keep ws r r') : Keep ws ((k, v) :: r) r'
  | keep {ws : List Nat} {k : Nat} {v : Value} {r r' : Env} (hm : memN ws k = false) (h : Keep (k :: ws) r r') : Keep ws ((k, v) :: r) ((k, v) :: r')
  | args {ws : List Nat} {n : Nat} {vs : List Value} {r' : Env} {r : Env} (he : argEnv n vs = r) (h : Keep ws r r') : Keep ws (argEnv n vs) r'
theorem memN_false : ∀ {l : List Nat} {x : Nat}, memN l x = false → x ∉ l
  | [], _, _ => by simp
  | y :: r, x, h => by
    unfold memN at h
    by_cases e : Nat.beq y x = true
    · rw [e] at h; cases h
    · rw [Bool.not_eq_true] at e
      rw [e] at h
      have hne : y ≠ x := fun e2 => by subst e2; simp at e
      simp [memN_false (by simpa using h), Ne.symm hne]
theorem memN_true : ∀ {l : List Nat} {x : Nat}, memN l x = true → x ∈ l
  | [], _, h => by cases h
  | y :: r, x, h => by
    unfold memN at h
    by_cases e : Nat.beq y x = true
    · have := Nat.eq_of_beq_eq_true e; subst this; simp
    · rw [Bool.not_eq_true] at e; rw [e] at h; simp [memN_true (by simpa using h)]
theorem Keep.spec {ws : List Nat} {env env0 : Env} (h : Keep ws env env0) : ∀ p ∈ env0, p.1 ∉ ws ∧ look env p.1 = some p.2 := by
  induction h with
  | nil ws => simp
  | @skip ws k v r r' hm h ih =>
    intro p hp
    obtain ⟨h1, h2⟩ := ih p hp
    refine ⟨h1, ?_⟩
    have hk : k ≠ p.1 := fun e => h1 (e ▸ memN_true hm)
    have : Nat.beq k p.1 = false := by cases hh : Nat.beq k p.1; rfl; exact absurd (Nat.eq_of_beq_eq_true hh) hk
    show (bif Nat.beq k p.1 then some v else look r p.1) = _
    rw [this]; exact h2
  | @keep ws k v r r' hm h ih =>
    intro p hp
    simp at hp
    rcases hp with rfl | hp
    · exact ⟨memN_false hm, by show (bif Nat.beq k k then some v else look r k) = _; simp⟩
    · obtain ⟨h1, h2⟩ := ih p hp
      have hk : k ≠ p.1 := fun e => h1 (by simp [e])
      have : Nat.beq k p.1 = false := by cases hh : Nat.beq k p.1; rfl; exact absurd (Nat.eq_of_beq_eq_true hh) hk
      refine ⟨fun hm => h1 (by simp [hm]), ?_⟩
      show (bif Nat.beq k p.1 then some v else look r p.1) = _
      rw [this]; exact h2
  | args he h ih => subst he; exact ih
theorem Sub.of {e env : Env} (h : ∀ p ∈ e, E.look env p.1 = some p.2) : Sub e env := by
  induction e with
  | nil => trivial
  | cons p r ih => exact ⟨h p (by simp), ih fun q hq => h q (by simp [hq])⟩
theorem Sub.mem {e env : Env} (h : Sub e env) : ∀ p ∈ e, E.look env p.1 = some p.2 := by
  induction e with
  | nil => intro p hp; cases hp
  | cons q r ih =>
    intro p hp
    simp at hp
    rcases hp with rfl | hp
    · exact h.1
    · exact ih h.2 p hp
theorem Sub.append {e1 e2 env : Env} (h1 : Sub e1 env) (h2 : Sub e2 env) : Sub (e1 ++ e2) env := Sub.of fun p hp => by
  rw [List.mem_append] at hp
  rcases hp with hp | hp
  · exact h1.mem p hp
  · exact h2.mem p hp
theorem LoopOk.auto {ws : List Nat} {A : Kt → Kt} {env : Env} {ro : Ro} {own : Chs} {ι : Type} {env0 : Env} (hk : Keep ws env env0) (f : ι → Env) (O : ι → Chs) (I : ι → Ro → Prop) (μ : ι → Nat) (i0 : ι) (hI : I i0 ro) (hs : Sub (f i0) env) (ho : Sup own (O i0))
    (round : ∀ i ro', Le ro ro' → I i ro' → A (Wk fun env ro own => ∃ j, I j ro ∧ μ j < μ i ∧ Sub (f j ++ env0) env ∧ Sup own (O j)) (f i ++ env0) ro' (O i)) : LoopOk ws A env ro own :=
  .intro (fun i => f i ++ env0) O I μ (.id ⟨i0, hI, hs.append (Sub.of fun p hp => (hk.spec p hp).2), ho⟩) round
def setK (d : Option Nat) (v : Value) (k : Kt) : Kt := fun env ro own => match d with
  | some d => k ((d, v) :: env) ro own
  | none => k env ro own
def capA (vs : List Value) : Array Value → Array Value
  | ⟨[]⟩ => vs.toArray
  | ⟨c⟩ => (vs ++ c).toArray
def vEff (P : Program) (op : Op) (ty : TypeId) (d : Option Nat) (k : Kt) (env : Env) (ro : Ro) (own : Chs) : Prop := match op with
  | .call ⟨.value x, ⟨args⟩, _⟩ => match ev env x, evs env args with
    | some (.func (.func f) ⟨[]⟩ cap), some vs => Stop (CallOk P f (capA vs cap) ro own (fun v ro' own' => setK d v k env ro' own'))
    | _, _ => False
  | op => Stop (OpOk P op ty env ro own (fun v ro' own' => setK d v k env ro' own'))
def vOp (P : Program) (T : TT) (op : Op) (ty : TypeId) (d : Option Nat) (k : Kt) (env : Env) (ro : Ro) (own : Chs) : Prop := match pure1 T op env with
  | .ok v => setK d v k env ro own
  | .req p v => Stop (p ∧ setK d v k env ro own)
  | .no => vEff P op ty d k env ro own
def isPick (t : Nat) (b : Bool) : Op → Bool
  | .pick (.tmp t') x y => Nat.beq t' t && (match b with
    | true => (match y with | .const (.bool false) => true | _ => false)
    | false => (match x with | .const (.bool true) => true | _ => false))
  | _ => false
def deadG (all : List Oper) (t : Nat) (b : Bool) (dead : List Nat) : Option (Nat × Bool) → Bool
  | some (j, b') => (match dstOf all j with
    | some t' => (Nat.beq t' t && (match b, b' with | true, true => true | false, false => true | _, _ => false)) || memN dead t'
    | none => false)
  | none => false
/-- From a guarded operation on to where the ways meet. -/
def segOf (all : List Oper) (t : Nat) (b : Bool) : List Nat → List Oper → Option (List Oper × Oper × List Oper)
  | _, [] => none
  | dead, o :: r => match o.dst with
    | none => none
    | some d => bif isPick t b o.op then some ([], o, r) else bif deadG all t b dead o.guard then
        (match segOf all t b (d :: dead) r with
        | some (s, p, r') => some (o :: s, p, r')
        | none => none)
      else none
def gHolds (all : List Oper) (env : Env) : Option (Nat × Bool) → Bool
  | none => true
  | some (j, b) => match dstOf all j with
    | some t => (match look env t with
      | some (.bool true) => b
      | some (.bool false) => !b
      | _ => false)
    | none => false
def fresh (env : Env) (l : List Oper) : Bool := l.all fun o => match o.dst with
  | some d => (match look env d with | some _ => false | none => true)
  | none => true
def kn : List (Nat × Bool) → Nat → Option Bool
  | [], _ => none
  | (k, b) :: r, t => bif Nat.beq k t then some b else kn r t
def sameB : Bool → Bool → Bool
  | true, true => true | false, false => true | _, _ => false
def vOps1 (P : Program) (T : TT) (all : List Oper) (ih : List (Nat × Bool) → List Oper → Kt → Kt) : List (Nat × Bool) → List Oper → Kt → Kt
  | _, [], k => k
  | K, ⟨d, op, ty, _, _, g⟩ :: r, k => fun env ro own => match g with
    | none => vOp P T op ty d (ih K r k) env ro own
    | some (j, b) => match dstOf all j with
      | none => False
      | some t => match look env t with
        | some (.bool c) => (match kn K t with
          | some _ => bif sameB c b then vOp P T op ty d (ih K r k) env ro own else setK d undef (ih K r k) env ro own
          | none => (match d with
            | none => Stop (GJ c b false (vOp P T op ty none (ih ((t, b) :: K) r k) ((t, .bool b) :: env) ro own) (ih ((t, !b) :: K) r k ((t, .bool !b) :: env) ro own) (fun _ => False) (fun _ => False))
            | some d => (match segOf all t b [d] r with
              | some (s, ⟨some dd, pop, pty, ppos, paf, pg⟩, r') =>
                Stop (GJ c b (fresh env (⟨some d, op, ty, "", #[], none⟩ :: ⟨some dd, op, ty, "", #[], none⟩ :: s) && gHolds all env pg)
                  (vOp P T op ty (some d) (ih ((t, b) :: K) r k) ((t, .bool b) :: env) ro own)
                  (ih ((t, !b) :: K) r k ((d, undef) :: (t, .bool !b) :: env) ro own)
                  (fun q => vOp P T op ty (some d) (ih ((t, b) :: K) (s ++ [⟨some dd, pop, pty, ppos, paf, pg⟩]) (fun env' ro' own' => look env' dd = some (.bool q) ∧ ro' = ro ∧ own' = own)) ((t, .bool b) :: env) ro own)
                  (fun q => ih K r' k ((dd, .bool q) :: env) ro own))
              | _ => Stop (GJ c b false (vOp P T op ty (some d) (ih ((t, b) :: K) r k) ((t, .bool b) :: env) ro own) (ih ((t, !b) :: K) r k ((d, undef) :: (t, .bool !b) :: env) ro own) (fun _ => False) (fun _ => False)))))
        | some _ => setK d undef (ih K r k) env ro own
        | none => False
def vOps0 : List (Nat × Bool) → List Oper → Kt → Kt
  | _, [], k => k
  | _, _ :: _, _ => fun _ _ _ => False
/-- Told by the recursor itself, so that the kernel meets the same terms. -/
def vOps (P : Program) (T : TT) (all : List Oper) (fl : List Oper) : List (Nat × Bool) → List Oper → Kt → Kt := List.rec (motive := fun _ => List (Nat × Bool) → List Oper → Kt → Kt) vOps0 (fun _ _ ih => vOps1 P T all ih) fl
theorem vOps_cons {P : Program} {T : TT} {all fl : List Oper} {x : Oper} {K : List (Nat × Bool)} {d : Option Nat} {op : Op} {ty : TypeId} {pos : String} {af : Array Edge} {g : Option (Nat × Bool)} {r : List Oper} {k : Kt} {env : Env} {ro : Ro} {own : Chs} :
    vOps P T all (x :: fl) K (⟨d, op, ty, pos, af, g⟩ :: r) k env ro own = (match g with
    | none => vOp P T op ty d (vOps P T all fl K r k) env ro own
    | some (j, b) => match dstOf all j with
      | none => False
      | some t => match look env t with
        | some (.bool c) => (match kn K t with
          | some _ => bif sameB c b then vOp P T op ty d (vOps P T all fl K r k) env ro own else setK d undef (vOps P T all fl K r k) env ro own
          | none => (match d with
            | none => Stop (GJ c b false (vOp P T op ty none (vOps P T all fl ((t, b) :: K) r k) ((t, .bool b) :: env) ro own) (vOps P T all fl ((t, !b) :: K) r k ((t, .bool !b) :: env) ro own) (fun _ => False) (fun _ => False))
            | some d => (match segOf all t b [d] r with
              | some (s, ⟨some dd, pop, pty, ppos, paf, pg⟩, r') =>
                Stop (GJ c b (fresh env (⟨some d, op, ty, "", #[], none⟩ :: ⟨some dd, op, ty, "", #[], none⟩ :: s) && gHolds all env pg)
                  (vOp P T op ty (some d) (vOps P T all fl ((t, b) :: K) r k) ((t, .bool b) :: env) ro own)
                  (vOps P T all fl ((t, !b) :: K) r k ((d, undef) :: (t, .bool !b) :: env) ro own)
                  (fun q => vOp P T op ty (some d) (vOps P T all fl ((t, b) :: K) (s ++ [⟨some dd, pop, pty, ppos, paf, pg⟩]) (fun env' ro' own' => look env' dd = some (.bool q) ∧ ro' = ro ∧ own' = own)) ((t, .bool b) :: env) ro own)
                  (fun q => vOps P T all fl K r' k ((dd, .bool q) :: env) ro own))
              | _ => Stop (GJ c b false (vOp P T op ty (some d) (vOps P T all fl ((t, b) :: K) r k) ((t, .bool b) :: env) ro own) (vOps P T all fl ((t, !b) :: K) r k ((d, undef) :: (t, .bool !b) :: env) ro own) (fun _ => False) (fun _ => False)))))
        | some _ => setK d undef (vOps P T all fl K r k) env ro own
        | none => False) := rfl
def exitsTo (id : Nat) : Code → Nat
  | .exit j => bif Nat.beq j id then 1 else 0
  | .seq a b => exitsTo id a + exitsTo id b
  | .cond _ a b => exitsTo id a + exitsTo id b
  | .block _ a => exitsTo id a
  | .loop a => exitsTo id a
  | .scope a => exitsTo id a
  | .rangeFunc _ _ a b => exitsTo id a + exitsTo id b
  | _ => 0
/-- In how many ways it ends (where ways have met again they are one). -/
def ways : Code → Nat
  | .ret | .exit _ | .goto _ | .loop _ => 0
  | .seq a b => bif Nat.beq (ways a) 0 then 0 else ways b
  | .cond _ a b => ways a + ways b
  | .block id a => ways a + exitsTo id a
  | _ => 1
def joins (c : Code) : Bool := Nat.ble 2 (ways c)
/-- The slots that are written. -/
def writes : Code → List Nat
  | .region _ ops _ => ops.toList.filterMap (·.dst)
  | .seq a b => writes a ++ writes b
  | .cond _ a b => writes a ++ writes b
  | .block _ a => writes a
  | .loop a => writes a
  | .scope a => writes a
  | .rangeFunc _ ps a b => ps.toList ++ (writes a ++ writes b)
  | _ => []
def okD (n : Nat) : Option Nat → Bool
  | some d => Nat.blt d n
  | none => true
def okS (n : Nat) : Code → Bool
  | .region _ ops _ => ops.toList.all fun o => okD n o.dst
  | .seq a b => okS n a && okS n b
  | .cond _ a b => okS n a && okS n b
  | .block _ a => okS n a
  | .loop a => okS n a
  | .scope a => okS n a
  | .rangeFunc _ ps a b => ps.toList.all (fun p => Nat.blt p n) && okS n a && okS n b
  | _ => true
/-- Does code range over a function? -/
def rf : Code → Bool
  | .seq a b => rf a || rf b
  | .cond _ a b => rf a || rf b
  | .block _ a => rf a
  | .loop a => rf a
  | .scope a => rf a
  | .rangeFunc .. => true
  | _ => false
def markOf (b : Nat) : Deferred := { target := .collected b, args := #[] }
/-- The marks that are new: each one's block was not told before, and is told now. -/
structure Mk (f : Bool) (D0 D : List Deferred) (ro ro' : Ro) : Prop where
  no : f = false → D = D0
  yes : ∃ ms : List Nat, D = ms.map markOf ++ D0 ∧ ms.Nodup ∧ ∀ b ∈ ms, ro b = none ∧ ro' b = some (.deferred (some []))
theorem Mk.refl (f : Bool) (D : List Deferred) (ro ro' : Ro) : Mk f D D ro ro' := ⟨fun _ => rfl, [], rfl, .nil, fun _ h => by cases h⟩
theorem Mk.trans {f g : Bool} {A B C : List Deferred} {r1 r2 r3 : Ro} (h : Mk f A B r1 r2) (k : Mk g B C r2 r3) (hl : Le r1 r2) (hl2 : Le r2 r3) : Mk (f || g) A C r1 r3 := by
  refine ⟨fun e => ?_, ?_⟩
  · simp only [Bool.or_eq_false_iff] at e
    rw [k.no e.2, h.no e.1]
  · obtain ⟨m1, rfl, n1, h1⟩ := h.yes
    obtain ⟨m2, rfl, n2, h2⟩ := k.yes
    refine ⟨m2 ++ m1, by simp, List.nodup_append.2 ⟨n2, n1, fun b hb b' hb' e => by
      subst e
      have := (h2 b hb).1
      rw [(h1 b hb').2] at this; cases this⟩, fun b hb => ?_⟩
    rcases List.mem_append.1 hb with hb | hb
    · obtain ⟨e1, e2⟩ := h2 b hb
      refine ⟨?_, e2⟩
      cases hr : r1 b with
      | none => rfl
      | some o => have := hl.le b o hr; rw [e1] at this; cases this
    · exact ⟨(h1 b hb).1, hl2.le _ _ (h1 b hb).2⟩
theorem Mk.weak {f g : Bool} {A B : List Deferred} {r1 r2 : Ro} (h : Mk f A B r1 r2) (hfg : g = false → f = false) : Mk g A B r1 r2 := ⟨fun e => h.no (hfg e), h.yes⟩
structure CodeOk (P : Program) (c : Code) (k : Exit → Kt) (env : Env) (ro : Ro) (own : Chs) : Prop where
  run : ∀ n σ Q, okS n.size c = true → (∀ e env' ro' own' D h, Le ro ro' → k e env' ro' own' → Sat ro' own' h → Mk (rf c) n.D D ro ro' → N ⟨n.size, D⟩ σ (Q e) env' h) → ∀ h, Sat ro own h → C P Q n σ c env h
def vReg (P : Program) (T : TT) (id : Nat) (ops : Array Oper) (draw : Bool) (k : Exit → Kt) : Kt := fun env ro own => match draw with
  | true => Stop (CodeOk P (.region id ops true) k env ro own)
  | false => vOps P T ops.toList ops.toList [] ops.toList (k .normal) env ro own
def vSeq (a : Code) (va vb : (Exit → Kt) → Kt) (k : Exit → Kt) : Kt := match joins a with
  | true => fun env ro own => Stop (SeqOk (fun J => va (fun e => match e with | .normal => J | e => k e) env ro own) (vb k) ro)
  | false => va (fun e => match e with | .normal => vb k | e => k e)
def vCond (c : Operand) (va vb : (Exit → Kt) → Kt) (k : Exit → Kt) : Kt := fun env ro own => match ev env c with
  | some (.bool v) => Stop (Br v (va k env ro own) (vb k env ro own))
  | _ => False
def vBlock (id : Nat) (va : (Exit → Kt) → Kt) (k : Exit → Kt) : Kt := va (fun e => match e with | .exit j => bif Nat.beq j id then k .normal else k (.exit j) | e => k e)
def vLoop (a : Code) (va : (Exit → Kt) → Kt) (k : Exit → Kt) : Kt := fun env ro own => Stop (LoopOk (writes a) (fun J => va (fun e => match e with | .normal => J | e => k e)) env ro own)
def vOther (P : Program) (c : Code) (k : Exit → Kt) : Kt := fun env ro own => Stop (CodeOk P c k env ro own)
/-- Told by the recursor itself, so that the kernel meets the same terms. -/
def V (P : Program) (T : TT) (c : Code) : (Exit → Kt) → Kt := Code.rec (motive := fun _ => (Exit → Kt) → Kt) (fun k => k .normal) (fun id ops draw => vReg P T id ops draw) (fun a _ va vb => vSeq a va vb) (fun c _ _ va vb => vCond c va vb) (fun id _ va => vBlock id va) (fun a va => vLoop a va)
  (fun f p x y _ _ => vOther P (.rangeFunc f p x y)) (fun id k => k (.exit id)) (fun x _ => vOther P (.scope x)) (fun _ k => k .normal) (fun l => vOther P (.goto l)) (fun k => k .ret) (fun w => vOther P (.refuse w)) c
def rvals (env : Env) : List ResultVar → Option (List Value)
  | [] => some []
  | .tmp t :: r => match look env t, rvals env r with
    | some v, some vs => some (v :: vs)
    | _, _ => none
  | _ => none
def tup : List Value → Value
  | [v] => v
  | vs => .tuple vs.toArray
/-- What the results read as: slots, or cells behind pointers in slots. -/
inductive RV (P : Program) (env : Env) (h : Heap) : List ResultVar → List Value → Prop where
  | nil : RV P env h [] []
  | tmp {t : Nat} {v : Value} {r : List ResultVar} {vs : List Value} (hv : look env t = some v) (hr : RV P env h r vs) : RV P env h (.tmp t :: r) (v :: vs)
  | cell {t ty b o : Nat} {v : Value} {r : List ResultVar} {vs : List Value} (hx : look env t = some (.pointer (some ⟨b, o, none⟩))) (hv : ∀ w : World, w.heap = h → (loadVar ty ⟨b, o, none⟩).run P w = .ok v w) (hr : RV P env h r vs) : RV P env h (.cell t ty :: r) (v :: vs)
structure RetOk (P : Program) (rs : List ResultVar) (Φ : Value → Ro → Chs → Prop) (env : Env) (ro : Ro) (own : Chs) : Prop where
  run : ∃ vs, (∀ h, Sat ro own h → RV P env h rs vs) ∧ Wk (fun _ ro own => Φ (tup vs) ro own) [] ro own
def retK (P : Program) (rs : List ResultVar) (Φ : Value → Ro → Chs → Prop) : Exit → Kt
  | .ret => fun env ro own => match rvals env rs with
    | some vs => Stop (Wk (fun _ ro own => Φ (tup vs) ro own) [] ro own)
    | none => Stop (RetOk P rs Φ env ro own)
  | .normal => fun env ro own => match rs with
    | [] => Stop (Wk (fun _ ro own => Φ (tup []) ro own) [] ro own)
    | _ => False
  | _ => fun _ _ _ => False
end Go.E
