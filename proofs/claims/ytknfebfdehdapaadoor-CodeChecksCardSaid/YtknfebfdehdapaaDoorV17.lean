/- Regions that draw their order, where operations that change something may come up in any order: each has its own place in memory; what it does is told by itself. No program in sight. -/
import Derived.Test.YtknfebfdehdapaaDoorV16
namespace Go.E
open Go
set_option linter.unusedVariables false
theorem Sub2.cons {e env : Env} {t : Nat} {v : Value} (h : look env t = some v) (hs : Sub2 e env) : Sub2 ((t, v) :: e) env := fun x u hx => by
  rw [look_cons] at hx
  split at hx
  · rename_i h'; subst h'; cases hx; exact h
  · exact hs x u hx
theorem Sub2.refl (e : Env) : Sub2 e e := fun _ _ h => h
theorem Sub2.trans {a b c : Env} (h1 : Sub2 a b) (h2 : Sub2 b c) : Sub2 a c := fun x v h => h2 x v (h1 x v h)
/-- What an operation does: what is known behind it, the place that it has, what lies there. -/
structure Th where
  post : Env → Prop
  slot : Option Nat
  cont : Env → Chs → Prop
  mono : ∀ e e', Sub2 e e' → post e → post e'
  monoC : ∀ e e' c, Sub2 e e' → cont e c → cont e' c
/-- It yields a value. -/
def Th.val (d : Nat) (v : Value) : Th := ⟨fun e => look e d = some v, none, fun _ c => c = [], fun e e' hs h => hs _ _ h, fun _ _ _ _ h => h⟩
/-- It makes a block. -/
def Th.new (d s : Nat) (f : Nat → Chs) : Th := ⟨fun e => ∃ b, look e d = some (ptr' b), some s, fun e c => ∃ b, look e d = some (ptr' b) ∧ c = f b, fun e e' hs ⟨b, h⟩ => ⟨b, hs _ _ h⟩, fun e e' c hs ⟨b, h, hc⟩ => ⟨b, hs _ _ h, hc⟩⟩
/-- It changes the block that another one made. -/
def Th.set (d s : Nat) (f : Nat → Chs) : Th := ⟨fun _ => True, some s, fun e c => ∃ b, look e d = some (ptr' b) ∧ c = f b, fun _ _ _ _ => trivial, fun e e' c hs ⟨b, h, hc⟩ => ⟨b, hs _ _ h, hc⟩⟩
def depsOf (af : Array Edge) : List Nat := af.toList.filterMap fun e => bif Region.binds .any e then some e.on else none
def allPost (ths : List Th) : List Nat → Env → Prop
  | [], _ => True
  | j :: r, env => (match ths[j]? with
    | some th => th.post env
    | none => True) ∧ allPost ths r env
theorem allPost_of {ths : List Th} {env : Env} : ∀ {l : List Nat}, (∀ j ∈ l, ∀ th, ths[j]? = some th → th.post env) → allPost ths l env
  | [], _ => trivial
  | j :: r, h => ⟨by
      split
      · rename_i th he; exact h j (by simp) th he
      · trivial, allPost_of fun k hk => h k (by simp [hk])⟩
/-- The last one ahead of i that has the place s. -/
def prevF (ths : List Th) (s : Nat) : Nat → Option Nat
  | 0 => none
  | i + 1 => match ths[i]? with
    | some th => (match th.slot with
      | some t => bif Nat.beq t s then some i else prevF ths s i
      | none => prevF ths s i)
    | none => prevF ths s i
def contAt (ths : List Th) (init : Nat → Chs) (s : Nat) (q : Option Nat) (env : Env) (c : Chs) : Prop := match q with
  | none => c = init s
  | some p => match ths[p]? with
    | some th => th.cont env c
    | none => False
def Has (ths : List Th) (s j : Nat) : Prop := ∃ th, ths[j]? = some th ∧ th.slot = some s
theorem prevF_spec {ths : List Th} {s : Nat} : ∀ (i : Nat), (prevF ths s i = none ∧ ∀ j, j < i → ¬ Has ths s j) ∨ ∃ p, prevF ths s i = some p ∧ p < i ∧ Has ths s p ∧ ∀ j, j < i → Has ths s j → j ≤ p
  | 0 => .inl ⟨rfl, fun j hj => absurd hj (by omega)⟩
  | i + 1 => by
    by_cases hi : Has ths s i
    · obtain ⟨th, h1, h2⟩ := hi
      refine .inr ⟨i, ?_, by omega, ⟨th, h1, h2⟩, fun j hj _ => by omega⟩
      rw [prevF, h1]
      simp only [h2, Nat.beq_refl, cond_true]
    · have e : prevF ths s (i + 1) = prevF ths s i := by
        rw [prevF]
        split
        · rename_i th h1
          split
          · rename_i t h2
            cases hb : Nat.beq t s with
            | true => exact absurd ⟨th, h1, by rw [h2, Nat.eq_of_beq_eq_true hb]⟩ hi
            | false => rfl
          · rfl
        · rfl
      rcases prevF_spec (ths := ths) (s := s) i with ⟨h1, h2⟩ | ⟨p, h1, h2, h3, h4⟩
      · refine .inl ⟨by rw [e, h1], fun j hj => ?_⟩
        rcases Nat.lt_succ_iff_lt_or_eq.1 hj with hj | rfl
        · exact h2 j hj
        · exact hi
      · refine .inr ⟨p, by rw [e, h1], by omega, h3, fun j hj hh => ?_⟩
        rcases Nat.lt_succ_iff_lt_or_eq.1 hj with hj | rfl
        · exact h4 j hj hh
        · exact absurd hh hi
def ordB (l : List Oper) : Bool := l.zipIdx.all fun p => p.1.after.all (fun e => !Region.binds .any e || Nat.blt e.on p.2) && p.1.guard.isNone
def slotB (l : List Oper) (ths : List Th) : Bool := (List.range l.length).all fun j => (List.range j).all fun i => match ths[i]?, ths[j]? with
  | some a, some b => (match a.slot, b.slot with
    | some s, some t => !Nat.beq s t || waitsT l.toArray 9 j i
    | _, _ => true)
  | _, _ => true
def dstB (l : List Oper) : Bool := (List.range l.length).all fun j => (List.range j).all fun i => match (l[i]?).bind (·.dst), (l[j]?).bind (·.dst) with
  | some a, some b => !Nat.beq a b
  | _, _ => true
/-- What each operation owes. -/
def opsOk (P : Program) (T : TT) (ths : List Th) (init : Nat → Chs) (env0 : Env) (ro : Ro) (base : Chs) : List Oper → Nat → Prop
  | [], _ => True
  | ⟨d, op, ty, _, af, _⟩ :: l, i => (match ths[i]? with
    | some th => ∀ env c F, Sub2 env0 env → allPost ths (depsOf af) env → (match th.slot with
      | some s => contAt ths init s (prevF ths s i) env c
      | none => c = []) → ∃ envS, Sub2 envS env ∧ vOp P T op ty d (fun env' ro' own' => ro' = ro ∧ th.post env' ∧ ∃ c', th.cont env' c' ∧ Sup own' (c' ++ (base ++ F))) envS ro (c ++ (base ++ F))
    | none => False) ∧ opsOk P T ths init env0 ro base l (i + 1)
def catN (cs : Nat → Chs) : Nat → Nat → Chs
  | _, 0 => []
  | k, n + 1 => cs k ++ catN cs (k + 1) n
def finC (ths : List Th) (init : Nat → Chs) (N : Nat) (env : Env) (cs : Nat → Chs) : Nat → Nat → Prop
  | _, 0 => True
  | k, n + 1 => contAt ths init k (prevF ths k N) env (cs k) ∧ finC ths init N env cs (k + 1) n
theorem finC_of {ths : List Th} {init : Nat → Chs} {N : Nat} {env : Env} {cs : Nat → Chs} : ∀ (n k : Nat), (∀ s, k ≤ s → s < k + n → contAt ths init s (prevF ths s N) env (cs s)) → finC ths init N env cs k n
  | 0, k, _ => trivial
  | n + 1, k, h => ⟨h k (Nat.le_refl _) (by omega), finC_of n (k + 1) fun s h1 h2 => h s (by omega) (by omega)⟩
/-- One place's part among all. -/
theorem catN_split (cs : Nat → Chs) (s : Nat) : ∀ (n k : Nat), k ≤ s → s < k + n → ∃ F, ∀ c, (catN (fun j => if j = s then c else cs j) k n).Perm (c ++ F)
  | 0, k, h1, h2 => absurd h2 (by omega)
  | n + 1, k, h1, h2 => by
    by_cases e : k = s
    · subst e
      have hr : ∀ (m k' : Nat) (c : Chs), k < k' → catN (fun j => if j = k then c else cs j) k' m = catN cs k' m := by
        intro m
        induction m with
        | zero => intro k' c hk; rfl
        | succ m ih => intro k' c hk; rw [catN, catN, ih (k' + 1) c (by omega), if_neg (by omega)]
      refine ⟨catN cs (k + 1) n, fun c => ?_⟩
      rw [catN, hr n (k + 1) c (by omega), if_pos rfl]
    · obtain ⟨F, hF⟩ := catN_split cs s n (k + 1) (by omega) (by omega)
      refine ⟨cs k ++ F, fun c => ?_⟩
      rw [catN, if_neg e]
      exact ((hF c).append_left (cs k)).trans (by rw [← List.append_assoc, ← List.append_assoc]; exact List.perm_append_comm.append_right F)
section
variable {P : Program} {T : TT} {Q : Exit → Act → World → Prop} {n : Nat} {σ : World}
theorem count_done {ls : Array Bool} (h : ls.toList.count false = 0) {i : Nat} (hi : i < ls.size) : ls.getD i false = true := by
  rw [List.count_eq_zero] at h
  have : ls[i] ∈ ls.toList := by simp
  cases e : ls[i] with
  | true => simp [Array.getD, hi, e]
  | false => rw [e] at this; exact absurd this h
theorem all_done {l : List Oper} (hord : ∀ (i : Nat) (o : Oper), l[i]? = some o → ∀ e ∈ o.after, Region.binds .any e = true → e.on < i) {ls : Array Bool} (hz : ls.size = l.length) (hr : Region.ready .any l.toArray ls = []) : ∀ i, i < l.length → ls.getD i false = true := by
  intro i
  induction i using Nat.strongRecOn with
  | ind i ih =>
    intro hi
    apply Classical.byContradiction
    intro hn
    have hg : l[i]? = some l[i] := List.getElem?_eq_getElem hi
    have : i ∈ Region.ready .any l.toArray ls := mem_ready.2 ⟨by
      have : i < ls.size := by omega
      simp [Array.getD, this] at hn ⊢
      exact hn, l[i], by simp [hg], fun e he hb => ih e.on (hord i _ hg e he hb) (by have := hord i _ hg e he hb; omega)⟩
    rw [hr] at this
    cases this
theorem wpAny_inv {l : List Oper} (I : Array Bool → Act → World → Prop) (hord : ∀ (i : Nat) (o : Oper), l[i]? = some o → ∀ e ∈ o.after, Region.binds .any e = true → e.on < i)
    (hstep : ∀ ls a w i, ls.size = l.length → Closed l.toArray ls → i ∈ Region.ready .any l.toArray ls → I ls a w → wpOp P l.toArray Q i (I (ls.setIfInBounds i true)) a w)
    (hend : ∀ ls a w, ls.size = l.length → (∀ i, i < l.length → ls.getD i false = true) → I ls a w → Q .normal a w) :
    ∀ (k : Nat) (ls : Array Bool) (a : Act) (w : World), ls.size = l.length → Closed l.toArray ls → ls.toList.count false ≤ k → I ls a w → wpAny P .any l.toArray Q k ls a w
  | 0, ls, a, w, hz, hc, hk, hI => by
    have hd : ∀ i, i < l.length → ls.getD i false = true := fun i hi => count_done (by omega) (by omega)
    refine ⟨?_, hend ls a w hz hd hI⟩
    rw [List.eq_nil_iff_forall_not_mem]
    intro i hi
    have h1 := (mem_ready.1 hi).1
    obtain ⟨o, ho, _⟩ := (mem_ready.1 hi).2
    have hil : i < l.length := by have := (Array.getElem?_eq_some_iff.1 ho).1; simpa using this
    have h2 := hd i hil
    have : i < ls.size := by omega
    simp [Array.getD, this] at h1 h2
    rw [h1] at h2; cases h2
  | k + 1, ls, a, w, hz, hc, hk, hI => by
    refine ⟨fun hr => hend ls a w hz (all_done hord hz hr) hI, fun i hi => ?_⟩
    refine wpOp_mono (fun a' w' h' => ?_) (hstep ls a w i hz hc hi hI)
    refine wpAny_inv I hord hstep hend k _ a' w' (by simpa using hz) (hc.set hi) ?_ h'
    have h1 := (mem_ready.1 hi).1
    obtain ⟨o, ho, _⟩ := (mem_ready.1 hi).2
    have hil : i < l.length := by have := (Array.getElem?_eq_some_iff.1 ho).1; simpa using this
    have his : i < ls.size := by omega
    rw [Array.toList_setIfInBounds, List.count_set (by simpa using his)]
    have h3 : ls[i] = false := by simpa [Array.getD, his] using h1
    have h4 : 0 < ls.toList.count false := List.count_pos_iff.2 (by rw [← h3]; simp)
    have h5 : ls.toList[i] = false := by simpa using h3
    have e1 : (ls.toList[i] == false) = true := by rw [h5]; rfl
    rw [if_pos e1, if_neg (by decide)]
    omega
end
end Go.E
