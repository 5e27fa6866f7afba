/- Plans of regions that draw, reckoned; operations that only look. No program in sight. -/
import Derived.Test.YtknfebfdehdapaaDoorV8
namespace Go.E
open Go
set_option linter.unusedVariables false
set_option linter.unusedSimpArgs false
def isLook : Op → Bool
  | .move _ | .assign _ | .pick _ _ _ | .nilCheck _ | .extract _ _ | .unOp _ _ _ | .binOp _ _ _ _ _ | .convert _ _ _ | .field _ _ _ | .fieldAddr _ _ _ | .index _ _ _ | .slice _ _ _ _ _ | .indexAddr _ _ _ | .load _ _ | .lookup _ _ _ _ | .build _ _ | .makeFunc _ _ _ => true
  | .call ⟨.builtin b, _, _⟩ => (match b with | .len | .cap | .min | .max => true | _ => false)
  | _ => false
def preMask (o : Oper) : Nat := o.after.toList.foldl (fun m e => bif Region.binds .any e then Nat.lor m (Nat.shiftLeft 1 e.on) else m) 0
def bit (m i : Nat) : Bool := !(Nat.beq (Nat.land m (Nat.shiftLeft 1 i)) 0)
def sub (a b : Nat) : Bool := Nat.beq (Nat.land a b) a
/-- The first that may come up and is of that kind. -/
def nextOf (lk : Bool) (mask : Nat) : List Oper → Nat → Option (Nat × Nat)
  | [], _ => none
  | o :: r, i => bif !bit mask i && sub (preMask o) mask && sameB lk (isLook o.op) then some (i, preMask o) else nextOf lk mask r (i + 1)
def nthO : List Oper → Nat → Option Oper
  | [], _ => none
  | o :: _, 0 => some o
  | _ :: r, i + 1 => nthO r i
def isData (e : Edge) : Bool := match e.ground with
  | .data | .chain | .guard => true | _ => false
/-- What it waits for, through what yields its operands, too. -/
def cloD (l : List Oper) : Nat → Nat → Nat
  | 0, _ => 0
  | k + 1, i => match nthO l i with
    | some o => o.after.toList.foldl (fun m e => bif Region.binds .any e then Nat.lor (Nat.lor m (Nat.shiftLeft 1 e.on)) (bif isData e then cloD l k e.on else 0) else m) 0
    | none => 0
/-- Those that may come up and are not done. -/
def readyL (mask : Nat) : List Oper → Nat → List Nat
  | [], _ => []
  | o :: r, i => bif !bit mask i && sub (preMask o) mask then i :: readyL mask r (i + 1) else readyL mask r (i + 1)
def foSibs (f : Nat → Fo) : List Nat → Fo
  | [] => .nil
  | i :: r => .cons i (f i) (foSibs f r)
def foOf (l : List Oper) : Nat → Nat → Fo
  | 0, _ => .leaf
  | k + 1, mask => match readyL mask l 0 with
    | [] => .leaf
    | i :: r => foSibs (fun i => foOf l k (Nat.lor mask (Nat.shiftLeft 1 i))) (i :: r)
def looks : List Oper → List Tk
  | [] => []
  | _ :: r => .look 0 :: looks r
def planGo (l : List Oper) : List Oper → Nat → Nat → List Tk
  | [], _, _ => []
  | _ :: f, mask, ph => match nextOf true mask l 0 with
    | some (i, _) => .look i :: planGo l f (Nat.lor mask (Nat.shiftLeft 1 i)) (Nat.lor ph (Nat.shiftLeft 1 i))
    | none => match nextOf false mask l 0 with
      | some (i, p) => match readyL mask l 0 with
        | _ :: _ :: _ => .rest (foOf l 6 mask) :: looks f
        | _ => bif sub ph p || sub ph (cloD l 9 i) then .last i :: planGo l f (Nat.lor mask (Nat.shiftLeft 1 i)) 0 else .keep i :: planGo l f (Nat.lor mask (Nat.shiftLeft 1 i)) ph
      | none => []
def planOf (l : List Oper) : List Tk := planGo l l 0 0
/-- The same plan, its steps laid open. -/
inductive NfF : Fo → Fo → Prop where
  | leaf : NfF .leaf .leaf
  | nil : NfF .nil .nil
  | cons (i : Nat) {a b a' b' : Fo} (h1 : NfF a a') (h2 : NfF b b') : NfF (.cons i a b) (.cons i a' b')
inductive NfT : List Tk → List Tk → Prop where
  | nil : NfT [] []
  | rest {a b : Fo} {l r : List Tk} (hf : NfF a b) (h : NfT l r) : NfT (.rest a :: l) (.rest b :: r)
  | cons (x : Tk) {l r : List Tk} (h : NfT l r) : NfT (x :: l) (x :: r)
theorem Bs.all {own : Chs} {F : Chs → Prop} (h : F own) : Bs own F := ⟨own, Sup.all _, h⟩
/-- Structs put together. -/
def ovl : List Value → Nat → List Value → List Value
  | [], _, _ => []
  | c :: cs, 0, v :: vs => v :: ovl cs 0 vs
  | c :: cs, 0, [] => c :: cs
  | c :: cs, n + 1, vs => c :: ovl cs n vs
theorem ovl_eq : ∀ (cs : List Value) (o : Nat) (vs : List Value), o + vs.length ≤ cs.length → ovl cs o vs = splice cs o vs
  | [], o, vs, h => by
    have h0 : vs.length = 0 := by have : ([] : List Value).length = 0 := rfl; omega
    have h1 : vs = [] := List.eq_nil_of_length_eq_zero h0
    subst h1; simp [ovl, splice]
  | c :: cs, 0, v :: vs, h => by
    have := ovl_eq cs 0 vs (by simp at h; omega)
    simp only [ovl, this]; simp [splice]
  | c :: cs, 0, [], h => by simp [ovl, splice]
  | c :: cs, n + 1, vs, h => by
    have := ovl_eq cs n vs (by simp at h; omega)
    have e : n + 1 + vs.length = (n + vs.length) + 1 := by omega
    simp only [ovl, this, splice, List.take_succ_cons, e, List.drop_succ_cons, List.cons_append]
theorem fold_splice (off : Nat) : ∀ (cs : List Value) (j : Nat) (A B : List Value), cs.length ≤ B.length → A.length = off + j →
    (cs.zipIdx j).foldl (fun (cs : Array Value) (x : Value × Nat) => cs.setIfInBounds (off + x.2) x.1) (A ++ B).toArray = (A ++ cs ++ B.drop cs.length).toArray
  | [], j, A, B, _, _ => by simp
  | c :: cs, j, A, B, hB, hA => by
    cases B with
    | nil => simp at hB
    | cons b B =>
      simp only [List.zipIdx_cons, List.foldl_cons]
      have e : (A ++ b :: B).toArray.setIfInBounds (off + j) c = ((A ++ [c]) ++ B).toArray := by
        apply Array.ext'
        simp only [Array.toList_setIfInBounds]
        rw [← hA, List.set_append_right _ _ (Nat.le_refl _)]
        simp
      rw [e, fold_splice off cs (j + 1) (A ++ [c]) B (by simpa using hB) (by simp [hA]; omega)]
      simp
theorem fold_splice0 (off : Nat) (vs : Array Value) (cs : List Value) (h : off + vs.size ≤ cs.length) : vs.zipIdx.foldl (fun (cs : Array Value) (x : Value × Nat) => cs.setIfInBounds (off + x.2) x.1) cs.toArray = (splice cs off vs.toList).toArray := by
  have := fold_splice off vs.toList 0 (cs.take off) (cs.drop off) (by simp; omega) (by simp; omega)
  rw [List.take_append_drop] at this
  rw [← Array.foldl_toList, Array.toList_zipIdx, this]
  simp [splice]
def fillT (fs : List (TypeId × Nat × Nat)) : List Value → List (Nat × Value) → Option (List Value)
  | cells, [] => some cells
  | cells, (i, v) :: r => match nthF fs i with
    | some (_, o, z) => bif Nat.beq v.cells.size z && Nat.ble (o + v.cells.size) cells.length then fillT fs (ovl cells o v.cells.toList) r else none
    | none => none
theorem fillT_spec {place : Nat → Option (Nat × Nat)} {fs : List (TypeId × Nat × Nat)} (hp : ∀ i t o z, nthF fs i = some (t, o, z) → place i = some (o, z)) : ∀ {parts : List (Nat × Value)} {cells cs : List Value}, fillT fs cells parts = some cs → Instr.fill place cells.toArray parts = some cs.toArray
  | [], cells, cs, h => by simp [fillT] at h; subst h; rfl
  | (i, v) :: r, cells, cs, h => by
    unfold fillT at h
    split at h
    · rename_i t o z hn
      cases hb : Nat.beq v.cells.size z && Nat.ble (o + v.cells.size) cells.length with
      | false => simp [hb] at h
      | true =>
        simp only [hb, cond_true] at h
        simp only [Bool.and_eq_true] at hb
        have h1 := Nat.eq_of_beq_eq_true hb.1
        have h2 : o + v.cells.size ≤ cells.length := Nat.le_of_ble_eq_true hb.2
        have ih := fillT_spec hp h
        have e : v.cells.zipIdx.foldl (fun (cs : Array Value) (x : Value × Nat) => cs.setIfInBounds (o + x.2) x.1) cells.toArray = (splice cells o v.cells.toList).toArray := fold_splice0 o v.cells cells h2
        unfold Instr.fill
        rw [hp _ _ _ _ hn]
        simp only
        rw [if_neg (by simp [h1]; omega)]
        rw [ovl_eq cells o v.cells.toList (by simpa using h2)] at ih
        rw [← ih]
        congr 1
    · cases h
def builtT (T : TT) (t : TypeId) (parts : List (Nat × Value)) : Option (List Value) := match T.get t with
  | some ⟨.struct fs, _, z⟩ => fillT fs z parts
  | _ => none
/-- The same list, its cells laid open. -/
inductive Nf : List Value → List Value → Prop where
  | nil : Nf [] []
  | cons (v : Value) {l r : List Value} (h : Nf l r) : Nf (v :: l) (v :: r)
theorem Nf.eq {l r : List Value} (h : Nf l r) : l = r := by
  induction h with
  | nil => rfl
  | cons v h ih => rw [ih]
theorem nthF_get : ∀ {l : List (TypeId × Nat × Nat)} {i : Nat} {x : TypeId × Nat × Nat}, nthF l i = some x → l[i]? = some x
  | f :: r, 0, x, h => by simpa [nthF] using h
  | f :: r, n + 1, x, h => by simpa using nthF_get (l := r) (by simpa [nthF] using h)
  | [], _, _, h => by simp [nthF] at h
theorem builtT_spec {P : Program} {T : TT} {t : TypeId} {parts : List (Nat × Value)} {cs : List Value} (hT : TOk P T) (h : builtT T t parts = some cs) : P.built t parts = some cs.toArray := by
  unfold builtT at h
  split at h
  · rename_i fs n z ht
    obtain ⟨l, h2, rfl, hne⟩ := hT.struct ht
    obtain ⟨d, j, z0, hi⟩ := tiOf.all (hT.get ht)
    have hz : z0.cells = z.toArray := by have := hi.cells; simp at this; rw [this]
    have hall : ∀ (l : List Field), (∀ f ∈ l, ∃ i, P.info? f.type = some i) → l.mapM (fun f => (P.info? f.type).map fun i => (f.offset, i.size)) = some (l.map fun f => (f.offset, ((P.info? f.type).map (·.size)).getD 0)) := by
      intro l
      induction l with
      | nil => intro _; rfl
      | cons f l ih =>
        intro hl
        obtain ⟨i, hi⟩ := hl f (by simp)
        simp [List.mapM_cons, hi, ih (fun g hg => hl g (by simp [hg]))]
    unfold Program.built
    simp only [hi.info, h2, hi.zero, hall _ hne, hz]
    refine fillT_spec (fun i t o s hn => ?_) h
    have := nthF_get hn
    simp only [List.getElem?_map] at this
    simp only [List.getElem?_toArray, List.getElem?_map]
    cases hf : l[i]? with
    | none => rw [hf] at this; simp at this
    | some f => rw [hf] at this; simp at this; obtain ⟨_, rfl, rfl⟩ := this; simp
  · cases h
section
variable {P : Program} {T : TT} [hT : TTab P T] {ty : TypeId} {env : Env} {ro : Ro} {own : Chs} {K : Value → Prop}
theorem CodeOk.drawnAuto {id : Nat} {l : List Oper} {k : Exit → Kt} {plan : List Tk} (hnf : NfT (planOf l) plan) (hm : P.follows .mixedOrders = true) (hns : Region.noSelect l.toArray = true) (hlen : Nat.beq plan.length l.length = true) (hp : planOk l.toArray plan (Array.replicate l.length false) = true)
    (hv : nextB plan (vH P T l plan []) (k .normal) env ro own) : CodeOk P (.region id l.toArray true) k env ro own := CodeOk.drawn _ hm hns hlen hp hv
theorem QOk.pu {op : Op} {v : Value} (hp : ∀ h, Sat ro own h → ∀ d pos af g, Pu P ⟨d, op, ty, pos, af, g⟩ env h v) (hk : K v) : QOk P op ty env ro own K := ⟨v, hp, hk⟩
theorem QOk.load {t : TypeId} {x : Operand} {b o : Nat} {v : Value} (hx : ev env x = some (.pointer (some ⟨b, o, none⟩))) (ht : oneT T t = true) (hl : Ld ro own b o v) (hk : K v) :
    QOk P (.load t x) ty env ro own K := by
  have h00 := oneT_spec ht
  clear ht
  obtain ⟨ti, ht, _, hr⟩ := h00
  obtain ⟨du, h1, h2⟩ := hT.ok.row ht
  exact QOk.pu (fun h hs d pos af g => Pu.load hx h1 (h2.trans hr) (hl h hs)) hk
theorem QOk.loadRow {t : TypeId} {x : Operand} {b o : Nat} {cs : List Value} {z : Nat} (hx : ev env x = some (.pointer (some ⟨b, o, none⟩))) (ht : rowT T t = some z) (hl : LdN ro own b o cs) (hn : cs.length = z) (hk : K (.agg cs.toArray)) :
    QOk P (.load t x) ty env ro own K := by
  have h00 := rowT_spec ht
  clear ht
  obtain ⟨ti, ht, rfl, hr⟩ := h00
  obtain ⟨du, h1, h2⟩ := hT.ok.row ht
  exact QOk.pu (fun h hs d pos af g => Pu.loadRow hx h1 (h2.trans hr) ((hT.ok.sz ht).trans (by rw [hn])) (hl h hs)) hk
theorem QOk.idx {t e : TypeId} {x ix : Operand} {a : Option Addr} {n c : Nat} {k : IntKind} {i : Int} {s : Nat} (hx : ev env x = some (.slice a n c)) (hi : ev env ix = some (.int k i)) (ht : elemOf T t = some (e, s))
    (hb : 0 ≤ i ∧ i < n) (ha : AOk ro own a n) (hk : K (.pointer (some ⟨ab a, ao a + i.toNat * s, none⟩))) : QOk P (.indexAddr t x ix) ty env ro own K := by
  have h00 := elemOf_spec ht
  clear ht
  obtain ⟨z1, z2, te, ht, he, rfl, _, _⟩ := h00
  exact QOk.pu (fun h hs d pos af g => by
    obtain ⟨b, o, rfl⟩ := ha h hs (by omega)
    exact Pu.idx hx hi (hT.ok.slice ht) (hT.ok.sz he) hb) hk
theorem QOk.idx1 {t e : TypeId} {x ix : Operand} {a : Option Addr} {n c : Nat} {k : IntKind} {i : Int} (hx : ev env x = some (.slice a n c)) (hi : ev env ix = some (.int k i)) (ht : elemOf T t = some (e, 1))
    (hb : 0 ≤ i ∧ i < n) (ha : AOk ro own a n) (hk : K (.pointer (some ⟨ab a, ao a + i.toNat, none⟩))) : QOk P (.indexAddr t x ix) ty env ro own K :=
  QOk.idx hx hi ht hb ha (by simpa using hk)
theorem QOk.idxA {t : TypeId} {x ix : Operand} {b o n : Nat} {k : IntKind} {i : Int} {s : Nat} (hx : ev env x = some (.pointer (some ⟨b, o, none⟩))) (hi : ev env ix = some (.int k i)) (hm : elemA T t = some (n, s))
    (hb : 0 ≤ i ∧ i < n) (hk : K (.pointer (some ⟨b, o + i.toNat * s, none⟩))) : QOk P (.indexAddr t x ix) ty env ro own K := by
  have h00 := elemA_spec hm
  clear hm
  obtain ⟨e, z3, z4, te, hm, he, rfl⟩ := h00
  exact QOk.pu (fun h hs d pos af g => .mk fun ρ w hρ _ => by
    simp [execOp, hρ _ _ hx, hρ _ _ hi, Instr.indexAt, asIntOf, run_underlying (hT.ok.arr hm), sizeOf_of (hT.ok.sz he), hb.1, hb.2, Addr.add_mid, Instr.sureAddr]) hk
theorem QOk.toStr {s t e : TypeId} {x : Operand} {a : Option Addr} {c n : Nat} {l : List UInt8} {z1 z3 z5 : Nat} {z2 z4 z6 : List Value} (hx : ev env x = some (.slice a n c)) (hs : T.get s = some ⟨.slice e, z1, z2⟩) (he : T.get e = some ⟨.int .u8, z3, z4⟩) (ht : T.get t = some ⟨.str, z5, z6⟩) (hr : Rds ro own a n c 1 (l.map u8))
    (hk : K (str l)) : QOk P (.convert s t x) ty env ro own K := by
  have hn : n = l.length := by have := hr.len; simp at this; exact this.symm
  subst hn
  exact QOk.pu (fun h hsat d pos af g => Pu.toStr hx (hT.ok.slice hs) (hT.ok.int he) (hT.ok.str ht) (hr.run h hsat)) hk
theorem QOk.build {t : TypeId} {ps : List (Nat × Operand)} {vs : List Value} {cs0 cs : List Value} (hv : evs env (ps.map (·.2)) = some vs) (hb : builtT T t ((ps.map (·.1)).zip vs) = some cs0) (hn : Nf cs0 cs) (hk : K (.agg cs.toArray)) : QOk P (.build t ps.toArray) ty env ro own K :=
  QOk.pu (fun h hs d pos af g => Pu.build cs.toArray hv (by rw [← hn.eq]; exact builtT_spec hT.ok hb)) hk
end
section
variable {P : Program} {T : TT} [hT : TTab P T] {ty : TypeId} {env : Env} {ro : Ro} {own : Chs} {K : Value → Ro → Chs → Prop}
theorem OpOk.build {t : TypeId} {ps : List (Nat × Operand)} {vs : List Value} {cs0 cs : List Value} (hv : evs env (ps.map (·.2)) = some vs) (hb : builtT T t ((ps.map (·.1)).zip vs) = some cs0) (hn : Nf cs0 cs) (hk : K (.agg cs.toArray) ro own) : OpOk P (.build t ps.toArray) ty env ro own K :=
  OpOk.pu (fun h hs d pos af g => Pu.build cs.toArray hv (by rw [← hn.eq]; exact builtT_spec hT.ok hb)) hk
theorem InK.wrap {k : IntKind} (hs : k.signed = false) (a : Int) : InK k (k.wrap a) := by
  cases k <;> simp [IntKind.signed] at hs <;> simp [InK, IntKind.wrap, IntKind.bits, IntKind.signed] <;> omega
end
end Go.E
