/- One node's chunks among all. -/
import Derived.Test.YtniofdklhlbphaaSpE
namespace Go.Proofs.Ytniofdklhlbphaa
open Go Go.E
set_option linter.unusedVariables false
theorem loopPerm {ws : List Nat} {A : Kt → Kt} {env : Env} {ro : Ro} {own own' : Chs} (hp : own.Perm own') (h : LoopOk ws A env ro own') : LoopOk ws A env ro own := by
  obtain ⟨E, O, I, μ, init, round⟩ := h
  exact .intro E O I μ (.perm hp init) round
theorem set_same {α : Type} {l : List α} {i : Nat} {d : α} (h : l[i]? = some d) : l.set i d = l := by
  obtain ⟨h1, rfl⟩ := List.getElem?_eq_some_iff.1 h
  exact List.set_getElem_self h1
theorem Ld.slAt {ro : Ro} {own : Chs} {a : Option Addr} {n c s : Nat} {t : TypeId} {cs : List Value} {f : Chunk → Chs} {o k : Nat} {v : Value} [hb : HasSl own a n c t s cs f] (ho : o = ao a + k) (hv : cs[k]? = some v) : Ld ro own (ab a) o v := by subst ho; exact Ld.hasSl hv
theorem OpOk.storeSlAt {P : Program} {T : TT} [hT : TTab P T] {ty : TypeId} {env : Env} {ro : Ro} {own : Chs} {K : Value → Ro → Chs → Prop} {t : TypeId} {x y : Operand} {a : Option Addr} {o k : Nat} {v : Value} {n c s : Nat} {t0 : TypeId} {cs : List Value} {f : Chunk → Chs} (hx : ev env x = some (.pointer (some ⟨ab a, o, none⟩))) (hy : ev env y = some v) (ht : cell1 T t = true) (h1 : v.oneCell' = true)
    [hb : HasSl own a n c t0 s cs f] (ho : o = ao a + k) (hlt : k < cs.length) (hk : K undef ro (f (.sl a n c t0 s (cs.set k v)))) : OpOk P (.store t x y) ty env ro own K := by
  subst ho; exact OpOk.storeSl hx hy ht h1 hlt hk
theorem nodesC_at : ∀ (ds : List NodeD) (xs : List NodeA) (ks : List (Nat × Nat × Nat × Nat)) (i : Nat) (x : NodeA) (k : Nat × Nat × Nat × Nat), i < ds.length → xs[i]? = some x → ks[i]? = some k → ∃ pre post : Chs, ∀ d', nodesC (ds.set i d') xs ks = pre ++ (nodeC d' x k ++ post)
  | [], xs, ks, i, x, k, h, _, _ => by simp at h
  | d :: ds, [], ks, i, x, k, h, hx, hk => by simp at hx
  | d :: ds, x0 :: xs, [], i, x, k, h, hx, hk => by simp at hk
  | d :: ds, x0 :: xs, k0 :: ks, 0, x, k, h, hx, hk => by
    simp at hx hk
    subst hx; subst hk
    exact ⟨[], nodesC ds xs ks, fun d' => rfl⟩
  | d :: ds, x0 :: xs, k0 :: ks, i + 1, x, k, h, hx, hk => by
    obtain ⟨pre, post, he⟩ := nodesC_at ds xs ks i x k (by simpa using h) (by simpa using hx) (by simpa using hk)
    refine ⟨nodeC d x0 k0 ++ pre, post, fun d' => ?_⟩
    show nodeC d x0 k0 ++ nodesC (ds.set i d') xs ks = _
    rw [he, List.append_assoc]
/-- The same but for what its slices hold. -/
structure Alike2 (d e : NodeD) : Prop where
  v : ∀ x, nodeV d x = nodeV e x
  kids : d.kids.length = e.kids.length
  fields : d.fields.length = e.fields.length
theorem nodesV_set {ds : List NodeD} {d e : NodeD} (h : ∀ x, nodeV d x = nodeV e x) : ∀ {xs : List NodeA} {i : Nat}, ds[i]? = some d → nodesV (ds.set i e) xs = nodesV ds xs := by
  induction ds with
  | nil => intro xs i hi; simp at hi
  | cons d0 ds ih =>
    intro xs i hi
    cases xs with
    | nil => cases i <;> simp [nodesV]
    | cons x0 xs =>
      cases i with
      | zero => simp at hi; subst hi; simp [nodesV, h]
      | succ i => simp at hi; simp [nodesV, ih hi]
theorem nodesV_get {ds : List NodeD} {xs : List NodeA} {i o : Nat} {d : NodeD} {x : NodeA} (hd : ds[i]? = some d) (hx : xs[i]? = some x) (ho : o < 18) : (nodesV ds xs)[i * 18 + o]? = (nodeV d x)[o]? := by
  have h := nodesV_drop ds xs i d x hd hx
  rw [← h, List.getElem?_take_of_lt ho, List.getElem?_drop]
theorem kidsV_set (l : List Int) (k : Nat) (x : Int) : (kidsV l).set k (.int .i64 x) = kidsV (l.set k x) := by unfold kidsV; rw [List.map_set]
theorem fieldsV_get {l : List FieldD} {k o : Nat} {f : FieldD} (hf : l[k]? = some f) (ho : o < 5) : (fieldsV l)[k * 5 + o]? = (fieldV f)[o]? := by
  obtain ⟨h1, h2⟩ := List.getElem?_eq_some_iff.1 hf
  have h := fieldsV_drop l h1
  rw [h2] at h
  rw [← h, List.getElem?_take_of_lt ho, List.getElem?_drop]
theorem fieldsV_set {f : FieldD} {n : List UInt8} : ∀ (l : List FieldD) (k : Nat), l[k]? = some f → (fieldsV l).set (k * 5) (str n) = fieldsV (l.set k { f with name := n })
  | [], k, h => by simp at h
  | g :: l, 0, h => by simp at h; subst h; rfl
  | g :: l, k + 1, h => by
    have := fieldsV_set (n := n) l k (by simpa using h)
    show (fieldV g ++ fieldsV l).set ((k + 1) * 5) (str n) = fieldV g ++ fieldsV (l.set k _)
    rw [← this, List.set_append_right _ _ (by simp [fieldV]; omega)]
    congr 2
    simp [fieldV]; omega
end Go.Proofs.Ytniofdklhlbphaa
