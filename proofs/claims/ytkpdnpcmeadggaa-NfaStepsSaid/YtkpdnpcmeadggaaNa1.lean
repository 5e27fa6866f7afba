/- How an automaton lies in memory while it is made: state, edge. -/
import Derived.Test.YtkpdnpcmeadggaaNf3
import Derived.Test.YtkpdnpcmeadggaaC9
namespace Go.E
open Go
theorem Repl.app (G : Chs) {l : Chs} {c x : Chunk} {l' : Chs} (h : Repl l c x l') : Repl (G ++ l) c x (G ++ l') := by
  induction G with
  | nil => exact h
  | cons y G ih => exact .miss y ih
instance HasBlk.app (G l : Chs) (b : Nat) (t : TypeId) (cs : List Value) (f : Chunk → Chs) [h : HasBlk l b t cs f] : HasBlk (G ++ l) b t cs (fun x => G ++ f x) := ⟨fun x => (h.repl x).app G⟩
instance HasSl.app (G l : Chs) (a : Option Addr) (n c : Nat) (t : TypeId) (s : Nat) (cs : List Value) (f : Chunk → Chs) [h : HasSl l a n c t s cs f] : HasSl (G ++ l) a n c t s cs (fun x => G ++ f x) := ⟨fun x => (h.repl x).app G⟩
end Go.E
namespace Go.Proofs.Ytkpdnpcmeadggaa
open Go Go.E
set_option linter.unusedVariables false
set_option linter.unusedSimpArgs false
set_option maxRecDepth 10000
def edgeV (x : EdgeD) : List Value := [.int .i64 (x.to : Int), wV x.set.a, wV x.set.b, wV x.set.c, wV x.set.d, .bool x.free]
def edgesV : List EdgeD → List Value
  | [] => []
  | x :: r => edgeV x ++ edgesV r
theorem edgesV_len : ∀ (l : List EdgeD), (edgesV l).length = l.length * 6
  | [] => rfl
  | x :: r => by rw [edgesV, List.length_append, edgesV_len r, List.length_cons]; simp [edgeV]; omega
theorem edgesV_app : ∀ (l m : List EdgeD), edgesV (l ++ m) = edgesV l ++ edgesV m
  | [], m => rfl
  | x :: l, m => by rw [List.cons_append, edgesV, edgesV, edgesV_app l m, List.append_assoc]
theorem edgesV_snoc (l : List EdgeD) (x : EdgeD) : edgesV (l ++ [x]) = edgesV l ++ edgeV x := by
  rw [edgesV_app, edgesV, edgesV, List.append_nil]
theorem edgesV_drop : ∀ (l : List EdgeD) (i : Nat) (x : EdgeD), l[i]? = some x → ((edgesV l).drop (i * 6)).take 6 = edgeV x
  | [], i, x, h => by simp at h
  | y :: l, 0, x, h => by simp at h; subst h; rfl
  | y :: l, i + 1, x, h => by
    have ih := edgesV_drop l i x (by simpa using h)
    rw [edgesV, show (i + 1) * 6 = (edgeV y).length + i * 6 by show _ = 6 + i * 6; omega, ← List.drop_drop, List.drop_left]
    exact ih
/-- A row of edges: where it lies, how much room it has, what is in it. -/
abbrev RowM := (Option Addr × Nat) × List EdgeD
def hdrV (r : RowM) : Value := .slice r.1.1 r.2.length r.1.2
def rowC (r : RowM) : Chunk := .sl r.1.1 r.2.length r.1.2 66 6 (edgesV r.2)
def rowsOf (R : List RowM) : RowsN := R.map (·.2)
/-- What a maker owns. -/
abbrev mkC (q : Nat) (a : Option Addr) (c : Nat) (e : Int) (full : Bool) (R : List RowM) (r : Chs) : Chs :=
  .blk q 57 [.slice a R.length c, .int .i64 e, .bool full] :: .sl a R.length c 63 1 (R.map hdrV) :: (R.map rowC ++ r)
theorem mk_in (x : Chunk) (q : Nat) (a : Option Addr) (c : Nat) (e : Int) (full : Bool) (R : List RowM) (r : Chs) : (x :: mkC q a c e full R r).Perm (mkC q a c e full R (x :: r)) := by
  unfold mkC
  refine (List.Perm.swap _ _ _).trans (((List.Perm.swap _ _ _).trans ?_).cons _)
  exact (List.perm_middle.symm).cons _
theorem rows_split {R : List RowM} {i : Nat} {x : RowM} (h : R[i]? = some x) (r : Chs) : (R.map rowC ++ r).Perm (rowC x :: ((R.take i ++ R.drop (i + 1)).map rowC ++ r)) := by
  obtain ⟨hi, hx⟩ := List.getElem?_eq_some_iff.1 h
  have e : R = R.take i ++ x :: R.drop (i + 1) := by rw [← hx, ← List.drop_eq_getElem_cons hi, List.take_append_drop]
  have e2 := congrArg (List.map rowC) e
  rw [List.map_append, List.map_cons] at e2
  rw [e2, List.map_append, List.append_assoc, List.append_assoc, List.cons_append]
  exact List.perm_middle
theorem rows_join {R : List RowM} {i : Nat} (hi : i < R.length) (y : RowM) (r : Chs) : (rowC y :: ((R.take i ++ R.drop (i + 1)).map rowC ++ r)).Perm ((R.set i y).map rowC ++ r) := by
  rw [List.set_eq_take_append_cons_drop, if_pos hi, List.map_append, List.map_append, List.map_cons, List.append_assoc, List.append_assoc, List.cons_append]
  exact List.perm_middle.symm
theorem rowsOf_set {R : List RowM} {i : Nat} {x : RowM} (h : R[i]? = some x) (a : Option Addr × Nat) (y : EdgeD) (full : Bool) : rowsOf (R.set i (a, x.2 ++ [y])) = (edgeN i y ⟨rowsOf R, full⟩).rows := by
  unfold rowsOf edgeN
  dsimp only
  rw [List.map_set, List.getElem?_map, h]; rfl
end Go.Proofs.Ytkpdnpcmeadggaa
