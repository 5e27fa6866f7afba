/- Contracts of code: the Maker. -/
import Derived.Test.YtniofdklhlbphaaDoorCd6
import Derived.Test.YtniofdklhlbphaaDoorCd4
namespace Go.Proofs.YtniofdklhlbphaaDoor
open Go Go.E
set_option linter.unusedVariables false
set_option linter.unusedSimpArgs false
set_option maxRecDepth 10000
def makerV (p : ProgD) (a : ProgA) : List Value := progV p a ++ [.bool false]
/-- What a Maker has put together: the steps lie in a slice of its own. -/
structure MakeOk (ro : Ro) (p : ProgD) (a : ProgA) : Prop where
  len : a.xs.length = p.steps.length
  each : ∀ (i : Nat) (s : StepD) (x : StepA), p.steps[i]? = some s → a.xs[i]? = some x → StepOk ro s x
  le : p.steps.length ≤ a.sc
  max : a.sc ≤ maxLen
theorem MakeOk.inn {ro : Ro} {p : ProgD} {a : ProgA} (h : MakeOk ro p a) : ∀ s ∈ p.steps, StepIn s := fun s hs => by
  obtain ⟨i, hi, e⟩ := List.getElem_of_mem hs
  have h1 : p.steps[i]? = some s := by rw [List.getElem?_eq_getElem hi, e]
  obtain ⟨x, hx⟩ : ∃ x, a.xs[i]? = some x := ⟨_, List.getElem?_eq_getElem (by rw [h.len]; exact hi)⟩
  exact (h.each i s x h1 hx).inn
def makeC (q : Nat) (p : ProgD) (a : ProgA) : Chs := [.blk q 47 (makerV p a), .sl a.sa p.steps.length a.sc 42 265 (stepsV p.steps a.xs)]
def ProgD.snoc (p : ProgD) (s : StepD) : ProgD := { p with steps := p.steps ++ [s] }
theorem stepsV_snoc {s : StepD} {x : StepA} : ∀ (l : List StepD) (xs : List StepA), xs.length = l.length → stepsV (l ++ [s]) (xs ++ [x]) = stepsV l xs ++ stepV s x
  | [], [], _ => by simp [stepsV]
  | [], _ :: _, h => by simp at h
  | _ :: _, [], h => by simp at h
  | y :: l, z :: xs, h => by
    rw [List.cons_append, List.cons_append, stepsV, stepsV_snoc l xs (by simpa using h), stepsV, List.append_assoc]
theorem snoc_get {α : Type} {l : List α} {y : α} {i : Nat} {z : α} (h : (l ++ [y])[i]? = some z) : l[i]? = some z ∨ (i = l.length ∧ z = y) := by
  rcases Nat.lt_or_ge i l.length with hl | hl
  · rw [List.getElem?_append_left hl] at h; exact .inl h
  · rw [List.getElem?_append_right hl] at h
    cases hi : i - l.length with
    | zero => rw [hi] at h; simp at h; exact .inr ⟨by omega, h.symm⟩
    | succ m => rw [hi] at h; simp at h
theorem MakeOk.snoc {ro : Ro} {p : ProgD} {a : ProgA} {s : StepD} {x : StepA} {a' : Option Addr} {c' : Nat} (h : MakeOk ro p a) (hs : StepOk ro s x) (h1 : p.steps.length + 1 ≤ c') (h2 : c' ≤ maxLen) : MakeOk ro (p.snoc s) ⟨a', c', a.xs ++ [x]⟩ where
  len := by simp [ProgD.snoc, h.len]
  each := fun i t y ht hy => by
    rcases snoc_get ht with ht | ⟨rfl, rfl⟩
    · rcases snoc_get hy with hy | ⟨rfl, rfl⟩
      · exact h.each i t y ht hy
      · have := (List.getElem?_eq_some_iff.1 ht).1
        rw [h.len] at this; omega
    · rcases snoc_get hy with hy | ⟨_, rfl⟩
      · have := (List.getElem?_eq_some_iff.1 hy).1
        rw [h.len] at this; omega
      · exact hs
  le := by simpa [ProgD.snoc] using h1
  max := h2
theorem stepsV_set {t : StepD} {o : Nat} {v : Value} (ho : o < 265) : ∀ (l : List StepD) (xs : List StepA) (i : Nat) (s : StepD) (x : StepA), (∀ s ∈ l, StepIn s) → l[i]? = some s → xs[i]? = some x → (stepV s x).set o v = stepV t x → (stepsV l xs).set (i * 265 + o) v = stepsV (l.set i t) xs
  | [], xs, i, s, x, _, h, _, _ => by simp at h
  | y :: l, [], i, s, x, _, _, h, _ => by simp at h
  | y :: l, z :: xs, 0, s, x, hi, h1, h2, he => by
    simp at h1 h2; subst h1; subst h2
    rw [stepsV, Nat.zero_mul, Nat.zero_add, List.set_append_left _ _ (by rw [stepV_len (hi y (by simp))]; exact ho), he]
    rfl
  | y :: l, z :: xs, i + 1, s, x, hi, h1, h2, he => by
    have hl := stepV_len (x := z) (hi y (by simp))
    rw [stepsV, List.set_append_right _ _ (by rw [hl]; omega), hl, show (i + 1) * 265 + o - 265 = i * 265 + o by omega, stepsV_set ho l xs i s x (fun s hs => hi s (by simp [hs])) (by simpa using h1) (by simpa using h2) he]
    rfl
def ProgD.aim (p : ProgD) (i : Nat) (s : StepD) (z : Int) : ProgD := { p with steps := p.steps.set i { s with a := z } }
section
variable {ro : Ro} {own r : Chs} {K : Value → Ro → Chs → Prop} {g : Chunk → Chs}
theorem slotM_ok {q : Nat} {p : ProgD} {a : ProgA} (hb : 0 ≤ p.slots ∧ p.slots ≤ 100000) (hk : K (.int .i64 p.slots) ro (.blk q 47 (makerV { p with slots := p.slots + 1 } a) :: own)) : CallOk Tryd.prog 20 #[ptr' q] ro (.blk q 47 (makerV p a) :: own) K := by
  refine CallOk.intro (args := [_]) (rs := [_]) T_ok Tryd.func20 Tryd.call20 rfl rfl (by kernel_rfl) rfl rfl ?_
  repeat (first
    | refine SeqOk.pass ?_
    | (show _ ∧ _; exact ⟨rfl, rfl, rfl⟩)
    | refine wkT ?_
    | refine Bs.all ?_
    | (show RetOk _ _ _ _ _ _; refine RetOk.of (T := T) (RL.row rfl rfl LdN.hasBlk (by rfl) (RL.tmp rfl (RL.tmp rfl RL.nil))) ?_)
    | (show QOk _ _ _ _ _ _ _; refine QOk.build rfl rfl Nf.auto ?_)
    | (show OpOk _ _ _ _ _ _ _; first | refine opB (fun b => ?_) | refine opA (fun a' c' hc1 hc2 => ?_))
    | (show GJ _ _ _ _ _ _ _; first | refine GJ.t (by decide) ?_ | refine GJ.f (by decide) ?_ | refine GJ.ft (by decide) ?_ | refine GJ.ff (by decide) ?_)
    | (show Br _ _ _; first | refine Br.t (by decide) ?_ | refine Br.f (by decide) ?_)
    | (show GJ _ _ _ _ _ _ _; first | (apply GJ.and; exact rfl; intro hg) | (apply GJ.or; exact rfl; intro hg)))
  exact Wk.outV Sup.auto hk (congrArg (Value.int .i64) (by omega))
theorem here_ok {q : Nat} {p : ProgD} {a : ProgA} (hk : K (.int .i64 (p.steps.length : Int)) ro (.blk q 47 (makerV p a) :: own)) : CallOk Tryd.prog 18 #[ptr' q] ro (.blk q 47 (makerV p a) :: own) K := by
  refine CallOk.intro (args := [_]) (rs := [_]) T_ok Tryd.func18 Tryd.call18 rfl rfl (by kernel_rfl) rfl rfl ?_
  repeat (first
    | refine SeqOk.pass ?_
    | (show _ ∧ _; exact ⟨rfl, rfl, rfl⟩)
    | refine wkT ?_
    | refine Bs.all ?_
    | (show RetOk _ _ _ _ _ _; refine RetOk.of (T := T) (RL.row rfl rfl LdN.hasBlk (by rfl) (RL.tmp rfl (RL.tmp rfl RL.nil))) ?_)
    | (show QOk _ _ _ _ _ _ _; refine QOk.build rfl rfl Nf.auto ?_)
    | (show OpOk _ _ _ _ _ _ _; first | refine opB (fun b => ?_) | refine opA (fun a' c' hc1 hc2 => ?_))
    | (show GJ _ _ _ _ _ _ _; first | refine GJ.t (by decide) ?_ | refine GJ.f (by decide) ?_ | refine GJ.ft (by decide) ?_ | refine GJ.ff (by decide) ?_)
    | (show Br _ _ _; first | refine Br.t (by decide) ?_ | refine Br.f (by decide) ?_)
    | (show GJ _ _ _ _ _ _ _; first | (apply GJ.and; exact rfl; intro hg) | (apply GJ.or; exact rfl; intro hg)))
  exact Wk.outS Sup.auto (.refl _) hk
theorem madd_ok {q : Nat} {p : ProgD} {a : ProgA} {s : StepD} {x : StepA} (hm : MakeOk ro p a) (hs : StepOk ro s x) (hn : p.steps.length < 65536)
    (hk : ∀ a' c', p.steps.length + 1 ≤ c' → c' ≤ maxLen → K (.int .i64 (p.steps.length : Int)) ro (makeC q (p.snoc s) ⟨a', c', a.xs ++ [x]⟩ ++ own)) :
    CallOk Tryd.prog 19 #[ptr' q, .agg (stepV s x).toArray] ro (makeC q p a ++ own) K := by
  have hle := hm.le
  have hmx := hm.max
  have hrow := stepV_len (x := x) hs.inn
  unfold makeC
  rw [List.cons_append, List.cons_append, List.nil_append]
  have hfl : flat [Value.agg (stepV s x).toArray] = stepV s x := by show stepV s x ++ [] = _; rw [List.append_nil]
  refine CallOk.intro (args := [_, _]) (rs := [_]) T_ok Tryd.func19 Tryd.call19 rfl rfl (by kernel_rfl) rfl rfl ?_
  repeat (first
    | (show _ ∧ _; exact ⟨rfl, rfl, rfl⟩)
    | refine wkT ?_
    | (show OpOk _ _ _ _ _ _ _; first | refine opB (fun b => ?_) | refine opA (fun a' c' hc1 hc2 => ?_))
    | (show GJ _ _ _ _ _ _ _; first | (apply GJ.and; exact rfl; intro hg) | (apply GJ.or; exact rfl; intro hg)))
  refine Bs.mk ⟨[.blk b 42 (stepV s x), .blk q 47 (makerV p a)], Sup.auto, ?_⟩
  repeat (first
    | (show _ ∧ _; exact ⟨rfl, rfl, rfl⟩)
    | refine wkT ?_
    | (show OpOk _ _ _ _ _ _ _; first | refine opB (fun b => ?_) | refine opA (fun a' c' hc1 hc2 => ?_))
    | (show GJ _ _ _ _ _ _ _; first | (apply GJ.and; exact rfl; intro hg) | (apply GJ.or; exact rfl; intro hg)))
  refine QOk.loadRow rfl rfl LdN.hasBlk hrow ?_
  repeat (first
    | (show _ ∧ _; exact ⟨rfl, rfl, rfl⟩)
    | refine wkT ?_
    | (show OpOk _ _ _ _ _ _ _; first | refine opB (fun b => ?_) | refine opA (fun a' c' hc1 hc2 => ?_))
    | (show GJ _ _ _ _ _ _ _; first | (apply GJ.and; exact rfl; intro hg) | (apply GJ.or; exact rfl; intro hg)))
  refine OpOk.buildSlice (ps := [_]) (s := 265) rfl rfl rfl rfl (by show (Nat.beq (stepV s x).toArray.size 265 && true) = true; rw [List.size_toArray, hrow]; rfl) (fun bb => ?_)
  rw [hfl]
  refine wkS ?_
  refine OpOk.append1 rfl rfl rfl rfl rfl (stepV_one s x) (by omega) (fun a' c' h1 h2 => ?_)
  rw [← stepsV_snoc _ _ hm.len]
  refine wkS ?_
  repeat (first
    | (show _ ∧ _; exact ⟨rfl, rfl, rfl⟩)
    | refine wkT ?_
    | (show OpOk _ _ _ _ _ _ _; first | refine opB (fun b => ?_) | refine opA (fun a' c' hc1 hc2 => ?_))
    | (show GJ _ _ _ _ _ _ _; first | (apply GJ.and; exact rfl; intro hg) | (apply GJ.or; exact rfl; intro hg)))
  have e1 : (p.steps ++ [s]).length = p.steps.length + 1 := by simp
  have hk2 := hk a' c' h1 h2
  simp only [makeC, ProgD.snoc, makerV, progV, e1, List.cons_append, List.nil_append] at hk2
  exact Wk.outV Sup.auto hk2 (congrArg (Value.int .i64) (by omega))
theorem aim_ok {q : Nat} {p : ProgD} {a : ProgA} {i : Nat} {s : StepD} {z : Int} (hm : MakeOk ro p a) (hs : p.steps[i]? = some s)
    (hk : K (.tuple #[]) ro (makeC q (p.aim i s z) a ++ own)) :
    CallOk Tryd.prog 32 #[ptr' q, .int .i64 (i : Int), .int .i64 z] ro (makeC q p a ++ own) K := by
  have hle := hm.le
  have hmx := hm.max
  unfold maxLen at hmx
  have hi := (List.getElem?_eq_some_iff.1 hs).1
  obtain ⟨x, hx⟩ : ∃ x, a.xs[i]? = some x := ⟨_, List.getElem?_eq_getElem (by rw [hm.len]; exact hi)⟩
  have hin := hm.inn
  have hset := stepsV_set (t := { s with a := z }) (o := 1) (v := .int .i64 z) (by omega) p.steps a.xs i s x hin hs hx rfl
  have hlen := stepsV_len p.steps a.xs hin hm.len
  have hk2 := hk
  simp only [makeC, ProgD.aim, makerV, progV, List.length_set, List.cons_append, List.nil_append] at hk2
  unfold makeC
  rw [List.cons_append, List.cons_append, List.nil_append]
  refine CallOk.intro (args := [_, _, _]) (rs := []) T_ok Tryd.func32 Tryd.call32 rfl rfl (by kernel_rfl) rfl rfl ?_
  repeat (first
    | refine SeqOk.pass ?_
    | (show _ ∧ _; exact ⟨rfl, rfl, rfl⟩)
    | refine wkT ?_
    | refine Bs.all ?_
    | (show RetOk _ _ _ _ _ _; refine RetOk.of (T := T) (RL.row rfl rfl LdN.hasBlk (by rfl) (RL.tmp rfl (RL.tmp rfl RL.nil))) ?_)
    | (show QOk _ _ _ _ _ _ _; refine QOk.build rfl rfl Nf.auto ?_)
    | (show OpOk _ _ _ _ _ _ _; first | refine opB (fun b => ?_) | refine opA (fun a' c' hc1 hc2 => ?_))
    | (show GJ _ _ _ _ _ _ _; first | refine GJ.t (by decide) ?_ | refine GJ.f (by decide) ?_ | refine GJ.ft (by decide) ?_ | refine GJ.ff (by decide) ?_)
    | (show Br _ _ _; first | refine Br.t (by decide) ?_ | refine Br.f (by decide) ?_)
    | (show GJ _ _ _ _ _ _ _; first | (apply GJ.and; exact rfl; intro hg) | (apply GJ.or; exact rfl; intro hg)))
  refine OpOk.storeSlAt' (k := i * 265 + 1) rfl rfl rfl rfl (by rw [Int.toNat_natCast, Nat.add_assoc]) (by rw [hlen]; omega) ?_
  rw [hset]
  repeat (first
    | refine SeqOk.pass ?_
    | (show _ ∧ _; exact ⟨rfl, rfl, rfl⟩)
    | refine wkT ?_
    | refine Bs.all ?_
    | (show RetOk _ _ _ _ _ _; refine RetOk.of (T := T) (RL.row rfl rfl LdN.hasBlk (by rfl) (RL.tmp rfl (RL.tmp rfl RL.nil))) ?_)
    | (show QOk _ _ _ _ _ _ _; refine QOk.build rfl rfl Nf.auto ?_)
    | (show OpOk _ _ _ _ _ _ _; first | refine opB (fun b => ?_) | refine opA (fun a' c' hc1 hc2 => ?_))
    | (show GJ _ _ _ _ _ _ _; first | refine GJ.t (by decide) ?_ | refine GJ.f (by decide) ?_ | refine GJ.ft (by decide) ?_ | refine GJ.ff (by decide) ?_)
    | (show Br _ _ _; first | refine Br.t (by decide) ?_ | refine Br.f (by decide) ?_)
    | (show GJ _ _ _ _ _ _ _; first | (apply GJ.and; exact rfl; intro hg) | (apply GJ.or; exact rfl; intro hg)))
  exact Wk.outS Sup.auto (.refl _) hk2
end
end Go.Proofs.YtniofdklhlbphaaDoor
