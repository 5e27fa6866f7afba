/- Programs as data. Contracts of code: slot, to, ways, right. -/
import Derived.Test.YtniofdklhlbphaaDoorT
import Derived.Test.YtniofdklhlbphaaDoorEn2
import Derived.Test.YtniofdklhlbphaaDoorEn3
namespace Go.Proofs.YtniofdklhlbphaaDoor
open Go Go.E
set_option linter.unusedVariables false
set_option linter.unusedSimpArgs false
set_option maxRecDepth 10000
structure WayD where
  value : Nat
  to : Int
structure StepD where
  kind : Int
  a : Int
  b : Int
  flag : Bool
  min : Nat
  max : Nat
  mul : Nat
  add : Nat
  ways : List WayD
  bytes : List Nat
structure ProgD where
  steps : List StepD
  slots : Int
  sums : Int
  autos : Int
def wayV (w : WayD) : List Value := [.int .u64 (w.value : Int), .int .i64 w.to]
def waysV (l : List WayD) : List Value := l.flatMap wayV
/-- Where a step's ways lie, and how much room they have. -/
abbrev StepA := Option Addr × Nat
def bytesV (l : List Nat) : List Value := l.map fun (c : Nat) => .int .u8 (c : Int)
def stepV (s : StepD) (x : StepA) : List Value :=
  .int .i64 s.kind :: .int .i64 s.a :: .int .i64 s.b :: .bool s.flag :: .int .u64 (s.min : Int) :: .int .u64 (s.max : Int) :: .int .u64 (s.mul : Int) :: .int .u64 (s.add : Int) :: .slice x.1 s.ways.length x.2 :: bytesV s.bytes
def stepsV : List StepD → List StepA → List Value
  | s :: l, x :: xs => stepV s x ++ stepsV l xs
  | _, _ => []
structure StepIn (s : StepD) : Prop where
  bytes : s.bytes.length = 256
  lt : ∀ c ∈ s.bytes, c < 256
  min : s.min < 18446744073709551616
  max : s.max < 18446744073709551616
structure StepOk (ro : Ro) (s : StepD) (x : StepA) : Prop where
  inn : StepIn s
  ways : Rs ro x.1 s.ways.length x.2 2 (waysV s.ways)
structure ProgA where
  sa : Option Addr
  sc : Nat
  xs : List StepA
def progV (p : ProgD) (a : ProgA) : List Value := [.slice a.sa p.steps.length a.sc, .int .i64 p.slots, .int .i64 p.sums, .int .i64 p.autos]
structure ProgOk (ro : Ro) (p : ProgD) (a : ProgA) : Prop where
  len : a.xs.length = p.steps.length
  steps : Rs ro a.sa p.steps.length a.sc 265 (stepsV p.steps a.xs)
  each : ∀ (i : Nat) (s : StepD) (x : StepA), p.steps[i]? = some s → a.xs[i]? = some x → StepOk ro s x
theorem stepV_len {s : StepD} {x : StepA} (h : StepIn s) : (stepV s x).length = 265 := by simp [stepV, bytesV, h.bytes]
theorem waysV_len (l : List WayD) : (waysV l).length = l.length * 2 := by
  induction l with
  | nil => rfl
  | cons s l ih => simp [waysV, wayV] at ih ⊢; omega
theorem waysV_drop : ∀ (l : List WayD) (i : Nat) (s : WayD), l[i]? = some s → ((waysV l).drop (i * 2)).take 2 = wayV s
  | [], i, s, h => by simp at h
  | x :: l, 0, s, h => by simp at h; subst h; rfl
  | x :: l, i + 1, s, h => by
    rw [show (i + 1) * 2 = 2 + i * 2 by omega]
    show List.take 2 (List.drop (2 + i * 2) (wayV x ++ waysV l)) = _
    rw [← List.drop_drop, List.drop_left' (by rfl)]
    exact waysV_drop l i s (by simpa using h)
theorem stepsV_drop : ∀ (l : List StepD) (xs : List StepA) (i : Nat) (s : StepD) (x : StepA), (∀ s ∈ l, StepIn s) → l[i]? = some s → xs[i]? = some x → ((stepsV l xs).drop (i * 265)).take 265 = stepV s x
  | [], xs, i, s, x, _, h, _ => by simp at h
  | y :: l, [], i, s, x, _, _, h => by simp at h
  | y :: l, z :: xs, 0, s, x, hi, h1, h2 => by
    simp at h1 h2; subst h1; subst h2
    rw [stepsV, Nat.zero_mul, List.drop_zero, List.take_left' (stepV_len (hi y (by simp)))]
  | y :: l, z :: xs, i + 1, s, x, hi, h1, h2 => by
    rw [stepsV, show (i + 1) * 265 = 265 + i * 265 by omega, ← List.drop_drop, List.drop_left' (stepV_len (hi y (by simp)))]
    exact stepsV_drop l xs i s x (fun s hs => hi s (by simp [hs])) (by simpa using h1) (by simpa using h2)
theorem stepsV_len : ∀ (l : List StepD) (xs : List StepA), (∀ s ∈ l, StepIn s) → xs.length = l.length → (stepsV l xs).length = l.length * 265
  | [], [], _, _ => rfl
  | [], _ :: _, _, h => by simp at h
  | _ :: _, [], _, h => by simp at h
  | s :: l, x :: xs, hi, h => by
    rw [stepsV, List.length_append, stepV_len (hi s (by simp)), stepsV_len l xs (fun s hs => hi s (by simp [hs])) (by simpa using h), List.length_cons]
    omega
theorem ProgOk.inn {ro : Ro} {p : ProgD} {a : ProgA} (h : ProgOk ro p a) : ∀ s ∈ p.steps, StepIn s := fun s hs => by
  obtain ⟨i, hi, e⟩ := List.getElem_of_mem hs
  have h1 : p.steps[i]? = some s := by rw [List.getElem?_eq_getElem hi, e]
  obtain ⟨x, hx⟩ : ∃ x, a.xs[i]? = some x := ⟨_, List.getElem?_eq_getElem (by rw [h.len]; exact hi)⟩
  exact (h.each i s x h1 hx).inn
/-! ### what Check answers -/
def slotB (p : ProgD) (i : Int) : Bool := decide (i ≥ -1) && decide (i < p.slots)
def toB (p : ProgD) (i : Int) : Bool := decide (i ≥ 0) && decide (i < (p.steps.length : Int))
def waysB (p : ProgD) (s : StepD) : Bool := s.ways.all (fun w => toB p w.to) && decide (s.ways.length ≤ 255)
def rightD (p : ProgD) (s : StepD) : Bool :=
  if s.kind = 1 ∨ s.kind = 2 ∨ s.kind = 8 ∨ s.kind = 16 ∨ s.kind = 20 then true
  else if s.kind = 3 then decide (s.a ≥ 1) && decide (s.a ≤ 8) && slotB p s.b && decide (s.min ≤ s.max)
  else if s.kind = 4 then slotB p s.b && decide (s.min ≤ s.max)
  else if s.kind = 5 then decide (s.a ≥ 0) && decide (s.a < p.autos)
  else if s.kind = 6 ∨ s.kind = 7 ∨ s.kind = 9 then slotB p s.a
  else if s.kind = 10 ∨ s.kind = 11 ∨ s.kind = 12 ∨ s.kind = 15 then toB p s.a
  else if s.kind = 17 ∨ s.kind = 18 then decide (s.a ≥ 0) && decide (s.a < p.sums)
  else if s.kind = 19 then decide (s.a ≥ 0) && decide (s.a < p.sums) && decide (s.b ≥ 0) && slotB p s.b
  else if s.kind = 13 then decide (s.a ≥ 0) && slotB p s.a && (decide (s.b = -1) || toB p s.b) && waysB p s
  else if s.kind = 14 then s.bytes.all (fun c => decide (c ≤ s.ways.length)) && waysB p s
  else false
section
variable {ro : Ro} {own r : Chs} {K : Value → Ro → Chs → Prop} {g : Chunk → Chs}
theorem slot_ok {p : ProgD} {a : ProgA} {i : Int} (hk : K (.bool (slotB p i)) ro own) : CallOk Tryd.prog 70 #[.agg (progV p a).toArray, .int .i64 i] ro own K := by
  refine CallOk.intro (args := [_, _]) (rs := [_]) T_ok Tryd.func70 Tryd.call70 rfl rfl (by kernel_rfl) rfl rfl ?_
  repeat (first
    | (show _ ∧ _; exact ⟨rfl, rfl, rfl⟩)
    | refine wkT ?_
    | (show OpOk _ _ _ _ _ _ _; first | refine opB (fun b => ?_) | refine opA (fun a' c' hc1 hc2 => ?_))
    | (show GJ _ _ _ _ _ _ _; first | (apply GJ.and; exact rfl; intro hg) | (apply GJ.or; exact rfl; intro hg)))
  exact Wk.outS Sup.auto (.refl _) hk
theorem to_ok {p : ProgD} {a : ProgA} {i : Int} (hk : K (.bool (toB p i)) ro own) : CallOk Tryd.prog 71 #[.agg (progV p a).toArray, .int .i64 i] ro own K := by
  refine CallOk.intro (args := [_, _]) (rs := [_]) T_ok Tryd.func71 Tryd.call71 rfl rfl (by kernel_rfl) rfl rfl ?_
  repeat (first
    | (show _ ∧ _; exact ⟨rfl, rfl, rfl⟩)
    | refine wkT ?_
    | (show OpOk _ _ _ _ _ _ _; first | refine opB (fun b => ?_) | refine opA (fun a' c' hc1 hc2 => ?_))
    | (show GJ _ _ _ _ _ _ _; first | (apply GJ.and; exact rfl; intro hg) | (apply GJ.or; exact rfl; intro hg)))
  exact Wk.outS Sup.auto (.refl _) hk
end
end Go.Proofs.YtniofdklhlbphaaDoor
