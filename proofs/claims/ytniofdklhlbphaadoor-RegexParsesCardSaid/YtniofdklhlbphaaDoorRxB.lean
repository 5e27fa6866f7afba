/- The pieces of a text that is an expression, as the reference parser skips them, plain; the sets that it puts together. No program in sight. -/
import Derived.Test.YtniofdklhlbphaaDoorRxA
namespace Go.Proofs.YtniofdklhlbphaaDoor
open Go Go.E
set_option linter.unusedVariables false
set_option maxRecDepth 10000
/-- What Skip takes for one piece. -/
inductive Sk : List UInt8 → Prop where
  | one {c : UInt8} (h : c ≠ 92 ∧ c ≠ 91 ∧ c ≠ 40) : Sk [c]
  | esc {x : UInt8} (h : x ≠ 120) : Sk [92, x]
  | hex {x y : UInt8} : Sk [92, 120, x, y]
  | set {ps : List (List UInt8)} (h : ∀ p ∈ ps, Sk p) (h2 : ∀ p ∈ ps, ∃ x m, p = x :: m ∧ x ≠ 93) : Sk (91 :: (ps.flatten ++ [93]))
  | par {ps : List (List UInt8)} (h : ∀ p ∈ ps, Sk p) (h2 : ∀ p ∈ ps, ∃ x m, p = x :: m ∧ x ≠ 41) : Sk (40 :: (ps.flatten ++ [41]))
/-- Pieces behind each other, each of whose first signs is so. -/
def SkS (P : UInt8 → Prop) (l : List UInt8) : Prop := ∃ ps : List (List UInt8), l = ps.flatten ∧ (∀ p ∈ ps, Sk p) ∧ ∀ p ∈ ps, ∃ x m, p = x :: m ∧ P x
theorem SkS.nil {P : UInt8 → Prop} : SkS P [] := ⟨[], rfl, (fun _ h => by cases h), (fun _ h => by cases h)⟩
theorem SkS.one {P : UInt8 → Prop} {l : List UInt8} (h : Sk l) (h2 : ∃ x m, l = x :: m ∧ P x) : SkS P l := ⟨[l], by simp, fun p hp => by rw [List.mem_singleton.1 hp]; exact h, fun p hp => by rw [List.mem_singleton.1 hp]; exact h2⟩
theorem SkS.app {P : UInt8 → Prop} {l m : List UInt8} (h : SkS P l) (h2 : SkS P m) : SkS P (l ++ m) := by
  obtain ⟨ps, rfl, a, b⟩ := h
  obtain ⟨qs, rfl, c, d⟩ := h2
  exact ⟨ps ++ qs, by simp, fun p hp => (List.mem_append.1 hp).elim (a p) (c p), fun p hp => (List.mem_append.1 hp).elim (b p) (d p)⟩
theorem SkS.weak {P Q : UInt8 → Prop} {l : List UInt8} (h : SkS P l) (hq : ∀ x, P x → Q x) : SkS Q l := by
  obtain ⟨ps, rfl, a, b⟩ := h
  exact ⟨ps, rfl, a, fun p hp => by obtain ⟨x, m, e, hx⟩ := b p hp; exact ⟨x, m, e, hq x hx⟩⟩
/-- A sign that is none of those which open something. -/
theorem SkS.sign {P : UInt8 → Prop} {c : UInt8} (h : c ≠ 92 ∧ c ≠ 91 ∧ c ≠ 40) (hp : P c) : SkS P [c] := .one (.one h) ⟨c, [], rfl, hp⟩
theorem SkS.signs {P : UInt8 → Prop} : ∀ {l : List UInt8}, (∀ c ∈ l, (c ≠ 92 ∧ c ≠ 91 ∧ c ≠ 40) ∧ P c) → SkS P l
  | [], _ => .nil
  | c :: l, h => (SkS.sign (h c (by simp)).1 (h c (by simp)).2).app (SkS.signs (l := l) fun x hx => h x (by simp [hx]))
theorem plain_sig : ∀ c : UInt8, c.toNat ≠ 92 → badB c.toNat = false → c ≠ 92 ∧ c ≠ 91 ∧ c ≠ 40 ∧ c ≠ 93 ∧ c ≠ 41 ∧ c ≠ 124 := by
  intro c h1 h2
  have h3 : signsR.contains c = false := by
    unfold badB at h2
    simp only [Bool.or_eq_false_iff] at h2
    have h4 := h2.2
    cases hc : signsR.contains c with
    | false => rfl
    | true =>
      have : (signsR.map (·.toNat)).contains c.toNat = true := by
        rw [List.contains_iff_mem] at hc ⊢
        exact List.mem_map_of_mem hc
      rw [this] at h4; cases h4
  refine ⟨fun e => h1 (by rw [e]; rfl), ?_, ?_, ?_, ?_, ?_⟩ <;> (rintro rfl; revert h3; decide)
theorem DByte.sk {l : List UInt8} {c : Nat} (h : DByte l c) : Sk l ∧ ∃ x m, l = x :: m ∧ x ≠ 93 ∧ x ≠ 41 ∧ x ≠ 124 := by
  cases h with
  | @plain c h1 h2 =>
    obtain ⟨a, b, d, e, f, g⟩ := plain_sig c h1 h2
    exact ⟨.one ⟨a, b, d⟩, c, [], rfl, e, f, g⟩
  | @esc x v hv => exact ⟨.esc (by rintro rfl; rw [show escN (120 : UInt8).toNat = none by decide] at hv; cases hv), 92, _, rfl, by decide⟩
  | hex _ _ => exact ⟨.hex, 92, _, rfl, by decide⟩
  | @sign x hx => exact ⟨.esc (by rintro rfl; revert hx; decide), 92, _, rfl, by decide⟩
theorem DPair.sk {l : List UInt8} {c d : Nat} (h : DPair l c d) : SkS (· ≠ 93) l := by
  cases h with
  | one h => obtain ⟨a, x, m, e, hx, _⟩ := h.sk; exact .one a ⟨x, m, e, hx⟩
  | @two l m c d h1 h2 hle =>
    obtain ⟨a, x, r, e, hx, _⟩ := h1.sk
    obtain ⟨a2, x2, r2, e2, hx2, _⟩ := h2.sk
    exact (SkS.one a ⟨x, r, e, hx⟩).app ((SkS.sign (c := 45) (by decide) (by decide)).app (.one a2 ⟨x2, r2, e2, hx2⟩))
theorem DItems.sk {l : List UInt8} {z w : SetD} (h : DItems l z w) : SkS (· ≠ 93) l := by
  induction h with
  | nil => exact .nil
  | cons h1 h2 ih => exact h1.sk.app ih
theorem DSet.sk {l : List UInt8} {z : SetD} (h : DSet l z) : Sk (91 :: l) := by
  cases h with
  | pos h h0 =>
    obtain ⟨ps, rfl, a, b⟩ := h.sk
    exact .set a b
  | neg h h0 =>
    obtain ⟨ps, e, a, b⟩ := (SkS.sign (c := 94) (P := (· ≠ 93)) (by decide) (by decide)).app h.sk
    have := Sk.set a b
    rw [← e] at this
    exact this
theorem dig_sig : ∀ c : UInt8, isDig c.toNat = true → (c ≠ 92 ∧ c ≠ 91 ∧ c ≠ 40) ∧ c ≠ 41 ∧ c ≠ 124 := by
  intro c h
  refine ⟨⟨?_, ?_, ?_⟩, ?_, ?_⟩ <;> (rintro rfl; revert h; decide)
theorem DNum.sk {l : List UInt8} {n : Nat} (h : DNum l n) : SkS (fun x => x ≠ 41 ∧ x ≠ 124) l := .signs fun c hc => dig_sig c (h.digs c hc)
theorem DRep.sk {m : List UInt8} {a b : Int} (h : DRep m a b) : SkS (fun x => x ≠ 41 ∧ x ≠ 124) m := by
  have s1 : ∀ c : UInt8, ((c ≠ 92 ∧ c ≠ 91 ∧ c ≠ 40) ∧ c ≠ 41 ∧ c ≠ 124) → SkS (fun x => x ≠ 41 ∧ x ≠ 124) [c] := fun c h => .sign h.1 h.2
  cases h with
  | star => exact s1 _ (by decide)
  | plus => exact s1 _ (by decide)
  | opt => exact s1 _ (by decide)
  | count h =>
    refine (s1 123 (by decide)).app ?_
    cases h with
    | just h => exact h.sk.app (s1 _ (by decide))
    | up h => exact h.sk.app ((s1 44 (by decide)).app (s1 125 (by decide)))
    | both h h2 hle => exact h.sk.app ((s1 44 (by decide)).app (h2.sk.app (s1 125 (by decide))))
section
variable {A : List UInt8 → RgD → Prop}
theorem DAtom.sk (hA : ∀ l n, A l n → SkS (· ≠ 41) l) {l : List UInt8} {n : RgD} (h : DAtom A l n) : Sk l ∧ ∃ x m, l = x :: m ∧ x ≠ 41 ∧ x ≠ 124 := by
  cases h with
  | paren h =>
    obtain ⟨ps, rfl, a, b⟩ := hA _ _ h
    exact ⟨.par a b, 40, _, rfl, by decide⟩
  | any => exact ⟨.one (by decide), 46, [], rfl, by decide⟩
  | set h => exact ⟨h.sk, 91, _, rfl, by decide⟩
  | byte h h2 => obtain ⟨a, x, m, e, _, h3⟩ := h.sk; exact ⟨a, x, m, e, h3⟩
theorem DPiece.sk (hA : ∀ l n, A l n → SkS (· ≠ 41) l) {l : List UInt8} {n : RgD} (h : DPiece A l n) : SkS (fun x => x ≠ 41 ∧ x ≠ 124) l := by
  induction h with
  | atom h => obtain ⟨a, b⟩ := h.sk hA; exact .one a b
  | rep h h2 ih => exact ih.app h2.sk
theorem DPieces.sk (hA : ∀ l n, A l n → SkS (· ≠ 41) l) {l : List UInt8} {r : List RgD} (h : DPieces A l r) : SkS (fun x => x ≠ 41 ∧ x ≠ 124) l := by
  induction h with
  | nil => exact .nil
  | cons h1 h2 ih => exact (h1.sk hA).app ih
theorem DCats.sk (hA : ∀ l n, A l n → SkS (· ≠ 41) l) {l : List UInt8} {r : List RgD} (h : DCats A l r) : SkS (· ≠ 41) l := by
  induction h with
  | one h => obtain ⟨ns, h, _⟩ := h; exact (h.sk hA).weak fun x hx => hx.1
  | cons h1 h2 ih =>
    obtain ⟨ns, h1, _⟩ := h1
    exact ((h1.sk hA).weak fun x hx => hx.1).app ((SkS.sign (c := 124) (by decide) (by decide)).app ih)
end
theorem alt_sk : ∀ (k : Nat) (l : List UInt8) (n : RgD), DAlt k l n → SkS (· ≠ 41) l
  | 0, _, _, h => h.elim
  | k + 1, l, n, ⟨ns, h, _⟩ => h.sk (alt_sk k)
/-- A cell is put, once for each byte from .. to ... -/
def fillD (z : SetD) (c k : Nat) : SetD := (List.range' c k).foldl SetD.add z
theorem fill_zero (z : SetD) (c : Nat) : fillD z c 0 = z := rfl
theorem fill_succ (z : SetD) (c k : Nat) : fillD z c (k + 1) = (fillD z c k).add (c + k) := by
  unfold fillD; rw [List.range'_concat, List.foldl_append]; simp
theorem add_in {z : SetD} {c : Nat} (hz : SetIn z) (hc : c < 256) : SetIn (z.add c) := SetIn.add hz hc
theorem fill_in {z : SetD} {c : Nat} (hz : SetIn z) : ∀ (k : Nat), c + k ≤ 256 → SetIn (fillD z c k)
  | 0, _ => hz
  | k + 1, h => by rw [fill_succ]; exact add_in (fill_in hz k (by omega)) (by omega)
theorem fill_has {z : SetD} {c j : Nat} (hj : j < 256) : ∀ (k : Nat), c + k ≤ 256 → (fillD z c k).has j = (z.has j || decide (c ≤ j ∧ j < c + k))
  | 0, _ => by rw [fill_zero, decide_eq_false (by omega), Bool.or_false]
  | k + 1, h => by
    rw [fill_succ, SetD.has_add (by omega) hj, fill_has hj k (by omega)]
    rw [Bool.or_assoc, ← Bool.decide_or]
    congr 1
    exact decide_eq_decide.2 (by omega)
theorem fill_all : fillD zeroS 0 256 = allD := by
  refine SetD.ext (fill_in zeroS_in 256 (by omega)) SetIn.all (fun c hc => ?_)
  rw [fill_has hc 256 (by omega), SetD.has_all, decide_eq_true (by omega), Bool.or_true]
theorem fill_range {z : SetD} (hz : SetIn z) {c d : Nat} (h : c ≤ d) (hd : d < 256) : fillD z c (d + 1 - c) = z.or (rangeD c d) := by
  refine SetD.ext (fill_in hz _ (by omega)) (SetIn.or hz (range_in c d)) (fun j hj => ?_)
  rw [fill_has hj _ (by omega), SetD.has_or, range_has c d hj]
  congr 1
  exact decide_eq_decide.2 (by omega)
end Go.Proofs.YtniofdklhlbphaaDoor
