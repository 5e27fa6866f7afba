/- The laws RegexJoins, RegexBytes, WholeClasses, plain; parts of RegexParses. No program in sight. -/
import Derived.Test.YtkpdnpcmeadggaaRxx
namespace Go.Proofs.Ytkpdnpcmeadggaa
open Go Go.E
set_option linter.unusedVariables false
set_option maxRecDepth 10000
theorem same_head (n : RgD) : sameH n n = true := by
  unfold sameH; simp
mutual
theorem same_refl : ∀ (n : RgD), sameD n n = true
  | .mk k s l a b => by
    rw [sameD, if_pos (same_head _)]
    exact sameK_refl l
theorem sameK_refl : ∀ (l : List RgD), sameK l l = true
  | [] => by rw [sameK]
  | x :: r => by rw [sameK, same_refl x, if_pos rfl]; exact sameK_refl r
end

mutual
theorem check_size : ∀ (n : RgD) (M : Int), wrongD n = 0 → (sizeD n : Int) ≤ M → checkD n M = (0, M - sizeD n)
  | .mk k s l a b, M, hw, hs => by
    obtain ⟨hf, hk⟩ := wrongD_parts hw
    rw [sizeD] at hs ⊢
    rw [checkD, if_neg (by omega), if_neg (by rw [hf]; decide)]
    by_cases h : k = 1 ∨ k = 2
    · rw [if_pos h]
      have hl : l = [] := by
        cases form_cases hf with
        | none => rfl
        | one => rfl
        | cat => exact absurd h (by decide)
        | alt => exact absurd h (by decide)
        | rep => exact absurd h (by decide)
      subst hl
      rw [sizeK]; simp
    · rw [if_neg h, checkK_size l (M - 1) hk (by omega)]
      congr 1; omega
theorem checkK_size : ∀ (l : List RgD) (M : Int), wrongK l = 0 → (sizeK l : Int) ≤ M → checkK l M = (0, M - sizeK l)
  | [], M, _, _ => by rw [checkK, sizeK]; simp
  | x :: r, M, hw, hs => by
    obtain ⟨h1, h2⟩ := wrongK_cons hw
    rw [sizeK] at hs ⊢
    have hx := check_size x M h1 (by omega)
    rw [checkK, hx, if_neg (fun h => h rfl), checkK_size r (M - sizeD x) h2 (by omega)]
    congr 1; omega
end

/-- A text of the grammar alone is read, or it is too long or too deep. -/
theorem good_or {k : Nat} {l : List UInt8} {n : RgD} (h : DAlt k l n) (hl : l.length ≤ 512) : ((parseD l).2.1 = 0 → parseD l = (n, (0, 0))) ∧ ((parseD l).2.1 ≠ 0 → (parseD l).2.1 = 6 ∨ (parseD l).2.1 = 2) := by
  rcases parse_at h hl with ⟨e, _⟩ | ⟨_, ⟨e, _⟩ | ⟨e, _⟩⟩
  · rw [e]; exact ⟨fun _ => rfl, fun h => absurd rfl h⟩
  · rw [e]; exact ⟨fun h => (by cases h), fun _ => .inr rfl⟩
  · rw [e]; exact ⟨fun h => (by cases h), fun _ => .inl rfl⟩
theorem good_one {k : Nat} {l : List UInt8} {n : RgD} (h : DAlt k l n) (hl : l.length ≤ 512) (hk : k ≤ 33) (hs : sizeD n ≤ 512) : parseD l = (n, (0, 0)) := by
  rcases parse_at h hl with ⟨e, _⟩ | ⟨_, ⟨_, e⟩ | ⟨_, e⟩⟩
  · exact e
  · omega
  · omega
def inB (a : List UInt8) : List UInt8 := 40 :: (a ++ [41])
theorem inB_len (a : List UInt8) : (inB a).length = a.length + 2 := by simp [inB]
theorem joins_law {a b : List UInt8} (ha : (parseD a).2.1 = 0) (hb : (parseD b).2.1 = 0) (la : a.length ≤ 200) (lb : b.length ≤ 200) :
    (((parseD (inB a ++ inB b)).2.1 = 0 → parseD (inB a ++ inB b) = (catD' [(parseD a).1, (parseD b).1], (0, 0))) ∧ ((parseD (inB a ++ inB b)).2.1 ≠ 0 → (parseD (inB a ++ inB b)).2.1 = 6 ∨ (parseD (inB a ++ inB b)).2.1 = 2)) ∧
    (((parseD (inB a ++ 124 :: inB b)).2.1 = 0 → parseD (inB a ++ 124 :: inB b) = (altD' [(parseD a).1, (parseD b).1], (0, 0))) ∧ ((parseD (inB a ++ 124 :: inB b)).2.1 ≠ 0 → (parseD (inB a ++ 124 :: inB b)).2.1 = 6 ∨ (parseD (inB a ++ 124 :: inB b)).2.1 = 2)) ∧
    (((parseD (inB a ++ [42])).2.1 = 0 → parseD (inB a ++ [42]) = (repD (parseD a).1 0 (-1), (0, 0))) ∧ ((parseD (inB a ++ [42])).2.1 ≠ 0 → (parseD (inB a ++ [42])).2.1 = 6 ∨ (parseD (inB a ++ [42])).2.1 = 2)) := by
  have da := (parse_sound ha).2.2.1
  have db := (parse_sound hb).2.2.1
  have pa : DPiece (DAlt 33) (inB a) (parseD a).1 := .atom (.paren da)
  have pb : DPiece (DAlt 33) (inB b) (parseD b).1 := .atom (.paren db)
  refine ⟨good_or (k := 34) (DCat.alt ⟨_, .cons pa (by simpa using DPieces.cons pb .nil), rfl⟩) (by simp [inB_len]; omega), good_or (k := 34) ⟨_, .cons pa.one (.one pb.one), rfl⟩ (by simp [inB_len]; omega), good_or (k := 34) (DCat.alt (DPiece.one (.rep pa .star))) (by simp [inB_len]; omega)⟩
theorem or_zero (z : SetD) : zeroS.or z = z := by
  obtain ⟨a, b, c, d⟩ := z
  simp [SetD.or, zeroS]
theorem not_ne {s : SetD} (hs : SetIn s) (h : s ≠ allD) : s.not ≠ zeroS := by
  intro e
  apply h
  refine SetD.ext hs SetIn.all fun c hc => ?_
  have := SetD.has_not hs c
  rw [e, zeroS_has] at this
  rw [SetD.has_all]
  cases hh : s.has c with
  | true => rfl
  | false => rw [hh] at this; cases this
theorem of_all {c : Nat} (hc : c < 256) : ofD c ≠ allD := by
  intro e
  have h := of_has hc (d := (c + 1) % 256) (by omega)
  rw [e, SetD.has_all, eq_comm, decide_eq_true_iff] at h
  omega
theorem name_small2 {c : Nat} (hc : c < 256) : (nameD c).length ≤ 4 := (nameD_len c).2
theorem size_one (z : SetD) : sizeD (oneD z) = 1 := sizeD_one z
theorem parse_name {c : Nat} (hc : c < 256) : parseD (nameD c) = (oneD (ofD c), (0, 0)) :=
  good_one (k := 1) (DCat.alt (DPiece.one (.atom (.byte (byte_name hc).1 (byte_name hc).2)))) (by have := name_small2 hc; omega) (by decide) (by rw [size_one]; decide)
theorem parse_text {s : SetD} (hs : SetIn s) (h0 : s ≠ zeroS) : ((textD s).length ≤ 512 → parseD (textD s) = (oneD s, (0, 0))) ∧ (512 < (textD s).length → parseD (textD s) = (noneD, (2, 0))) := by
  refine ⟨fun hl => good_one (k := 1) (DCat.alt (DPiece.one (.atom (atom_text hs h0)))) hl (by decide) (by rw [size_one]; decide), fun hl => ?_⟩
  unfold parseD; rw [if_pos hl]
theorem parse_turned {c : Nat} (hc : c < 256) : parseD (91 :: 94 :: (nameD c ++ [93])) = (oneD (ofD c).not, (0, 0)) := by
  have hi : DItems (nameD c) zeroS (ofD c) := by
    have h := DItems.cons (z := zeroS) (.one (byte_name hc).1) (.nil _)
    rw [List.append_nil, range_one hc, or_zero] at h
    exact h
  refine good_one (k := 1) (DCat.alt (DPiece.one (.atom (.set (.neg hi (not_ne (of_in hc) (of_all hc))))))) ?_ (by decide) (by rw [size_one]; decide)
  have := name_small2 hc
  simp; omega
theorem or_not {s : SetD} (hs : SetIn s) : s.or s.not = allD := by
  refine SetD.ext (hs.or (SetIn.not s)) SetIn.all fun c hc => ?_
  rw [SetD.has_or, SetD.has_not hs, SetD.has_all]
  cases s.has c <;> rfl
theorem parse_both {s : SetD} (hs : SetIn s) (h0 : s ≠ zeroS) (h1 : s ≠ allD) (l1 : (textD s).length ≤ 200) (l2 : (textD s.not).length ≤ 200) : parseD (textD s ++ 124 :: textD s.not) = (altD' [oneD s, oneD s.not], (0, 0)) := by
  refine good_one (k := 1) ⟨_, .cons (DPiece.one (.atom (atom_text hs h0))) (.one (DPiece.one (.atom (atom_text (SetIn.not s) (not_ne hs h1))))), rfl⟩ (by simp; omega) (by decide) ?_
  show sizeD (altD' [oneD s, oneD s.not]) ≤ 512
  rw [altD', sizeD, sizeK, sizeK, sizeK, size_one, size_one]; decide
def threeD (s : SetD) (c : Nat) : RgD := catD' [repD (oneD s) 3 3, oneD (ofD c)]
theorem parse_three {s : SetD} {c : Nat} (hc : c < 256) (hs : SetIn s) (h0 : s ≠ zeroS) (l1 : (textD s).length ≤ 200) : parseD (textD s ++ ([123, 51, 125] ++ nameD c)) = (threeD s c, (0, 0)) := by
  have hr : DRep [123, 51, 125] 3 3 := .count (.just (l := [51]) (n := 3) ⟨by decide, by decide, by decide, by decide⟩)
  have hp1 : DPiece (DAlt 0) (textD s ++ [123, 51, 125]) (repD (oneD s) 3 3) := .rep (.atom (atom_text hs h0)) hr
  have hp2 : DPiece (DAlt 0) (nameD c) (oneD (ofD c)) := .atom (.byte (byte_name hc).1 (byte_name hc).2)
  have h2 := name_small2 hc
  rw [← List.append_assoc]
  refine good_one (k := 1) (DCat.alt ⟨_, .cons hp1 (by simpa using DPieces.cons hp2 .nil), rfl⟩) (by simp; omega) (by decide) ?_
  show sizeD (catD' [repD (oneD s) 3 3, oneD (ofD c)]) ≤ 512
  rw [catD', sizeD, sizeK, sizeK, sizeK, size_one, sizeD_rep, size_one]; decide
theorem three_check {s : SetD} {c : Nat} (hc : c < 256) (h0 : s ≠ zeroS) : checkD (threeD s c) 512 = (0, 508) := by
  have hw : wrongD (threeD s c) = 0 := by
    refine wrong_many (.inl rfl) (by simp) ?_
    rw [wrongK, wrong_rep (wrong_one h0) (by decide), if_neg (by decide), wrongK, wrong_one (of_ne hc), if_neg (by decide), wrongK]
  have hs : sizeD (threeD s c) = 4 := by rw [threeD, catD', sizeD, sizeK, sizeK, sizeK, size_one, sizeD_rep, size_one]
  rw [check_size _ _ hw (by rw [hs]; decide), hs]; rfl
theorem parse_void : parseD (textD zeroS) = (noneD, (160, 0)) := by rfl
/-! how deep what is read is -/
theorem adep_cases (n : RgD) : qdep n ≤ adep n ∧ cdep n ≤ qdep n ∧ cdep n ≤ adep n ∧ adep n ≤ 1 + cdep n := by
  obtain ⟨k, s, l, a, b⟩ := n
  unfold adep
  rw [qdep, cdep]
  simp only [RgD.kind]
  by_cases h1 : k = 1
  · subst h1; simp
  · by_cases h3 : k = 3
    · subst h3; simp
    · by_cases h4 : k = 4
      · subst h4; simp
      · by_cases h5 : k = 5
        · subst h5; simp
        · simp [h1, h3, h4, h5]
section
variable {A : List UInt8 → RgD → Prop} {k : Nat} (hA : ∀ l n, A l n → adep n ≤ k)
include hA
theorem DAtom.dep {l : List UInt8} {n : RgD} (h : DAtom A l n) : qdep n ≤ k := by
  cases h with
  | paren h => exact Nat.le_trans (adep_cases n).1 (hA _ _ h)
  | any => rw [oneD, qdep]; simp
  | set h => rw [oneD, qdep]; simp
  | byte h _ => rw [oneD, qdep]; simp
theorem DPiece.dep {l : List UInt8} {n : RgD} (h : DPiece A l n) : qdep n ≤ k := by
  induction h with
  | atom h => exact h.dep hA
  | rep h1 h2 ih => rw [repD, qdep]; simpa [qdepK] using ih
theorem DPieces.dep {l : List UInt8} {n : List RgD} (h : DPieces A l n) : qdepK n ≤ k := by
  induction h with
  | nil => rw [qdepK]; exact Nat.zero_le _
  | cons h1 h2 ih => rw [qdepK]; have := h1.dep hA; omega
theorem DCat.dep {l : List UInt8} {n : RgD} (h : DCat A l n) : cdep n ≤ k := by
  obtain ⟨ns, h1, rfl⟩ := h
  have h2 := h1.dep hA
  match ns, h2 with
  | [], _ => rw [catN', emptyD, cdep]; simp
  | [x], h2 =>
    rw [qdepK, qdepK] at h2
    have := (adep_cases x).2.1
    show cdep x ≤ k
    omega
  | x :: y :: q, h2 =>
    show cdep (catD' (x :: y :: q)) ≤ k
    rw [catD', cdep]; simpa using h2
theorem DCats.dep {l : List UInt8} {n : List RgD} (h : DCats A l n) : cdepK n ≤ k := by
  induction h with
  | one h => rw [cdepK, cdepK]; have := h.dep hA; omega
  | cons h1 h2 ih => rw [cdepK]; have := h1.dep hA; omega
end
theorem DAlt.dep : ∀ {k : Nat} {l : List UInt8} {n : RgD}, DAlt k l n → adep n ≤ k
  | 0, _, _, h => h.elim
  | k + 1, l, n, ⟨ns, h1, e⟩ => by
    have h2 := h1.dep (fun l n h => DAlt.dep h)
    subst e
    match ns, h1, h2 with
    | [], h1, _ => cases h1
    | [x], _, h2 =>
      rw [cdepK, cdepK] at h2
      have := (adep_cases x).2.2.2
      show adep x ≤ k + 1
      omega
    | x :: y :: q, _, h2 =>
      show adep (altD' (x :: y :: q)) ≤ k + 1
      unfold adep
      rw [altD', cdep]
      simp only [RgD.kind]
      simp; omega
/-- What is read is written as a text that is read as the same, if that isn't too long. -/
theorem again_law {t : List UInt8} (hi : insD (parseD t).1) (h : (parseD t).2.1 = 0) (hl : (textR (parseD t).1).length ≤ 512) : parseD (textR (parseD t).1) = (normD (parseD t).1, (0, 0)) := by
  obtain ⟨h1, h2⟩ := parse_ok h
  have h3 := (parse_sound h).2.2.1
  exact good_one (write_a h1 hi) hl h3.dep (by rw [norm_size]; exact h2)
end Go.Proofs.Ytkpdnpcmeadggaa
