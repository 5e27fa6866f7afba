/- The plain laws of the scanner: nothing is lost; there and back; two texts. No program. -/
import Derived.Test.YtniofdklhlbphaaDoorLxM
namespace Go.Proofs.YtniofdklhlbphaaDoor
open Go Go.E
set_option linter.unusedVariables false
set_option linter.unusedSimpArgs false
set_option maxRecDepth 10000
theorem head_nil {p : UInt8 → Bool} {y : List UInt8} (h : ∀ u, y.head? = some u → p u = false) : y.takeWhile p = [] := by
  cases y with
  | nil => rfl
  | cons u y => rw [List.takeWhile_cons, h u rfl]; rfl
theorem tw_all {p : UInt8 → Bool} (l : List UInt8) : ∀ u ∈ l.takeWhile p, p u = true := fun u hu => by
  induction l with
  | nil => simp at hu
  | cons x l ih =>
    rw [List.takeWhile_cons] at hu
    split at hu
    · rcases List.mem_cons.1 hu with rfl | h
      · assumption
      · exact ih h
    · simp at hu
theorem tw_app {p : UInt8 → Bool} {w y : List UInt8} (h : ∀ u ∈ w, p u = true) (hy : ∀ u, y.head? = some u → p u = false) : (w ++ y).takeWhile p = w := by
  rw [List.takeWhile_append_of_pos h, head_nil hy, List.append_nil]
theorem tw_drop {p : UInt8 → Bool} (l : List UInt8) : l.takeWhile p ++ l.drop (l.takeWhile p).length = l := by
  induction l with
  | nil => rfl
  | cons x l ih =>
    rw [List.takeWhile_cons]
    split
    · rw [List.length_cons, List.drop_succ_cons, List.cons_append, ih]
    · rfl
/-- What a token's text is read as, alone and before a blank. -/
structure Front (l : List UInt8) (k : Nat) (w : List UInt8) (n : Nat) : Prop where
  len : n = (showD k w).length
  pos : 1 ≤ n
  five : k ≠ 5
  app : showD k w ++ l.drop n = l
  again : ∀ y : List UInt8, (∀ u, y.head? = some u → u.toNat = 32) → frontD (showD k w ++ y) = (k, w, n, 0)
  gap : ∀ y : List UInt8, gapD false (showD k w ++ y) = 0
theorem gap_zero {c : UInt8} (r : List UInt8) (h1 : c.toNat ≠ 10) (h2 : c.toNat ≠ 32) (h3 : c.toNat ≠ 9) (h4 : c.toNat ≠ 13) (h5 : c.toNat ≠ 35) : gapD false (c :: r) = 0 := by
  rw [gapD, if_neg h1, if_neg (by simp [h2, h3, h4]), if_neg h5]
theorem letB_rng {u : UInt8} (h : letB u = true) : 65 ≤ u.toNat := by
  unfold letB at h
  simp at h
  omega
theorem digB_rng {u : UInt8} (h : digB u = true) : 48 ≤ u.toNat := by
  unfold digB at h
  simp at h
  omega
theorem word_32 {u : UInt8} (h : u.toNat = 32 ∨ u.toNat = 10) : wordB u = false := by
  unfold wordB letB digB
  simp
  omega
theorem dig_32 {u : UInt8} (h : u.toNat = 32 ∨ u.toNat = 10) : digB u = false := by
  unfold digB
  simp
  omega
theorem sign_front : ∀ s ∈ signsL, ∀ y, frontD (s ++ y) = (4, s, s.length, 0) ∧ gapD false (s ++ y) = 0 := by
  intro s hs y
  simp only [signsL, List.mem_cons, List.not_mem_nil, or_false] at hs
  rcases hs with rfl | rfl | rfl | rfl | rfl | rfl | rfl | rfl | rfl | rfl | rfl | rfl | rfl | rfl <;> exact ⟨rfl, gap_zero _ (by decide) (by decide) (by decide) (by decide) (by decide)⟩
theorem frontOf {l : List UInt8} {k : Nat} {w : List UInt8} {n : Nat} (h : frontD l = (k, w, n, 0)) : Front l k w n := by
  cases l with
  | nil => simp [frontD] at h
  | cons c r =>
    rw [frontD] at h
    by_cases h1 : letB c = true
    · rw [if_pos h1] at h
      split at h
      · simp at h
      rename_i h24
      obtain ⟨rfl, hw, hn⟩ : 1 = k ∧ (c :: r).takeWhile wordB = w ∧ ((c :: r).takeWhile wordB).length = n := by simpa using h
      rw [hw] at hn h24
      have hs : showD 1 w = w := rfl
      have hc : wordB c = true := by unfold wordB; rw [h1]; rfl
      have hall : ∀ u ∈ w, wordB u = true := fun u hu => tw_all _ u (hw ▸ hu)
      obtain ⟨w', hw'⟩ : ∃ w', w = c :: w' := by rw [← hw, List.takeWhile_cons, hc]; exact ⟨_, rfl⟩
      have hr := letB_rng h1
      refine ⟨by rw [hs, hn], by rw [← hn, hw']; simp, by decide, ?_, fun y hy => ?_, fun y => ?_⟩
      · rw [hs, ← hn, ← hw]; exact tw_drop _
      · rw [hs]
        have ht : (w ++ y).takeWhile wordB = w := tw_app hall (fun u hu => word_32 (.inl (hy u hu)))
        have : frontD (w ++ y) = if letB c = true then (if 24 < ((w ++ y).takeWhile wordB).length then (0, [], 0, 2) else (1, (w ++ y).takeWhile wordB, ((w ++ y).takeWhile wordB).length, 0)) else frontD (w ++ y) := by
          rw [if_pos h1, hw', List.cons_append, frontD, if_pos h1]
        rw [this, if_pos h1, ht, if_neg h24, hn]
      · rw [hs, hw', List.cons_append]
        exact gap_zero _ (by omega) (by omega) (by omega) (by omega) (by omega)
    rw [if_neg h1] at h
    by_cases h2 : digB c = true
    · rw [if_pos h2] at h
      split at h
      · simp at h
      rename_i h20
      split at h
      · simp at h
      rename_i h0
      obtain ⟨rfl, hw, hn⟩ : 2 = k ∧ (c :: r).takeWhile digB = w ∧ ((c :: r).takeWhile digB).length = n := by simpa using h
      rw [hw] at hn h20 h0
      have hs : showD 2 w = w := rfl
      have hall : ∀ u ∈ w, digB u = true := fun u hu => tw_all _ u (hw ▸ hu)
      obtain ⟨w', hw'⟩ : ∃ w', w = c :: w' := by rw [← hw, List.takeWhile_cons, h2]; exact ⟨_, rfl⟩
      have hr := digB_rng h2
      have hr2 : c.toNat ≤ 57 := by unfold digB at h2; simp at h2; omega
      refine ⟨by rw [hs, hn], by rw [← hn, hw']; simp, by decide, ?_, fun y hy => ?_, fun y => ?_⟩
      · rw [hs, ← hn, ← hw]; exact tw_drop _
      · rw [hs]
        have ht : (w ++ y).takeWhile digB = w := tw_app hall (fun u hu => dig_32 (.inl (hy u hu)))
        have : frontD (w ++ y) = if 20 < ((w ++ y).takeWhile digB).length then (0, [], 0, 2) else if 1 < ((w ++ y).takeWhile digB).length ∧ c.toNat = 48 then (0, [], 0, 5) else (2, (w ++ y).takeWhile digB, ((w ++ y).takeWhile digB).length, 0) := by
          rw [hw', List.cons_append, frontD, if_neg h1, if_pos h2]
        rw [this, ht, if_neg h20, if_neg h0, hn]
      · rw [hs, hw', List.cons_append]
        exact gap_zero _ (by omega) (by omega) (by omega) (by omega) (by omega)
    rw [if_neg h2] at h
    by_cases h3 : c.toNat = 47
    · rw [if_pos h3] at h
      split at h
      · simp at h
      rename_i v hv
      obtain ⟨rfl, rfl, hn⟩ : 3 = k ∧ v = w ∧ v.length + 2 = n := by simpa using h
      have hc : c = 47 := UInt8.toNat_inj.1 (by simpa using h3)
      subst hc
      have hs : showD 3 v = 47 :: (v ++ [47]) := rfl
      unfold patD at hv
      split at hv
      · simp at hv
      rename_i x r' hr'
      split at hv
      · rename_i hx
        have hx : x = 47 := UInt8.toNat_inj.1 (by simpa using hx)
        subst hx
        have hv : r.takeWhile patB = v := by simpa using hv
        rw [hv] at hr'
        have hr : r = v ++ 47 :: r' := by rw [← hr', ← hv]; exact (tw_drop r).symm
        have hall : ∀ u ∈ v, patB u = true := fun u hu => tw_all _ u (hv ▸ hu)
        refine ⟨by rw [hs, ← hn]; simp, by omega, by decide, ?_, fun y hy => ?_, fun y => ?_⟩
        · rw [hs, hr, ← hn, List.drop_succ_cons]
          rw [show v ++ 47 :: r' = (v ++ [47]) ++ r' by simp, List.drop_left' (by simp)]
          simp
        · rw [hs]
          have hp : patD (v ++ 47 :: y) = some v := by
            have ht : (v ++ 47 :: y).takeWhile patB = v := tw_app hall (fun u hu => by
              have : u = 47 := by simpa using hu.symm
              subst this; rfl)
            unfold patD
            rw [ht, List.drop_left]
            rfl
          rw [List.cons_append, List.append_assoc, frontD, if_neg h1, if_neg h2, if_pos h3]
          rw [show v ++ ([47] ++ y) = v ++ 47 :: y from rfl, hp, ← hn]
        · rw [hs, List.cons_append]
          exact gap_zero _ (by decide) (by decide) (by decide) (by decide) (by decide)
      · simp at hv
    rw [if_neg h3] at h
    split at h
    · rename_i s hf
      obtain ⟨rfl, rfl, hn⟩ : 4 = k ∧ s = w ∧ s.length = n := by simpa using h
      have hm := List.mem_of_find?_eq_some hf
      have hp := List.find?_some hf
      have hs : showD 4 s = s := rfl
      have h1 : 1 ≤ s.length := by
        have : ∀ s ∈ signsL, 1 ≤ s.length := by decide
        exact this s hm
      refine ⟨by rw [hs, hn], by omega, by decide, ?_, fun y _ => by rw [hs, ← hn]; exact (sign_front s hm y).1, fun y => (sign_front s hm y).2⟩
      rw [hs, ← hn]
      have := List.isPrefixOf_iff_prefix.1 hp
      obtain ⟨t, ht⟩ := this
      rw [← ht, List.drop_left]
    · simp at h
/-- The tokens of a text, each where it stands, what is between them is no token. -/
def WholeD : Nat → List UInt8 → List TokD → Prop
  | _, _, [] => False
  | a, l, t :: ts => t.a = a + gapD false l ∧ ((t.kind = 5 ∧ t.text = [] ∧ ts = [] ∧ l.drop (gapD false l) = []) ∨
     ∃ n, l.drop (gapD false l) ≠ [] ∧ frontD (l.drop (gapD false l)) = (t.kind, t.text, n, 0) ∧ WholeD (t.a + n) ((l.drop (gapD false l)).drop n) ts)
theorem scan_whole : ∀ (k a : Nat) (o : List TokD) (l : List UInt8) (r : List TokD) (p : Nat), l.length < k → scanF k a o l = (r, p, 0) → ∃ ts, r = o ++ ts ∧ WholeD a l ts
  | 0, a, o, l, r, p, h, _ => absurd h (Nat.not_lt_zero _)
  | k + 1, a, o, l, r, p, hk, h => by
    rw [scanF] at h
    split at h
    · rename_i h0
      have : o ++ [⟨5, a + gapD false l, []⟩] = r := congrArg (·.1) h
      exact ⟨_, this.symm, rfl, .inl ⟨rfl, rfl, rfl, h0⟩⟩
    rename_i h0
    split at h
    · simp at h
    split at h
    · rename_i hc
      have : (frontD (l.drop (gapD false l))).2.2.2 = 0 := by have := congrArg (·.2.2) h; simpa using this
      exact absurd this hc
    rename_i hc
    obtain ⟨kd, w, n, c, hf⟩ : ∃ kd w n c, frontD (l.drop (gapD false l)) = (kd, w, n, c) := ⟨_, _, _, _, rfl⟩
    rw [hf] at h hc
    have hc : c = 0 := by simpa using hc
    subst hc
    dsimp only at h
    have hF := frontOf hf
    have hl : ((l.drop (gapD false l)).drop n).length < k := by
      have := hF.pos
      have h1 : (l.drop (gapD false l)).length ≠ 0 := fun e => h0 (List.eq_nil_of_length_eq_zero e)
      simp only [List.length_drop] at h1 ⊢
      omega
    obtain ⟨ts, e, hw⟩ := scan_whole k _ _ _ r p hl h
    exact ⟨⟨kd, a + gapD false l, w⟩ :: ts, by rw [e]; simp, rfl, .inr ⟨n, h0, hf, hw⟩⟩
theorem scan_bad : ∀ (k a : Nat) (o : List TokD) (l : List UInt8) (r : List TokD) (p c : Nat), scanF k a o l = (r, p, c) → c ≠ 0 → r = []
  | 0, a, o, l, r, p, c, h, hc => by rw [scanF] at h; exact (congrArg (·.1) h).symm
  | k + 1, a, o, l, r, p, c, h, hc => by
    rw [scanF] at h
    split at h
    · exact absurd (congrArg (·.2.2) h).symm hc
    split at h
    · exact (congrArg (·.1) h).symm
    split at h
    · exact (congrArg (·.1) h).symm
    exact scan_bad k _ _ _ r p c h hc
theorem whole_len : ∀ (ts : List TokD) (a : Nat) (l : List UInt8), WholeD a l ts → ts.length ≤ l.length + 1 ∧ sumL (showsD ts) ≤ l.length ∧ ∀ t ∈ ts, t.text.length ≤ l.length
  | [], a, l, h => h.elim
  | t :: ts, a, l, ⟨h1, h2⟩ => by
    rcases h2 with ⟨h3, h4, rfl, h5⟩ | ⟨n, h3, h4, h5⟩
    · refine ⟨by simp, ?_, fun u hu => ?_⟩
      · have : showsD [t] = [] := by simp [showsD, h3]
        rw [this]; exact Nat.zero_le _
      · obtain rfl : u = t := by simpa using hu
        rw [h4]; simp
    · have hF := frontOf h4
      obtain ⟨i1, i2, i3⟩ := whole_len ts _ _ h5
      have hp := hF.pos
      have hlen := congrArg List.length hF.app
      rw [List.length_append, ← hF.len] at hlen
      have h0 : (l.drop (gapD false l)).length ≠ 0 := fun e => h3 (List.eq_nil_of_length_eq_zero e)
      have hs : showsD (t :: ts) = showD t.kind t.text :: showsD ts := by simp [showsD, hF.five]
      have ht : t.text.length ≤ (showD t.kind t.text).length := by
        unfold showD; split
        · simp; omega
        · exact Nat.le_refl _
      rw [← hF.len] at ht
      simp only [List.length_drop] at hlen h0 i1 i2 i3
      refine ⟨by rw [List.length_cons]; omega, ?_, fun u hu => ?_⟩
      · rw [hs]
        have : sumL (showD t.kind t.text :: showsD ts) = (showD t.kind t.text).length + sumL (showsD ts) := by simp [sumL]
        rw [this, ← hF.len]
        omega
      · rcases List.mem_cons.1 hu with rfl | hu
        · omega
        · have := i3 u hu; omega
theorem gap_32 (b : List UInt8) (hb : b = [] ∨ b = [32]) (l : List UInt8) : gapD false (b ++ l) = b.length + gapD false l := by
  rcases hb with rfl | rfl
  · simp
  · rw [List.cons_append, gapD]
    simp
theorem drop_32 (b : List UInt8) (l : List UInt8) (g : Nat) : (b ++ l).drop (b.length + g) = l.drop g := by
  rw [← List.drop_drop, List.drop_left]
theorem join_cons (x : List UInt8) (r : List (List UInt8)) : ∃ b, (b = [] ∨ b = [32]) ∧ (r = [] → b = []) ∧ (r ≠ [] → b = [32]) ∧ joinD (x :: r) = x ++ (b ++ joinD r) := by
  cases r with
  | nil => exact ⟨[], .inl rfl, fun _ => rfl, fun h => absurd rfl h, by simp [joinD]⟩
  | cons y r => exact ⟨[32], .inr rfl, (fun h => nomatch h), fun _ => rfl, by simp [joinD]⟩
theorem whole_back : ∀ (ts : List TokD) (a : Nat) (l : List UInt8), WholeD a l ts → ∀ (b : List UInt8) (k p : Nat) (o : List TokD), (b = [] ∨ b = [32]) → (b ++ joinD (showsD ts)).length < k → o.length + ts.length ≤ 8193 →
    ∃ ts', scanF k p o (b ++ joinD (showsD ts)) = (o ++ ts', 0, 0) ∧ ts'.map keyD = ts.map keyD
  | [], a, l, h => h.elim
  | t :: ts, a, l, ⟨h1, h2⟩ => fun b k p o hb hk ho => by
    obtain ⟨k, rfl⟩ : ∃ j, k = j + 1 := ⟨k - 1, by omega⟩
    rcases h2 with ⟨h3, h4, rfl, h5⟩ | ⟨n, h3, h4, h5⟩
    · have hs : showsD [t] = [] := by simp [showsD, h3]
      rw [hs] at hk ⊢
      have hg : gapD false (b ++ joinD []) = b.length := by rw [gap_32 b hb]; rfl
      rw [scanF, hg, if_pos (by simp [joinD])]
      exact ⟨_, rfl, by simp [keyD, h3, h4]⟩
    · have hF := frontOf h4
      have hs : showsD (t :: ts) = showD t.kind t.text :: showsD ts := by simp [showsD, hF.five]
      obtain ⟨b2, hb2, hb3, hb4, hj⟩ := join_cons (showD t.kind t.text) (showsD ts)
      rw [hs, hj] at hk ⊢
      have hg : gapD false (b ++ (showD t.kind t.text ++ (b2 ++ joinD (showsD ts)))) = b.length := by rw [gap_32 b hb, hF.gap]; rfl
      have hst : ∀ u, (b2 ++ joinD (showsD ts)).head? = some u → u.toNat = 32 := fun u hu => by
        by_cases he : showsD ts = []
        · rw [hb3 he, he] at hu; simp [joinD] at hu
        · rw [hb4 he] at hu
          obtain rfl : (32 : UInt8) = u := by simpa using hu
          rfl
      have hn := hF.len
      have hp := hF.pos
      have hne : showD t.kind t.text ++ (b2 ++ joinD (showsD ts)) ≠ [] := fun e => by
        have := congrArg List.length e
        rw [List.length_append, ← hn] at this
        simp at this
        omega
      have hfr := hF.again (b2 ++ joinD (showsD ts)) hst
      rw [scanF, hg]
      rw [show (b ++ (showD t.kind t.text ++ (b2 ++ joinD (showsD ts)))).drop b.length = showD t.kind t.text ++ (b2 ++ joinD (showsD ts)) from List.drop_left]
      rw [if_neg hne, hfr]
      have hoo : o.length ≠ 8192 := by
        have : 1 ≤ ts.length := by
          cases ts with
          | nil => exact h5.elim
          | cons _ _ => simp
        rw [List.length_cons] at ho
        omega
      rw [if_neg hoo, if_neg (by simp)]
      dsimp only
      rw [show (showD t.kind t.text ++ (b2 ++ joinD (showsD ts))).drop n = b2 ++ joinD (showsD ts) by rw [hn, List.drop_left]]
      obtain ⟨ts', e1, e2⟩ := whole_back ts _ _ h5 b2 k (p + b.length + n) (o ++ [⟨t.kind, p + b.length, t.text⟩]) hb2 (by
        simp only [List.length_append] at hk ⊢
        omega) (by
        simp only [List.length_append, List.length_cons, List.length_nil] at ho ⊢
        omega)
      exact ⟨⟨t.kind, p + b.length, t.text⟩ :: ts', by rw [e1]; simp, by rw [List.map_cons, List.map_cons, e2]; rfl⟩
theorem join_bound (l : List TokD) {m : Nat} (h1 : l.length ≤ m + 1) (h2 : sumL (showsD l) ≤ m) : (joinD (showsD l)).length ≤ 2 * m + 1 := by
  have := joinD_len (showsD l)
  have := showsD_len l
  omega
/-- There and back. -/
theorem scan_back {tx : List UInt8} {l : List TokD} {a : Nat} (h : scanD tx = (l, a, 0)) (hl : tx.length ≤ 3000) : (joinD (showsD l)).length ≤ 6001 ∧ sumL (showsD l) + l.length ≤ 6001 ∧ (∀ t ∈ l, t.text.length ≤ 3000) ∧ ∃ m, scanD (joinD (showsD l)) = (m, 0, 0) ∧ m.map keyD = l.map keyD := by
  rw [scanD, if_neg (by omega)] at h
  obtain ⟨ts, e, hw⟩ := scan_whole _ _ _ _ _ _ (Nat.lt_succ_self _) h
  rw [List.nil_append] at e
  subst e
  obtain ⟨i1, i2, i3⟩ := whole_len _ _ _ hw
  have hb := join_bound l i1 i2
  have hb2 : (joinD (showsD l)).length ≤ 6001 := by omega
  refine ⟨hb2, by omega, fun t ht => by have := i3 t ht; omega, ?_⟩
  obtain ⟨m, e1, e2⟩ := whole_back l 0 tx hw [] ((joinD (showsD l)).length + 1) 0 [] (.inl rfl) (by simp) (by simp; omega)
  refine ⟨m, ?_, e2⟩
  rw [scanD, if_neg (by omega)]
  exact e1
theorem tw_nl {p : UInt8 → Bool} (h : p 10 = false) (b : List UInt8) : ∀ l : List UInt8, (l ++ 10 :: b).takeWhile p = l.takeWhile p
  | [] => by simp [h]
  | c :: l => by
    rw [List.cons_append, List.takeWhile_cons, List.takeWhile_cons, tw_nl h b l]
theorem pat_nl (b r : List UInt8) : patD (r ++ 10 :: b) = patD r := by
  unfold patD
  rw [tw_nl (by rfl) b r]
  have hle := takeWhile_le patB r
  by_cases he : (r.takeWhile patB).length = r.length
  · rw [he, List.drop_left, List.drop_length]
    rfl
  · obtain ⟨x, r', hr⟩ : ∃ x r', r.drop (r.takeWhile patB).length = x :: r' := by
      cases hd : r.drop (r.takeWhile patB).length with
      | nil => have := congrArg List.length hd; simp at this; omega
      | cons x r' => exact ⟨x, r', rfl⟩
    rw [List.drop_append_of_le_length hle, hr]
    rfl
theorem sign_nl (b r : List UInt8) (c : UInt8) : ∀ s ∈ signsL, s.isPrefixOf (c :: r ++ 10 :: b) = s.isPrefixOf (c :: r) := by
  intro s hs
  simp only [signsL, List.mem_cons, List.not_mem_nil, or_false] at hs
  rcases hs with rfl | rfl | rfl | rfl | rfl | rfl | rfl | rfl | rfl | rfl | rfl | rfl | rfl | rfl
  · cases r with
    | nil => simp [List.isPrefixOf]
    | cons d r => simp [List.isPrefixOf]
  all_goals simp [List.isPrefixOf]
theorem find_congr {α : Type} {f g : α → Bool} : ∀ {l : List α}, (∀ x ∈ l, f x = g x) → l.find? f = l.find? g
  | [], _ => rfl
  | x :: l, h => by
    rw [List.find?_cons, List.find?_cons, h x (by simp), find_congr (fun y hy => h y (by simp [hy]))]
theorem front_nl (b : List UInt8) {l : List UInt8} (h : l ≠ []) : frontD (l ++ 10 :: b) = frontD l := by
  cases l with
  | nil => exact absurd rfl h
  | cons c r =>
    have h1 := tw_nl (p := wordB) (by rfl) b (c :: r)
    have h2 := tw_nl (p := digB) (by rfl) b (c :: r)
    have h3 := find_congr (sign_nl b r c)
    have h4 := pat_nl b r
    rw [List.cons_append] at h1 h2 h3 ⊢
    rw [frontD, frontD, h1, h2, h3, h4]
theorem gap_nl (b : List UInt8) : ∀ (l : List UInt8) (n : Bool), gapD n (l ++ 10 :: b) = if l.drop (gapD n l) = [] then l.length + 1 + gapD false b else gapD n l
  | [], n => by
    have : gapD n [] = 0 := by cases n <;> rfl
    rw [this]
    simp [gapD]
  | c :: r, n => by
    have hd : ∀ g, (c :: r).drop (1 + g) = r.drop g := fun g => by rw [Nat.add_comm, List.drop_succ_cons]
    rw [List.cons_append, gapD, gapD]
    split
    · rw [hd, gap_nl b r false]
      split
      · rw [List.length_cons]; omega
      · rfl
    · split
      · rw [hd, gap_nl b r n]
        split
        · rw [List.length_cons]; omega
        · rfl
      · split
        · rw [hd, gap_nl b r true]
          split
          · rw [List.length_cons]; omega
          · rfl
        · simp
theorem scan_fuel : ∀ (k k' a : Nat) (o : List TokD) (l : List UInt8), l.length < k → l.length < k' → scanF k a o l = scanF k' a o l
  | 0, _, _, _, _, h, _ => absurd h (Nat.not_lt_zero _)
  | _ + 1, 0, _, _, _, _, h => absurd h (Nat.not_lt_zero _)
  | k + 1, k' + 1, a, o, l, h, h' => by
    rw [scanF, scanF]
    split
    · rfl
    rename_i h0
    split
    · rfl
    split
    · rfl
    rename_i hc
    obtain ⟨kd, w, n, c, hf⟩ : ∃ kd w n c, frontD (l.drop (gapD false l)) = (kd, w, n, c) := ⟨_, _, _, _, rfl⟩
    rw [hf] at hc ⊢
    have hc : c = 0 := by simpa using hc
    subst hc
    have hp := (frontOf hf).pos
    have h1 : (l.drop (gapD false l)).length ≠ 0 := fun e => h0 (List.eq_nil_of_length_eq_zero e)
    have hl : ((l.drop (gapD false l)).drop n).length < l.length := by
      simp only [List.length_drop] at h1 ⊢
      omega
    dsimp only
    exact scan_fuel k k' _ _ _ (by omega) (by omega)
theorem scan_nl (b : List UInt8) : ∀ (k p : Nat) (o : List TokD) (l : List UInt8) (r : List TokD) (q c : Nat), l.length < k → o.length + l.length < 8192 → scanF k p o l = (r, q, c) → ∀ k' k'', (l ++ 10 :: b).length < k' → b.length < k'' →
    (c ≠ 0 → (scanF k' p o (l ++ 10 :: b)).2.2 ≠ 0) ∧ (c = 0 → r ≠ [] ∧ scanF k' p o (l ++ 10 :: b) = scanF k'' (p + l.length + 1) r.dropLast b)
  | 0, _, _, _, _, _, _, h, _, _ => absurd h (Nat.not_lt_zero _)
  | k + 1, p, o, l, r, q, c, hk, ho, h => fun k' k'' hk' hk'' => by
    obtain ⟨k', rfl⟩ : ∃ j, k' = j + 1 := ⟨k' - 1, by omega⟩
    have hgl := gapD_le l false
    rw [scanF] at h
    split at h
    · rename_i h0
      have e1 : o ++ [⟨5, p + gapD false l, []⟩] = r := congrArg (·.1) h
      have e2 : 0 = c := congrArg (·.2.2) h
      subst e1 e2
      refine ⟨fun h => absurd rfl h, fun _ => ⟨by simp, ?_⟩⟩
      rw [List.dropLast_concat]
      have hb : b.length < k' + 1 := by rw [List.length_append, List.length_cons] at hk'; omega
      rw [scan_fuel k'' (k' + 1) _ _ _ hk'' hb]
      rw [scanF, scanF, gap_nl, if_pos h0]
      have hd : (l ++ 10 :: b).drop (l.length + 1 + gapD false b) = b.drop (gapD false b) := by
        rw [← List.drop_drop]
        congr 1
        rw [show l ++ 10 :: b = (l ++ [10]) ++ b by simp, List.drop_left' (by simp)]
      rw [hd, show p + (l.length + 1 + gapD false b) = p + l.length + 1 + gapD false b by omega]
    rename_i h0
    have h1 : (l.drop (gapD false l)).length ≠ 0 := fun e => h0 (List.eq_nil_of_length_eq_zero e)
    rw [if_neg (by omega)] at h
    have hg : gapD false (l ++ 10 :: b) = gapD false l := by rw [gap_nl, if_neg h0]
    have hd : (l ++ 10 :: b).drop (gapD false l) = l.drop (gapD false l) ++ 10 :: b := List.drop_append_of_le_length hgl
    rw [scanF, hg, hd, if_neg (by simp), if_neg (by omega), front_nl b h0]
    split at h
    · rename_i hc
      have e2 : (frontD (l.drop (gapD false l))).2.2.2 = c := congrArg (·.2.2) h
      rw [if_pos hc]
      exact ⟨fun _ => hc, fun e => absurd (e2.trans e) hc⟩
    rename_i hc
    rw [if_neg hc]
    obtain ⟨kd, w, n, c', hf⟩ : ∃ kd w n c, frontD (l.drop (gapD false l)) = (kd, w, n, c) := ⟨_, _, _, _, rfl⟩
    rw [hf] at hc h ⊢
    have hc : c' = 0 := by simpa using hc
    subst hc
    dsimp only at h ⊢
    have hF := frontOf hf
    have hp := hF.pos
    have hn : n ≤ (l.drop (gapD false l)).length := by
      have := congrArg List.length hF.app
      rw [List.length_append, ← hF.len] at this
      omega
    rw [List.drop_append_of_le_length hn]
    simp only [List.length_drop] at h1 hn
    have hlen : ((l.drop (gapD false l)).drop n).length = l.length - gapD false l - n := by rw [List.length_drop, List.length_drop]
    have := scan_nl b k _ _ _ r q c (by rw [hlen]; omega) (by rw [hlen, List.length_append]; simp only [List.length_cons, List.length_nil]; omega) h k' k'' (by
      rw [List.length_append, hlen]
      rw [List.length_append] at hk'
      omega) hk''
    rw [hlen] at this
    rw [show p + gapD false l + n + (l.length - gapD false l - n) + 1 = p + l.length + 1 by omega] at this
    exact this
theorem scan_shift : ∀ (k p q : Nat) (o o' : List TokD) (l : List UInt8), l.length < k → o.length + l.length < 8192 → o'.length + l.length < 8192 → (scanF k p o l).2.2 = (scanF k q o' l).2.2 ∧ ((scanF k p o l).2.2 ≠ 0 → (scanF k p o l).2.1 + q = (scanF k q o' l).2.1 + p) ∧ ((scanF k p o l).2.2 = 0 → ∃ ts ts', (scanF k p o l).1 = o ++ ts ∧ (scanF k q o' l).1 = o' ++ ts' ∧ ts.map keyD = ts'.map keyD)
  | 0, _, _, _, _, _, h, _, _ => absurd h (Nat.not_lt_zero _)
  | k + 1, p, q, o, o', l, hk, ho, ho' => by
    rw [scanF, scanF]
    split
    · exact ⟨rfl, fun h => absurd rfl h, fun _ => ⟨_, _, rfl, rfl, rfl⟩⟩
    rename_i h0
    have h1 : (l.drop (gapD false l)).length ≠ 0 := fun e => h0 (List.eq_nil_of_length_eq_zero e)
    rw [if_neg (show ¬ o.length = 8192 by omega), if_neg (show ¬ o'.length = 8192 by omega)]
    split
    · rename_i hc
      exact ⟨rfl, fun _ => by dsimp only; omega, fun h => absurd h hc⟩
    rename_i hc
    obtain ⟨kd, w, n, c', hf⟩ : ∃ kd w n c, frontD (l.drop (gapD false l)) = (kd, w, n, c) := ⟨_, _, _, _, rfl⟩
    rw [hf] at hc ⊢
    have hc : c' = 0 := by simpa using hc
    subst hc
    dsimp only
    have hp := (frontOf hf).pos
    have hlen : ((l.drop (gapD false l)).drop n).length = l.length - gapD false l - n := by rw [List.length_drop, List.length_drop]
    simp only [List.length_drop] at h1
    obtain ⟨i1, i2, i3⟩ := scan_shift k (p + gapD false l + n) (q + gapD false l + n) (o ++ [⟨kd, p + gapD false l, w⟩]) (o' ++ [⟨kd, q + gapD false l, w⟩]) ((l.drop (gapD false l)).drop n) (by omega) (by rw [hlen, List.length_append]; simp only [List.length_cons, List.length_nil]; omega) (by rw [hlen, List.length_append]; simp only [List.length_cons, List.length_nil]; omega)
    refine ⟨i1, fun h => by have := i2 h; omega, fun h => ?_⟩
    obtain ⟨ts, ts', e1, e2, e3⟩ := i3 h
    exact ⟨_ :: ts, _ :: ts', by rw [e1, List.append_assoc]; rfl, by rw [e2, List.append_assoc]; rfl, by rw [List.map_cons, List.map_cons, e3]; rfl⟩
theorem scan_len : ∀ (k a : Nat) (o : List TokD) (l : List UInt8), l.length < k → (scanF k a o l).1.length ≤ o.length + l.length + 1
  | 0, _, _, _, h => absurd h (Nat.not_lt_zero _)
  | k + 1, a, o, l, hk => by
    rw [scanF]
    split
    · simp
    rename_i h0
    have h1 : (l.drop (gapD false l)).length ≠ 0 := fun e => h0 (List.eq_nil_of_length_eq_zero e)
    split
    · simp
    split
    · simp
    rename_i hc
    obtain ⟨kd, w, n, c', hf⟩ : ∃ kd w n c, frontD (l.drop (gapD false l)) = (kd, w, n, c) := ⟨_, _, _, _, rfl⟩
    rw [hf] at hc ⊢
    have hc : c' = 0 := by simpa using hc
    subst hc
    dsimp only
    have hp := (frontOf hf).pos
    have hlen : ((l.drop (gapD false l)).drop n).length = l.length - gapD false l - n := by rw [List.length_drop, List.length_drop]
    simp only [List.length_drop] at h1
    have := scan_len k (a + gapD false l + n) (o ++ [⟨kd, a + gapD false l, w⟩]) ((l.drop (gapD false l)).drop n) (by omega)
    rw [hlen, List.length_append] at this
    simp only [List.length_cons, List.length_nil] at this
    omega
/-- Two texts with a line end between. -/
theorem scan_pairs {a b : List UInt8} {x y z : List TokD} {fa ga ha fc gc hc : Nat} (h1 : scanD a = (x, fa, fc)) (h2 : scanD b = (y, ga, gc)) (h3 : scanD (a ++ 10 :: b) = (z, ha, hc)) (hla : a.length ≤ 1500) (hlb : b.length ≤ 1500) :
    (fc ≠ 0 → hc ≠ 0) ∧ (fc = 0 → gc ≠ 0 → hc = gc ∧ ha = ga + a.length + 1) ∧ (fc = 0 → gc = 0 → hc = 0 ∧ x ≠ [] ∧ z.map keyD = (x.dropLast ++ y).map keyD) ∧ x.length ≤ 1501 ∧ y.length ≤ 1501 ∧ z.length ≤ 3002 := by
  have hlc : (a ++ 10 :: b).length = a.length + b.length + 1 := by simp; omega
  rw [scanD, if_neg (by omega)] at h1 h2 h3
  have l1 := scan_len _ 0 [] a (Nat.lt_succ_self _)
  have l2 := scan_len _ 0 [] b (Nat.lt_succ_self _)
  have l3 := scan_len _ 0 [] (a ++ 10 :: b) (Nat.lt_succ_self _)
  rw [Nat.succ_eq_add_one, h1] at l1
  rw [Nat.succ_eq_add_one, h2] at l2
  rw [Nat.succ_eq_add_one, h3] at l3
  simp only [List.length_nil] at l1 l2 l3
  obtain ⟨i1, i2⟩ := scan_nl b _ _ _ _ _ _ _ (Nat.lt_succ_self _) (by simp; omega) h1 ((a ++ 10 :: b).length + 1) (b.length + 1) (Nat.lt_succ_self _) (Nat.lt_succ_self _)
  rw [h3] at i1
  refine ⟨i1, fun hf hg => ?_, fun hf hg => ?_, by omega, by omega, by omega⟩
  · obtain ⟨_, e⟩ := i2 hf
    rw [h3] at e
    have hs := scan_shift (b.length + 1) (0 + a.length + 1) 0 x.dropLast [] b (Nat.lt_succ_self _) (by rw [List.length_dropLast]; omega) (by simp; omega)
    rw [← e, h2] at hs
    obtain ⟨s1, s2, _⟩ := hs
    have s1 : hc = gc := s1
    have s2 := s2 (by rw [s1]; exact hg)
    exact ⟨s1, by dsimp only at s2; omega⟩
  · obtain ⟨hx, e⟩ := i2 hf
    rw [h3] at e
    have hs := scan_shift (b.length + 1) (0 + a.length + 1) 0 x.dropLast [] b (Nat.lt_succ_self _) (by rw [List.length_dropLast]; omega) (by simp; omega)
    rw [← e, h2] at hs
    obtain ⟨s1, _, s3⟩ := hs
    have s1 : hc = gc := s1
    obtain ⟨ts, ts', e1, e2, e3⟩ := s3 (by rw [s1]; exact hg)
    refine ⟨s1.trans hg, hx, ?_⟩
    dsimp only at e1 e2
    rw [List.nil_append] at e2
    rw [e1, e2, List.map_append, List.map_append, e3]
end Go.Proofs.YtniofdklhlbphaaDoor
