/- Texts of a walk, one behind the other. -/
import Derived.Lib.IndexMore
import Derived.Shelf.Bits.Mul64
import Derived.Ground.NamesProg
import Derived.Test.YtnapjcnfgdkmcaaGreatDoorMg2
import Derived.Test.YtnapjcnfgdkmcaaGreatDoorMg3
section
/- Contracts of lex: Scan. -/
namespace Go.Proofs.YtnapjcnfgdkmcaaGreatDoor
open Go Go.E
set_option linter.unusedVariables false
set_option linter.unusedSimpArgs false
set_option maxRecDepth 10000
structure TokD where
  kind : Nat
  a : Nat
  text : List UInt8
deriving DecidableEq
def TokD.v (t : TokD) : List Value := tokV t.kind t.a t.text
def toksV (l : List TokD) : List Value := l.flatMap TokD.v
theorem toksV_snoc (l : List TokD) (t : TokD) : toksV (l ++ [t]) = toksV l ++ t.v := by simp [toksV]
theorem toksV_drop : ∀ (l : List TokD) (i : Nat) (t : TokD), l[i]? = some t → ((toksV l).drop (i * 3)).take 3 = t.v
  | [], i, t, h => by simp at h
  | x :: l, 0, t, h => by simp at h; subst h; rfl
  | x :: l, i + 1, t, h => by
    rw [show (i + 1) * 3 = 3 + i * 3 by omega]
    show List.take 3 (List.drop (3 + i * 3) (x.v ++ toksV l)) = _
    rw [← List.drop_drop, List.drop_left' (by rfl)]
    exact toksV_drop l i t (by simpa using h)
def scanF : Nat → Nat → List TokD → List UInt8 → List TokD × Nat × Nat
  | 0, _, _, _ => ([], 0, 0)
  | k + 1, a, out, l => if l.drop (gapD false l) = [] then (out ++ [⟨5, a + gapD false l, []⟩], 0, 0)
    else if out.length = 8192 then ([], a + gapD false l, 2)
    else if (frontD (l.drop (gapD false l))).2.2.2 ≠ 0 then ([], a + gapD false l, (frontD (l.drop (gapD false l))).2.2.2)
    else scanF k (a + gapD false l + (frontD (l.drop (gapD false l))).2.2.1) (out ++ [⟨(frontD (l.drop (gapD false l))).1, a + gapD false l, (frontD (l.drop (gapD false l))).2.1⟩]) ((l.drop (gapD false l)).drop (frontD (l.drop (gapD false l))).2.2.1)
def scanD (tx : List UInt8) : List TokD × Nat × Nat := if 65536 < tx.length then ([], 0, 2) else scanF (tx.length + 1) 0 [] tx
def faultV (code a : Nat) : Value := .agg #[.int .i64 (code : Int), .int .i64 (a : Int)]
section
variable {ro : Ro} {own r : Chs} {K : Value → Ro → Chs → Prop} {g : Chunk → Chs}
set_option maxHeartbeats 4000000 in
theorem scan_ok {tx : List UInt8} (hS : SpOk ro) (hl : tx.length ≤ 100000)
    (hk : ∀ l a code a' c', scanD tx = (l, a, code) → l.length ≤ 8193 → code ≤ 1000 → a ≤ tx.length → l.length ≤ c' → c' ≤ maxLen → K (.tuple #[.slice a' l.length c', faultV code a]) ro (.sl a' l.length c' 111 3 (toksV l) :: own)) :
    CallOk Tryz.prog 56 #[str tx] ro own K := by
  refine CallOk.intro (args := [_]) (rs := [_, _]) T_ok Tryz.func56 Tryz.call56 rfl rfl (by kernel_rfl) rfl rfl ?_
  by_cases hbig : 65536 < tx.length
  · have hk := hk [] 0 2 none 0 (by rw [scanD, if_pos hbig]) (by simp) (by omega) (by omega) (by simp) (Nat.zero_le _)
    repeat (first | exact endA | refine wkA ?_ | refine opB (fun b => ?_) | refine opA (fun a' c' hc1 hc2 => ?_) | (apply GJ.and; exact rfl; intro hg) | (apply GJ.or; exact rfl; intro hg))
    exact Wk.outS (Sup.nilc Sup.auto) (.refl _) hk
  · have hsc : scanD tx = scanF (tx.length + 1) 0 [] tx := by rw [scanD, if_neg hbig]
    repeat (first | exact endA | refine wkA ?_ | refine opB (fun b => ?_) | refine opA (fun a' c' hc1 hc2 => ?_) | (apply GJ.and; exact rfl; intro hg) | (apply GJ.or; exact rfl; intro hg))
    obtain ⟨q, hq⟩ : ∃ q : Nat, q = b := ⟨_, rfl⟩
    subst hq
    obtain ⟨bf, hbf⟩ : ∃ x : Nat, x = b := ⟨_, rfl⟩
    subst hbf
    refine LoopOk.at (ι := Nat × Nat × List TokD × Option Addr × Nat) Keep.auto (fun (k, a, o, ad, cp) => []) (fun (k, a, o, ad, cp) => .sl ad o.length cp 111 3 (toksV o) :: .blk q 150 [str tx, .int .i64 (a : Int), .slice ad o.length cp] :: .blk bf 58 [.int .i64 0, .int .i64 0] :: own) (fun (k, a, o, ad, cp) => a ≤ tx.length ∧ o.length ≤ 8192 ∧ o.length ≤ cp ∧ cp ≤ maxLen ∧ tx.length - a < k ∧ scanF k a o (tx.drop a) = scanD tx) (fun (k, a, o, ad, cp) => tx.length + 1 - a) (tx.length + 1, 0, [], none, 0) ?_ Sub.auto (Sup.nilc Sup.auto) ?_
    · exact ⟨by omega, by simp, by simp, Nat.zero_le _, by omega, by rw [hsc]; rfl⟩
    rintro ⟨k, a, o, ad, cp⟩ ⟨i1, i2, i3, i4, i5, i6⟩
    dsimp only [List.cons_append, List.nil_append] at i1 i2 i3 i4 i5 i6 ⊢
    obtain ⟨k, rfl⟩ : ∃ j, k = j + 1 := ⟨k - 1, by omega⟩
    have hgl := gapD_le (tx.drop a) false
    rw [List.length_drop] at hgl
    rw [scanF] at i6
    have hdd : (tx.drop a).drop (gapD false (tx.drop a)) = tx.drop (a + gapD false (tx.drop a)) := by rw [List.drop_drop]
    rw [hdd] at i6
    repeat (first | exact endA | refine wkA ?_ | refine opB (fun b => ?_) | refine opA (fun a' c' hc1 hc2 => ?_) | (apply GJ.and; exact rfl; intro hg) | (apply GJ.or; exact rfl; intro hg))
    refine CallOk.sup (own0 := .blk q 150 [str tx, .int .i64 (a : Int), .slice ad o.length cp] :: .sl ad o.length cp 111 3 (toksV o) :: .blk bf 58 [.int .i64 0, .int .i64 0] :: own) Sup.auto ?_
    refine gap_ok i1 hl ?_
    obtain ⟨a2, ha2⟩ : ∃ a2, a + gapD false (tx.drop a) = a2 := ⟨_, rfl⟩
    rw [ha2] at i6 ⊢
    by_cases hend : a2 = tx.length
    · have h0 : tx.drop a2 = [] := List.drop_eq_nil_of_le (by omega)
      rw [if_pos h0] at i6
      have hk := hk (o ++ [⟨5, a2, []⟩]) 0 0
      repeat (first | exact endA | refine wkT ?_ | refine opB (fun b => ?_) | refine opA (fun a' c' hc1 hc2 => ?_) | (apply GJ.and; exact rfl; intro hg) | (apply GJ.or; exact rfl; intro hg))
      refine Bs.mk ⟨[.blk q 150 [str tx, .int .i64 (a2 : Int), .slice ad o.length cp]], Sup.auto, ?_⟩
      repeat (first | exact endA | refine wkU ?_ | (show QOk _ _ _ _ _ _ _; refine QOk.build rfl rfl Nf.auto ?_) | (show GJ _ _ _ _ _ _ _; first | with_reducible refine GJ.neF ?_ | with_reducible refine GJ.neT ?_) | (show Br _ _ _; with_reducible refine Br.ne ?_) | refine opB (fun b => ?_) | refine opA (fun a' c' hc1 hc2 => ?_) | (apply GJ.and; exact rfl; intro hg) | (apply GJ.or; exact rfl; intro hg))
      have hk := hk a' c' i6.symm (by simp; omega) (by omega) (by omega) (by simp; exact hc1) hc2
      rw [toksV_snoc, List.length_append] at hk
      exact Wk.outS Sup.auto (.refl _) hk
    · have h0 : tx.drop a2 ≠ [] := fun e => by
        have := congrArg List.length e
        rw [List.length_drop] at this
        simp at this
        omega
      rw [if_neg h0] at i6
      by_cases hmany : o.length = 8192
      · rw [if_pos hmany] at i6
        have hk := hk [] a2 2 none 0 i6.symm (by simp) (by omega) (by omega) (by simp) (Nat.zero_le _)
        repeat (first | exact endA | refine wkA ?_ | refine opB (fun b => ?_) | refine opA (fun a' c' hc1 hc2 => ?_) | (apply GJ.and; exact rfl; intro hg) | (apply GJ.or; exact rfl; intro hg))
        exact Wk.outS (Sup.nilc Sup.auto) (.refl _) hk
      · rw [if_neg hmany] at i6
        repeat (first | exact endA | refine wkA ?_ | refine opB (fun b => ?_) | refine opA (fun a' c' hc1 hc2 => ?_) | (apply GJ.and; exact rfl; intro hg) | (apply GJ.or; exact rfl; intro hg))
        refine CallOk.sup (own0 := .blk q 150 [str tx, .int .i64 (a2 : Int), .slice ad o.length cp] :: .sl ad o.length cp 111 3 (toksV o) :: .blk bf 58 [.int .i64 0, .int .i64 0] :: own) Sup.auto ?_
        refine next_ok hS (by omega) hl (fun kd w n hf hn1 hn2 => ?_) (fun code hf hc1 hc2 a3 ha3 => ?_)
        · rw [hf] at i6
          rw [if_neg (by simp)] at i6
          dsimp only at i6
          rw [List.drop_drop] at i6
          repeat (first | exact endA | refine wkT ?_ | refine opB (fun b => ?_) | refine opA (fun a' c' hc1 hc2 => ?_) | (apply GJ.and; exact rfl; intro hg) | (apply GJ.or; exact rfl; intro hg))
          refine Bs.mk ⟨[.blk b 111 (tokV kd 0 w), .blk q 150 [str tx, .int .i64 ((a2 + n : Nat) : Int), .slice ad o.length cp]], Sup.auto, ?_⟩
          repeat (first | exact endA | refine wkU ?_ | (show QOk _ _ _ _ _ _ _; refine QOk.build rfl rfl Nf.auto ?_) | (show GJ _ _ _ _ _ _ _; first | with_reducible refine GJ.neF ?_ | with_reducible refine GJ.neT ?_) | (show Br _ _ _; with_reducible refine Br.ne ?_) | refine opB (fun b => ?_) | refine opA (fun a' c' hc1 hc2 => ?_) | (apply GJ.and; exact rfl; intro hg) | (apply GJ.or; exact rfl; intro hg))
          rw [show o.length + 1 = (o ++ [(⟨kd, a2, w⟩ : TokD)]).length by simp] at hc1 ⊢
          rw [show flat [.agg #[.int .i64 (kd : Int), .int .i64 (a2 : Int), str w]] = TokD.v ⟨kd, a2, w⟩ from rfl, ← toksV_snoc]
          repeat (first | exact endA | refine wkT ?_ | refine opB (fun b => ?_) | refine opA (fun a' c' hc1 hc2 => ?_) | (apply GJ.and; exact rfl; intro hg) | (apply GJ.or; exact rfl; intro hg))
          refine Wk.id ⟨(k, a2 + n, o ++ [⟨kd, a2, w⟩], a', c'), ⟨rfl, ?_⟩, ?_, Sub.auto, Sup.auto⟩
          all_goals try dsimp only
          · exact ⟨hn1, by simp; omega, hc1, hc2, by omega, i6⟩
          · omega
        · rw [hf] at i6
          rw [if_pos hc1] at i6
          have hk := hk [] a2 code none 0 i6.symm (by simp) hc2 (by omega) (by simp) (Nat.zero_le _)
          repeat (first | exact endA | refine wkA ?_ | refine opB (fun b => ?_) | refine opA (fun a' c' hc1 hc2 => ?_) | (apply GJ.and; exact rfl; intro hg) | (apply GJ.or; exact rfl; intro hg))
          exact Wk.outS (Sup.nilc Sup.auto) (.refl _) hk
end
end Go.Proofs.YtnapjcnfgdkmcaaGreatDoor
end
section
/- Contracts: a Builder grows; strings.Join with a blank; lex: Show, Join. -/
namespace Go.Proofs.YtnapjcnfgdkmcaaGreatDoor
open Go Go.E
set_option linter.unusedVariables false
set_option linter.unusedSimpArgs false
set_option maxRecDepth 10000
def showD (k : Nat) (x : List UInt8) : List UInt8 := if k = 3 then 47 :: (x ++ [47]) else x
section
variable {ro : Ro} {own r : Chs} {K : Value → Ro → Chs → Prop} {g : Chunk → Chs}
end
end Go.Proofs.YtnapjcnfgdkmcaaGreatDoor
end
section
/- The plain laws of the scanner: nothing is lost; there and back; two texts. No program. -/
namespace Go.Proofs.YtnapjcnfgdkmcaaGreatDoor
open Go Go.E
set_option linter.unusedVariables false
set_option linter.unusedSimpArgs false
set_option maxRecDepth 10000
theorem head_nil {p : UInt8 → Bool} {y : List UInt8} (h : ∀ u, y.head? = some u → p u = false) : y.takeWhile p = [] := by
  cases y with
  | nil => rfl
  | cons u y => rw [List.takeWhile_cons, h u rfl]; rfl
theorem tw_all {p : UInt8 → Bool} (l : List UInt8) : ∀ u ∈ l.takeWhile p, p u = true := fun u hu => by
  induction l with
  | nil => simp at hu
  | cons x l ih =>
    rw [List.takeWhile_cons] at hu
    split at hu
    · rcases List.mem_cons.1 hu with rfl | h
      · assumption
      · exact ih h
    · simp at hu
theorem tw_app {p : UInt8 → Bool} {w y : List UInt8} (h : ∀ u ∈ w, p u = true) (hy : ∀ u, y.head? = some u → p u = false) : (w ++ y).takeWhile p = w := by
  rw [List.takeWhile_append_of_pos h, head_nil hy, List.append_nil]
theorem tw_drop {p : UInt8 → Bool} (l : List UInt8) : l.takeWhile p ++ l.drop (l.takeWhile p).length = l := by
  induction l with
  | nil => rfl
  | cons x l ih =>
    rw [List.takeWhile_cons]
    split
    · rw [List.length_cons, List.drop_succ_cons, List.cons_append, ih]
    · rfl
/-- What a token's text is read as, alone and before a blank. -/
structure Front (l : List UInt8) (k : Nat) (w : List UInt8) (n : Nat) : Prop where
  len : n = (showD k w).length
  pos : 1 ≤ n
  five : k ≠ 5
  app : showD k w ++ l.drop n = l
  again : ∀ y : List UInt8, (∀ u, y.head? = some u → u.toNat = 32) → frontD (showD k w ++ y) = (k, w, n, 0)
  gap : ∀ y : List UInt8, gapD false (showD k w ++ y) = 0
theorem gap_zero {c : UInt8} (r : List UInt8) (h1 : c.toNat ≠ 10) (h2 : c.toNat ≠ 32) (h3 : c.toNat ≠ 9) (h4 : c.toNat ≠ 13) (h5 : c.toNat ≠ 35) : gapD false (c :: r) = 0 := by
  rw [gapD, if_neg h1, if_neg (by simp [h2, h3, h4]), if_neg h5]
theorem letB_rng {u : UInt8} (h : letB u = true) : 65 ≤ u.toNat := by
  unfold letB at h
  simp at h
  omega
theorem digB_rng {u : UInt8} (h : digB u = true) : 48 ≤ u.toNat := by
  unfold digB at h
  simp at h
  omega
theorem word_32 {u : UInt8} (h : u.toNat = 32 ∨ u.toNat = 10) : wordB u = false := by
  unfold wordB letB digB
  simp
  omega
theorem dig_32 {u : UInt8} (h : u.toNat = 32 ∨ u.toNat = 10) : digB u = false := by
  unfold digB
  simp
  omega
theorem sign_front : ∀ s ∈ signsL, ∀ y, frontD (s ++ y) = (4, s, s.length, 0) ∧ gapD false (s ++ y) = 0 := by
  intro s hs y
  simp only [signsL, List.mem_cons, List.not_mem_nil, or_false] at hs
  rcases hs with rfl | rfl | rfl | rfl | rfl | rfl | rfl | rfl | rfl | rfl | rfl | rfl | rfl | rfl <;> exact ⟨rfl, gap_zero _ (by decide) (by decide) (by decide) (by decide) (by decide)⟩
theorem frontOf {l : List UInt8} {k : Nat} {w : List UInt8} {n : Nat} (h : frontD l = (k, w, n, 0)) : Front l k w n := by
  cases l with
  | nil => simp [frontD] at h
  | cons c r =>
    rw [frontD] at h
    by_cases h1 : letB c = true
    · rw [if_pos h1] at h
      split at h
      · simp at h
      rename_i h24
      obtain ⟨rfl, hw, hn⟩ : 1 = k ∧ (c :: r).takeWhile wordB = w ∧ ((c :: r).takeWhile wordB).length = n := by simpa using h
      rw [hw] at hn h24
      have hs : showD 1 w = w := rfl
      have hc : wordB c = true := by unfold wordB; rw [h1]; rfl
      have hall : ∀ u ∈ w, wordB u = true := fun u hu => tw_all _ u (hw ▸ hu)
      obtain ⟨w', hw'⟩ : ∃ w', w = c :: w' := by rw [← hw, List.takeWhile_cons, hc]; exact ⟨_, rfl⟩
      have hr := letB_rng h1
      refine ⟨by rw [hs, hn], by rw [← hn, hw']; simp, by decide, ?_, fun y hy => ?_, fun y => ?_⟩
      · rw [hs, ← hn, ← hw]; exact tw_drop _
      · rw [hs]
        have ht : (w ++ y).takeWhile wordB = w := tw_app hall (fun u hu => word_32 (.inl (hy u hu)))
        have : frontD (w ++ y) = if letB c = true then (if 24 < ((w ++ y).takeWhile wordB).length then (0, [], 0, 2) else (1, (w ++ y).takeWhile wordB, ((w ++ y).takeWhile wordB).length, 0)) else frontD (w ++ y) := by
          rw [if_pos h1, hw', List.cons_append, frontD, if_pos h1]
        rw [this, if_pos h1, ht, if_neg h24, hn]
      · rw [hs, hw', List.cons_append]
        exact gap_zero _ (by omega) (by omega) (by omega) (by omega) (by omega)
    rw [if_neg h1] at h
    by_cases h2 : digB c = true
    · rw [if_pos h2] at h
      split at h
      · simp at h
      rename_i h20
      split at h
      · simp at h
      rename_i h0
      obtain ⟨rfl, hw, hn⟩ : 2 = k ∧ (c :: r).takeWhile digB = w ∧ ((c :: r).takeWhile digB).length = n := by simpa using h
      rw [hw] at hn h20 h0
      have hs : showD 2 w = w := rfl
      have hall : ∀ u ∈ w, digB u = true := fun u hu => tw_all _ u (hw ▸ hu)
      obtain ⟨w', hw'⟩ : ∃ w', w = c :: w' := by rw [← hw, List.takeWhile_cons, h2]; exact ⟨_, rfl⟩
      have hr := digB_rng h2
      have hr2 : c.toNat ≤ 57 := by unfold digB at h2; simp at h2; omega
      refine ⟨by rw [hs, hn], by rw [← hn, hw']; simp, by decide, ?_, fun y hy => ?_, fun y => ?_⟩
      · rw [hs, ← hn, ← hw]; exact tw_drop _
      · rw [hs]
        have ht : (w ++ y).takeWhile digB = w := tw_app hall (fun u hu => dig_32 (.inl (hy u hu)))
        have : frontD (w ++ y) = if 20 < ((w ++ y).takeWhile digB).length then (0, [], 0, 2) else if 1 < ((w ++ y).takeWhile digB).length ∧ c.toNat = 48 then (0, [], 0, 5) else (2, (w ++ y).takeWhile digB, ((w ++ y).takeWhile digB).length, 0) := by
          rw [hw', List.cons_append, frontD, if_neg h1, if_pos h2]
        rw [this, ht, if_neg h20, if_neg h0, hn]
      · rw [hs, hw', List.cons_append]
        exact gap_zero _ (by omega) (by omega) (by omega) (by omega) (by omega)
    rw [if_neg h2] at h
    by_cases h3 : c.toNat = 47
    · rw [if_pos h3] at h
      split at h
      · simp at h
      rename_i v hv
      obtain ⟨rfl, rfl, hn⟩ : 3 = k ∧ v = w ∧ v.length + 2 = n := by simpa using h
      have hc : c = 47 := UInt8.toNat_inj.1 (by simpa using h3)
      subst hc
      have hs : showD 3 v = 47 :: (v ++ [47]) := rfl
      unfold patD at hv
      split at hv
      · simp at hv
      rename_i x r' hr'
      split at hv
      · rename_i hx
        have hx : x = 47 := UInt8.toNat_inj.1 (by simpa using hx)
        subst hx
        have hv : r.takeWhile patB = v := by simpa using hv
        rw [hv] at hr'
        have hr : r = v ++ 47 :: r' := by rw [← hr', ← hv]; exact (tw_drop r).symm
        have hall : ∀ u ∈ v, patB u = true := fun u hu => tw_all _ u (hv ▸ hu)
        refine ⟨by rw [hs, ← hn]; simp, by omega, by decide, ?_, fun y hy => ?_, fun y => ?_⟩
        · rw [hs, hr, ← hn, List.drop_succ_cons]
          rw [show v ++ 47 :: r' = (v ++ [47]) ++ r' by simp, List.drop_left' (by simp)]
          simp
        · rw [hs]
          have hp : patD (v ++ 47 :: y) = some v := by
            have ht : (v ++ 47 :: y).takeWhile patB = v := tw_app hall (fun u hu => by
              have : u = 47 := by simpa using hu.symm
              subst this; rfl)
            unfold patD
            rw [ht, List.drop_left]
            rfl
          rw [List.cons_append, List.append_assoc, frontD, if_neg h1, if_neg h2, if_pos h3]
          rw [show v ++ ([47] ++ y) = v ++ 47 :: y from rfl, hp, ← hn]
        · rw [hs, List.cons_append]
          exact gap_zero _ (by decide) (by decide) (by decide) (by decide) (by decide)
      · simp at hv
    rw [if_neg h3] at h
    split at h
    · rename_i s hf
      obtain ⟨rfl, rfl, hn⟩ : 4 = k ∧ s = w ∧ s.length = n := by simpa using h
      have hm := List.mem_of_find?_eq_some hf
      have hp := List.find?_some hf
      have hs : showD 4 s = s := rfl
      have h1 : 1 ≤ s.length := by
        have : ∀ s ∈ signsL, 1 ≤ s.length := by decide
        exact this s hm
      refine ⟨by rw [hs, hn], by omega, by decide, ?_, fun y _ => by rw [hs, ← hn]; exact (sign_front s hm y).1, fun y => (sign_front s hm y).2⟩
      rw [hs, ← hn]
      have := List.isPrefixOf_iff_prefix.1 hp
      obtain ⟨t, ht⟩ := this
      rw [← ht, List.drop_left]
    · simp at h
/-- The tokens of a text, each where it stands, what is between them is no token. -/
def WholeD : Nat → List UInt8 → List TokD → Prop
  | _, _, [] => False
  | a, l, t :: ts => t.a = a + gapD false l ∧ ((t.kind = 5 ∧ t.text = [] ∧ ts = [] ∧ l.drop (gapD false l) = []) ∨
     ∃ n, l.drop (gapD false l) ≠ [] ∧ frontD (l.drop (gapD false l)) = (t.kind, t.text, n, 0) ∧ WholeD (t.a + n) ((l.drop (gapD false l)).drop n) ts)
theorem scan_whole : ∀ (k a : Nat) (o : List TokD) (l : List UInt8) (r : List TokD) (p : Nat), l.length < k → scanF k a o l = (r, p, 0) → ∃ ts, r = o ++ ts ∧ WholeD a l ts
  | 0, a, o, l, r, p, h, _ => absurd h (Nat.not_lt_zero _)
  | k + 1, a, o, l, r, p, hk, h => by
    rw [scanF] at h
    split at h
    · rename_i h0
      have : o ++ [⟨5, a + gapD false l, []⟩] = r := congrArg (·.1) h
      exact ⟨_, this.symm, rfl, .inl ⟨rfl, rfl, rfl, h0⟩⟩
    rename_i h0
    split at h
    · simp at h
    split at h
    · rename_i hc
      have : (frontD (l.drop (gapD false l))).2.2.2 = 0 := by have := congrArg (·.2.2) h; simpa using this
      exact absurd this hc
    rename_i hc
    obtain ⟨kd, w, n, c, hf⟩ : ∃ kd w n c, frontD (l.drop (gapD false l)) = (kd, w, n, c) := ⟨_, _, _, _, rfl⟩
    rw [hf] at h hc
    have hc : c = 0 := by simpa using hc
    subst hc
    dsimp only at h
    have hF := frontOf hf
    have hl : ((l.drop (gapD false l)).drop n).length < k := by
      have := hF.pos
      have h1 : (l.drop (gapD false l)).length ≠ 0 := fun e => h0 (List.eq_nil_of_length_eq_zero e)
      simp only [List.length_drop] at h1 ⊢
      omega
    obtain ⟨ts, e, hw⟩ := scan_whole k _ _ _ r p hl h
    exact ⟨⟨kd, a + gapD false l, w⟩ :: ts, by rw [e]; simp, rfl, .inr ⟨n, h0, hf, hw⟩⟩
end Go.Proofs.YtnapjcnfgdkmcaaGreatDoor
end
section
/- Contracts of package octet, second part: numbers, a writer. -/
namespace Go.Proofs.YtnapjcnfgdkmcaaGreatDoor
open Go Go.E
set_option linter.unusedVariables false
set_option maxRecDepth 10000
section
variable {ro : Ro} {own : Chs} {K : Value → Ro → Chs → Prop} {f : Chunk → Chs}
theorem width_ok {n : Int} (hk : K (.bool (decide (1 ≤ n ∧ n ≤ 8))) ro own) : CallOk Tryz.prog 82 #[.int .i64 n] ro own K := by
  refine CallOk.intro (args := [_]) (rs := [_]) T_ok Tryz.func82 Tryz.call82 rfl rfl (by kernel_rfl) rfl rfl ?_
  repeat (first | exact endA | refine wkG ?_ | refine opB (fun b => ?_) | refine opA (fun a' c' hc1 hc2 => ?_) | (show GJ _ _ _ _ _ _ _; first | (apply GJ.and; exact rfl; intro hg) | (apply GJ.or; exact rfl; intro hg) | refine GJ.t omAuto ?_ | refine GJ.f omAuto ?_ | refine GJ.ft omAuto ?_ | refine GJ.ff omAuto ?_))
  refine Wk.val hk (congrArg Value.bool ?_)
  simp
def mostN (n : Int) : Nat := if 1 ≤ n ∧ n ≤ 8 then 2 ^ (8 * n.toNat) - 1 else 0
theorem most_ok {n : Int} (hk : K (.int .u64 (mostN n)) ro own) : CallOk Tryz.prog 53 #[.int .i64 n] ro own K := by
  refine CallOk.intro (args := [_]) (rs := [_]) T_ok Tryz.func53 Tryz.call53 rfl rfl (by kernel_rfl) rfl rfl ?_
  repeat (first | exact endA | refine wkG ?_ | refine opB (fun b => ?_) | refine opA (fun a' c' hc1 hc2 => ?_) | (show GJ _ _ _ _ _ _ _; first | (apply GJ.and; exact rfl; intro hg) | (apply GJ.or; exact rfl; intro hg) | refine GJ.t omAuto ?_ | refine GJ.f omAuto ?_ | refine GJ.ft omAuto ?_ | refine GJ.ff omAuto ?_))
  refine width_ok ?_
  repeat (first | exact endA | refine wkG ?_ | refine opB (fun b => ?_) | refine opA (fun a' c' hc1 hc2 => ?_) | (show GJ _ _ _ _ _ _ _; first | (apply GJ.and; exact rfl; intro hg) | (apply GJ.or; exact rfl; intro hg) | refine GJ.t omAuto ?_ | refine GJ.f omAuto ?_ | refine GJ.ft omAuto ?_ | refine GJ.ff omAuto ?_))
  refine Br.cases (fun hc => ?_) (fun hc => ?_)
  · repeat (first | exact endA | refine wkG ?_ | refine opB (fun b => ?_) | refine opA (fun a' c' hc1 hc2 => ?_) | (show GJ _ _ _ _ _ _ _; first | (apply GJ.and; exact rfl; intro hg) | (apply GJ.or; exact rfl; intro hg) | refine GJ.t omAuto ?_ | refine GJ.f omAuto ?_ | refine GJ.ft omAuto ?_ | refine GJ.ff omAuto ?_))
    refine Wk.val hk (congrArg (Value.int .u64) ?_)
    have : ¬ (1 ≤ n ∧ n ≤ 8) := by simpa using hc
    simp [mostN, this]
  · have hc : 1 ≤ n ∧ n ≤ 8 := by simpa using hc
    repeat (first | exact endA | refine wkG ?_ | refine opB (fun b => ?_) | refine opA (fun a' c' hc1 hc2 => ?_) | (show GJ _ _ _ _ _ _ _; first | (apply GJ.and; exact rfl; intro hg) | (apply GJ.or; exact rfl; intro hg) | refine GJ.t omAuto ?_ | refine GJ.f omAuto ?_ | refine GJ.ft omAuto ?_ | refine GJ.ff omAuto ?_))
    refine Wk.val hk (congrArg (Value.int .u64) ?_)
    obtain ⟨m, rfl⟩ := Int.eq_ofNat_of_zero_le (show 0 ≤ n by omega)
    simp only [mostN, hc, and_self, if_true]
    rcases (show m = 1 ∨ m = 2 ∨ m = 3 ∨ m = 4 ∨ m = 5 ∨ m = 6 ∨ m = 7 ∨ m = 8 by omega) with h | h | h | h | h | h | h | h <;> subst h <;> decide
end
end Go.Proofs.YtnapjcnfgdkmcaaGreatDoor
end
section
/- Contracts of slices: clones. -/
namespace Go.Proofs.YtnapjcnfgdkmcaaGreatDoor
open Go Go.E
set_option linter.unusedVariables false
set_option maxRecDepth 10000
section
variable {ro : Ro} {own r : Chs} {K : Value → Ro → Chs → Prop} {g : Chunk → Chs}
theorem cloneI_ok {a : Option Addr} {n c : Nat} {cs : List Value} (hr : Rs ro a n c 1 cs) (h1 : ∀ u ∈ cs, u.oneCell' = true) (hn : n ≤ 100000000) (hk : ∀ a' c', n ≤ c' → c' ≤ maxLen → K (.slice a' n c') ro (.sl a' n c' 3 1 cs :: own)) :
    CallOk Tryz.prog 48 #[.slice a n c] ro own K := by
  have hln := hr.len
  have hle := hr.le
  refine CallOk.given (fun hsat => ?_)
  refine CallOk.intro (args := [_]) (rs := [_]) T_ok Tryz.func48 Tryz.call48 rfl rfl (by kernel_rfl) rfl rfl ?_
  repeat (first | exact endA | refine wkG ?_ | refine opB (fun b => ?_) | refine opA (fun a' c' hc1 hc2 => ?_) | (show GJ _ _ _ _ _ _ _; first | (apply GJ.and; exact rfl; intro hg) | (apply GJ.or; exact rfl; intro hg) | refine GJ.t omAuto ?_ | refine GJ.f omAuto ?_ | refine GJ.ft omAuto ?_ | refine GJ.ff omAuto ?_))
  refine Br.cases (fun hc => ?_) (fun hc => ?_)
  · subst hc
    have hn0 := hr.nilN hsat
    subst hn0
    obtain rfl : cs = [] := List.eq_nil_of_length_eq_zero (by omega)
    repeat (first | exact endA | refine wkG ?_ | refine opB (fun b => ?_) | refine opA (fun a' c' hc1 hc2 => ?_) | (show GJ _ _ _ _ _ _ _; first | (apply GJ.and; exact rfl; intro hg) | (apply GJ.or; exact rfl; intro hg) | refine GJ.t omAuto ?_ | refine GJ.f omAuto ?_ | refine GJ.ft omAuto ?_ | refine GJ.ff omAuto ?_))
    exact Wk.outS (Sup.nilc (Sup.all _)) (.refl _) (hk none 0 (Nat.le_refl _) (Nat.zero_le _))
  · repeat (first | exact endA | refine wkG ?_ | refine opB (fun b => ?_) | refine opA (fun a' c' hc1 hc2 => ?_) | (show GJ _ _ _ _ _ _ _; first | (apply GJ.and; exact rfl; intro hg) | (apply GJ.or; exact rfl; intro hg) | refine GJ.t omAuto ?_ | refine GJ.f omAuto ?_ | refine GJ.ft omAuto ?_ | refine GJ.ff omAuto ?_))
    exact Wk.id (hk _ _ (by omega) (by omega))
theorem cloneB_ok {a : Option Addr} {n c : Nat} {cs : List Value} (hr : Rs ro a n c 1 cs) (h1 : ∀ u ∈ cs, u.oneCell' = true) (hn : n ≤ 100000000) (hk : ∀ a' c', n ≤ c' → c' ≤ maxLen → K (.slice a' n c') ro (.sl a' n c' 4 1 cs :: own)) :
    CallOk Tryz.prog 154 #[.slice a n c] ro own K := by
  have hln := hr.len
  have hle := hr.le
  refine CallOk.given (fun hsat => ?_)
  refine CallOk.intro (args := [_]) (rs := [_]) T_ok Tryz.func154 Tryz.call154 rfl rfl (by kernel_rfl) rfl rfl ?_
  repeat (first | exact endA | refine wkG ?_ | refine opB (fun b => ?_) | refine opA (fun a' c' hc1 hc2 => ?_) | (show GJ _ _ _ _ _ _ _; first | (apply GJ.and; exact rfl; intro hg) | (apply GJ.or; exact rfl; intro hg) | refine GJ.t omAuto ?_ | refine GJ.f omAuto ?_ | refine GJ.ft omAuto ?_ | refine GJ.ff omAuto ?_))
  refine Br.cases (fun hc => ?_) (fun hc => ?_)
  · subst hc
    have hn0 := hr.nilN hsat
    subst hn0
    obtain rfl : cs = [] := List.eq_nil_of_length_eq_zero (by omega)
    repeat (first | exact endA | refine wkG ?_ | refine opB (fun b => ?_) | refine opA (fun a' c' hc1 hc2 => ?_) | (show GJ _ _ _ _ _ _ _; first | (apply GJ.and; exact rfl; intro hg) | (apply GJ.or; exact rfl; intro hg) | refine GJ.t omAuto ?_ | refine GJ.f omAuto ?_ | refine GJ.ft omAuto ?_ | refine GJ.ff omAuto ?_))
    exact Wk.outS (Sup.nilc (Sup.all _)) (.refl _) (hk none 0 (Nat.le_refl _) (Nat.zero_le _))
  · repeat (first | exact endA | refine wkG ?_ | refine opB (fun b => ?_) | refine opA (fun a' c' hc1 hc2 => ?_) | (show GJ _ _ _ _ _ _ _; first | (apply GJ.and; exact rfl; intro hg) | (apply GJ.or; exact rfl; intro hg) | refine GJ.t omAuto ?_ | refine GJ.f omAuto ?_ | refine GJ.ft omAuto ?_ | refine GJ.ff omAuto ?_))
    exact Wk.id (hk _ _ (by omega) (by omega))
theorem cloneF_ok {a : Option Addr} {n c : Nat} {cs : List Value} (hr : Rs ro a n c 5 cs) (h1 : ∀ u ∈ cs, u.oneCell' = true) (hn : n ≤ 100000000) (hk : ∀ a' c', n ≤ c' → c' ≤ maxLen → K (.slice a' n c') ro (.sl a' n c' 47 5 cs :: own)) :
    CallOk Tryz.prog 156 #[.slice a n c] ro own K := by
  have hln := hr.len
  have hle := hr.le
  refine CallOk.given (fun hsat => ?_)
  refine CallOk.intro (args := [_]) (rs := [_]) T_ok Tryz.func156 Tryz.call156 rfl rfl (by kernel_rfl) rfl rfl ?_
  repeat (first | exact endA | refine wkG ?_ | refine opB (fun b => ?_) | refine opA (fun a' c' hc1 hc2 => ?_) | (show GJ _ _ _ _ _ _ _; first | (apply GJ.and; exact rfl; intro hg) | (apply GJ.or; exact rfl; intro hg) | refine GJ.t omAuto ?_ | refine GJ.f omAuto ?_ | refine GJ.ft omAuto ?_ | refine GJ.ff omAuto ?_))
  refine Br.cases (fun hc => ?_) (fun hc => ?_)
  · subst hc
    have hn0 := hr.nilN hsat
    subst hn0
    obtain rfl : cs = [] := List.eq_nil_of_length_eq_zero (by omega)
    repeat (first | exact endA | refine wkG ?_ | refine opB (fun b => ?_) | refine opA (fun a' c' hc1 hc2 => ?_) | (show GJ _ _ _ _ _ _ _; first | (apply GJ.and; exact rfl; intro hg) | (apply GJ.or; exact rfl; intro hg) | refine GJ.t omAuto ?_ | refine GJ.f omAuto ?_ | refine GJ.ft omAuto ?_ | refine GJ.ff omAuto ?_))
    exact Wk.outS (Sup.nilc (Sup.all _)) (.refl _) (hk none 0 (Nat.le_refl _) (Nat.zero_le _))
  · repeat (first | exact endA | refine wkG ?_ | refine opB (fun b => ?_) | refine opA (fun a' c' hc1 hc2 => ?_) | (show GJ _ _ _ _ _ _ _; first | (apply GJ.and; exact rfl; intro hg) | (apply GJ.or; exact rfl; intro hg) | refine GJ.t omAuto ?_ | refine GJ.f omAuto ?_ | refine GJ.ft omAuto ?_ | refine GJ.ff omAuto ?_))
    exact Wk.id (hk _ _ (by omega) (by omega))
theorem cloneC_ok {a : Option Addr} {n c : Nat} {cs : List Value} (hr : Rs ro a n c 2 cs) (h1 : ∀ u ∈ cs, u.oneCell' = true) (hn : n ≤ 100000000) (hk : ∀ a' c', n ≤ c' → c' ≤ maxLen → K (.slice a' n c') ro (.sl a' n c' 97 2 cs :: own)) :
    CallOk Tryz.prog 158 #[.slice a n c] ro own K := by
  have hln := hr.len
  have hle := hr.le
  refine CallOk.given (fun hsat => ?_)
  refine CallOk.intro (args := [_]) (rs := [_]) T_ok Tryz.func158 Tryz.call158 rfl rfl (by kernel_rfl) rfl rfl ?_
  repeat (first | exact endA | refine wkG ?_ | refine opB (fun b => ?_) | refine opA (fun a' c' hc1 hc2 => ?_) | (show GJ _ _ _ _ _ _ _; first | (apply GJ.and; exact rfl; intro hg) | (apply GJ.or; exact rfl; intro hg) | refine GJ.t omAuto ?_ | refine GJ.f omAuto ?_ | refine GJ.ft omAuto ?_ | refine GJ.ff omAuto ?_))
  refine Br.cases (fun hc => ?_) (fun hc => ?_)
  · subst hc
    have hn0 := hr.nilN hsat
    subst hn0
    obtain rfl : cs = [] := List.eq_nil_of_length_eq_zero (by omega)
    repeat (first | exact endA | refine wkG ?_ | refine opB (fun b => ?_) | refine opA (fun a' c' hc1 hc2 => ?_) | (show GJ _ _ _ _ _ _ _; first | (apply GJ.and; exact rfl; intro hg) | (apply GJ.or; exact rfl; intro hg) | refine GJ.t omAuto ?_ | refine GJ.f omAuto ?_ | refine GJ.ft omAuto ?_ | refine GJ.ff omAuto ?_))
    exact Wk.outS (Sup.nilc (Sup.all _)) (.refl _) (hk none 0 (Nat.le_refl _) (Nat.zero_le _))
  · repeat (first | exact endA | refine wkG ?_ | refine opB (fun b => ?_) | refine opA (fun a' c' hc1 hc2 => ?_) | (show GJ _ _ _ _ _ _ _; first | (apply GJ.and; exact rfl; intro hg) | (apply GJ.or; exact rfl; intro hg) | refine GJ.t omAuto ?_ | refine GJ.f omAuto ?_ | refine GJ.ft omAuto ?_ | refine GJ.ff omAuto ?_))
    exact Wk.id (hk _ _ (by omega) (by omega))
theorem cloneD_ok {a : Option Addr} {n c : Nat} {cs : List Value} (hr : Rs ro a n c 2 cs) (h1 : ∀ u ∈ cs, u.oneCell' = true) (hn : n ≤ 100000000) (hk : ∀ a' c', n ≤ c' → c' ≤ maxLen → K (.slice a' n c') ro (.sl a' n c' 44 2 cs :: own)) :
    CallOk Tryz.prog 116 #[.slice a n c] ro own K := by
  have hln := hr.len
  have hle := hr.le
  refine CallOk.given (fun hsat => ?_)
  refine CallOk.intro (args := [_]) (rs := [_]) T_ok Tryz.func116 Tryz.call116 rfl rfl (by kernel_rfl) rfl rfl ?_
  repeat (first | exact endA | refine wkG ?_ | refine opB (fun b => ?_) | refine opA (fun a' c' hc1 hc2 => ?_) | (show GJ _ _ _ _ _ _ _; first | (apply GJ.and; exact rfl; intro hg) | (apply GJ.or; exact rfl; intro hg) | refine GJ.t omAuto ?_ | refine GJ.f omAuto ?_ | refine GJ.ft omAuto ?_ | refine GJ.ff omAuto ?_))
  refine Br.cases (fun hc => ?_) (fun hc => ?_)
  · subst hc
    have hn0 := hr.nilN hsat
    subst hn0
    obtain rfl : cs = [] := List.eq_nil_of_length_eq_zero (by omega)
    repeat (first | exact endA | refine wkG ?_ | refine opB (fun b => ?_) | refine opA (fun a' c' hc1 hc2 => ?_) | (show GJ _ _ _ _ _ _ _; first | (apply GJ.and; exact rfl; intro hg) | (apply GJ.or; exact rfl; intro hg) | refine GJ.t omAuto ?_ | refine GJ.f omAuto ?_ | refine GJ.ft omAuto ?_ | refine GJ.ff omAuto ?_))
    exact Wk.outS (Sup.nilc (Sup.all _)) (.refl _) (hk none 0 (Nat.le_refl _) (Nat.zero_le _))
  · repeat (first | exact endA | refine wkG ?_ | refine opB (fun b => ?_) | refine opA (fun a' c' hc1 hc2 => ?_) | (show GJ _ _ _ _ _ _ _; first | (apply GJ.and; exact rfl; intro hg) | (apply GJ.or; exact rfl; intro hg) | refine GJ.t omAuto ?_ | refine GJ.f omAuto ?_ | refine GJ.ft omAuto ?_ | refine GJ.ff omAuto ?_))
    exact Wk.id (hk _ _ (by omega) (by omega))
end
end Go.Proofs.YtnapjcnfgdkmcaaGreatDoor
end
section
/- Specifications as data, and how they lie in memory. Contracts of Kids, Number, Most. -/
namespace Go.Proofs.YtnapjcnfgdkmcaaGreatDoor
open Go Go.E
set_option linter.unusedVariables false
set_option maxRecDepth 10000
structure FieldD where
  name : List UInt8
  type : Int
  derive : Int
  of : List UInt8
  to : List UInt8
deriving DecidableEq
structure CaseD where
  value : Nat
  type : Int
deriving DecidableEq
structure NodeD where
  kind : Int
  width : Int
  little : Bool
  zig : Bool
  lenient : Bool
  min : Nat
  max : Nat
  text : List UInt8
  ereg : List UInt8
  emul : Nat
  eadd : Nat
  kids : List Int
  last : List Bool
  fields : List FieldD
  reg : List UInt8
  mod : Nat
  cases : List CaseD
  els : Int
deriving DecidableEq
structure DefD where
  name : List UInt8
  type : Int
deriving DecidableEq
structure SpecD where
  nodes : List NodeD
  defs : List DefD
deriving DecidableEq
def fieldV (f : FieldD) : List Value := [str f.name, .int .i64 f.type, .int .i64 f.derive, str f.of, str f.to]
def caseV (c : CaseD) : List Value := [.int .u64 (c.value : Nat), .int .i64 c.type]
def defV (d : DefD) : List Value := [str d.name, .int .i64 d.type]
/-- Where a node's slices lie. -/
structure NodeA where
  ka : Option Addr
  kc : Nat
  la : Option Addr
  lc : Nat
  fa : Option Addr
  fc : Nat
  ca : Option Addr
  cc : Nat
def nodeV (d : NodeD) (a : NodeA) : List Value :=
  [.int .i64 d.kind, .int .i64 d.width, .bool d.little, .bool d.zig, .bool d.lenient, .int .u64 (d.min : Nat), .int .u64 (d.max : Nat), str d.text, str d.ereg, .int .u64 (d.emul : Nat), .int .u64 (d.eadd : Nat),
   .slice a.ka d.kids.length a.kc, .slice a.la d.last.length a.lc, .slice a.fa d.fields.length a.fc, str d.reg, .int .u64 (d.mod : Nat), .slice a.ca d.cases.length a.cc, .int .i64 d.els]
def kidsV (l : List Int) : List Value := l.map (Value.int .i64)
def lastV (l : List Bool) : List Value := l.map Value.bool
def fieldsV (l : List FieldD) : List Value := l.flatMap fieldV
def casesV (l : List CaseD) : List Value := l.flatMap caseV
def defsV (l : List DefD) : List Value := l.flatMap defV
abbrev In64 (x : Int) : Prop := -9223372036854775808 ≤ x ∧ x ≤ 9223372036854775807
/-- A node's slices lie there, and last. -/
structure NodeOk (ro : Ro) (d : NodeD) (a : NodeA) : Prop where
  kids : Rs ro a.ka d.kids.length a.kc 1 (kidsV d.kids)
  last : Rs ro a.la d.last.length a.lc 1 (lastV d.last)
  fields : Rs ro a.fa d.fields.length a.fc 5 (fieldsV d.fields)
  cases : Rs ro a.ca d.cases.length a.cc 2 (casesV d.cases)
/-- A node's numbers are of their kinds. -/
structure NodeIn (d : NodeD) : Prop where
  kind : In64 d.kind
  width : In64 d.width
  min : d.min < 18446744073709551616
  max : d.max < 18446744073709551616
  emul : d.emul < 18446744073709551616
  eadd : d.eadd < 18446744073709551616
  mod : d.mod < 18446744073709551616
  els : In64 d.els
  kids : ∀ k ∈ d.kids, In64 k
  fields : ∀ f ∈ d.fields, In64 f.type ∧ In64 f.derive
  cases : ∀ c ∈ d.cases, In64 c.type ∧ c.value < 18446744073709551616
theorem fieldsV_len (l : List FieldD) : (fieldsV l).length = l.length * 5 := by induction l with
  | nil => rfl
  | cons f l ih => simp [fieldsV, fieldV] at ih ⊢; omega
theorem fieldsV_drop (l : List FieldD) : ∀ {i : Nat} (h : i < l.length), ((fieldsV l).drop (i * 5)).take 5 = fieldV l[i] := by
  induction l with
  | nil => intro i h; simp at h
  | cons f l ih =>
    intro i h
    cases i with
    | zero => rfl
    | succ i =>
      have := ih (i := i) (by simpa using h)
      rw [show (i + 1) * 5 = i * 5 + 5 by omega, Nat.add_comm]
      show List.take 5 (List.drop (5 + i * 5) (fieldV f ++ fieldsV l)) = _
      rw [← List.drop_drop, List.drop_left' (by rfl)]
      simpa using this
theorem casesV_drop (l : List CaseD) : ∀ {i : Nat} (h : i < l.length), ((casesV l).drop (i * 2)).take 2 = caseV l[i] := by
  induction l with
  | nil => intro i h; simp at h
  | cons f l ih =>
    intro i h
    cases i with
    | zero => rfl
    | succ i =>
      have := ih (i := i) (by simpa using h)
      rw [show (i + 1) * 2 = i * 2 + 2 by omega, Nat.add_comm]
      show List.take 2 (List.drop (2 + i * 2) (caseV f ++ casesV l)) = _
      rw [← List.drop_drop, List.drop_left' (by rfl)]
      simpa using this
theorem defsV_drop (l : List DefD) : ∀ {i : Nat} (h : i < l.length), ((defsV l).drop (i * 2)).take 2 = defV l[i] := by
  induction l with
  | nil => intro i h; simp at h
  | cons f l ih =>
    intro i h
    cases i with
    | zero => rfl
    | succ i =>
      have := ih (i := i) (by simpa using h)
      rw [show (i + 1) * 2 = i * 2 + 2 by omega, Nat.add_comm]
      show List.take 2 (List.drop (2 + i * 2) (defV f ++ defsV l)) = _
      rw [← List.drop_drop, List.drop_left' (by rfl)]
      simpa using this
theorem kidsV_one (l : List Int) : ∀ u ∈ kidsV l, u.oneCell' = true := one_int .i64 l
theorem lastV_one (l : List Bool) : ∀ u ∈ lastV l, u.oneCell' = true := fun u hu => by obtain ⟨b, _, rfl⟩ := List.mem_map.1 hu; rfl
theorem fieldsV_one (l : List FieldD) : ∀ u ∈ fieldsV l, u.oneCell' = true := fun u hu => by
  obtain ⟨f, _, hf⟩ := List.mem_flatMap.1 hu
  simp [fieldV] at hf
  rcases hf with rfl | rfl | rfl | rfl | rfl <;> rfl
theorem casesV_one (l : List CaseD) : ∀ u ∈ casesV l, u.oneCell' = true := fun u hu => by
  obtain ⟨f, _, hf⟩ := List.mem_flatMap.1 hu
  simp [caseV] at hf
  rcases hf with rfl | rfl <;> rfl
theorem defsV_one (l : List DefD) : ∀ u ∈ defsV l, u.oneCell' = true := fun u hu => by
  obtain ⟨f, _, hf⟩ := List.mem_flatMap.1 hu
  simp [defV] at hf
  rcases hf with rfl | rfl <;> rfl
/-- The types of which a type is made. -/
def kidsD (d : NodeD) : List Int := d.kids ++ d.fields.map (·.type) ++ d.cases.map (·.type) ++ (if d.kind = 9 ∧ 0 ≤ d.els then [d.els] else [])
section
variable {ro : Ro} {own r : Chs} {K : Value → Ro → Chs → Prop} {g : Chunk → Chs}
theorem kids_ok {d : NodeD} {a : NodeA} (ho : NodeOk ro d a) (hn : d.kids.length ≤ 1000000 ∧ d.fields.length ≤ 1000000 ∧ d.cases.length ≤ 1000000) (hk : ∀ a' n' c', n' = (kidsD d).length → n' ≤ c' → c' ≤ maxLen → K (.slice a' n' c') ro (.sl a' n' c' 3 1 (kidsV (kidsD d)) :: own)) :
    CallOk Tryz.prog 15 #[.agg (nodeV d a).toArray] ro own K := by
  have hr1 := ho.kids
  have hr3 := ho.fields
  have hr4 := ho.cases
  refine CallOk.intro (args := [_]) (rs := [_]) T_ok Tryz.func15 Tryz.call15 rfl rfl (by kernel_rfl) rfl rfl ?_
  repeat (first | exact endA | refine wkG ?_ | refine opB (fun b => ?_) | refine opA (fun a' c' hc1 hc2 => ?_) | (show GJ _ _ _ _ _ _ _; first | (apply GJ.and; exact rfl; intro hg) | (apply GJ.or; exact rfl; intro hg) | refine GJ.t omAuto ?_ | refine GJ.f omAuto ?_ | refine GJ.ft omAuto ?_ | refine GJ.ff omAuto ?_))
  refine cloneI_ok hr1 (kidsV_one _) (by omega) (fun a1 c1 h1 h2 => ?_)
  repeat (first | exact endA | refine wkG ?_ | refine opB (fun b => ?_) | refine opA (fun a' c' hc1 hc2 => ?_) | (show GJ _ _ _ _ _ _ _; first | (apply GJ.and; exact rfl; intro hg) | (apply GJ.or; exact rfl; intro hg) | refine GJ.t omAuto ?_ | refine GJ.f omAuto ?_ | refine GJ.ft omAuto ?_ | refine GJ.ff omAuto ?_))
  refine LoopOk.at (ι := Nat × List Value × Option Addr × Nat × Nat) Keep.auto (fun (i, cs, a1, n1, c1) => [(14, .int .i64 (i : Int)), (3, .slice a1 n1 c1)]) (fun (i, cs, a1, n1, c1) => .sl a1 n1 c1 3 1 cs :: .blk b 40 (nodeV d a) :: own) (fun (i, cs, a1, n1, c1) => i ≤ d.fields.length ∧ cs = kidsV (d.kids ++ (d.fields.take i).map (·.type)) ∧ n1 = d.kids.length + i ∧ n1 ≤ c1 ∧ c1 ≤ maxLen) (fun (i, cs, a1, n1, c1) => d.fields.length - i) (0, _, _, _, _) ?_ Sub.auto Sup.auto ?_
  · exact ⟨by omega, by simp, by omega, by omega, by omega⟩
  rintro ⟨i, cs, a1, n1, c1⟩ ⟨i1, rfl, rfl, i4, i5⟩
  dsimp only [List.cons_append, List.nil_append]
  repeat (first | exact endA | refine wkG ?_ | refine opB (fun b => ?_) | refine opA (fun a' c' hc1 hc2 => ?_) | (show GJ _ _ _ _ _ _ _; first | (apply GJ.and; exact rfl; intro hg) | (apply GJ.or; exact rfl; intro hg) | refine GJ.t omAuto ?_ | refine GJ.f omAuto ?_ | refine GJ.ft omAuto ?_ | refine GJ.ff omAuto ?_))
  refine Br.cases (fun hc => ?_) (fun hc => ?_)
  · have hd := fieldsV_drop d.fields (i := i) (by omega)
    have htk : d.fields.take (i + 1) = d.fields.take i ++ [d.fields[i]'(by omega)] := by rw [List.take_add_one, List.getElem?_eq_getElem (by omega)]; rfl
    generalize hf : d.fields[i]'(by omega) = f at hd htk
    repeat (first | exact endA | refine wkG ?_ | refine opB (fun b => ?_) | refine opA (fun a' c' hc1 hc2 => ?_) | (show GJ _ _ _ _ _ _ _; first | (apply GJ.and; exact rfl; intro hg) | (apply GJ.or; exact rfl; intro hg) | refine GJ.t omAuto ?_ | refine GJ.f omAuto ?_ | refine GJ.ft omAuto ?_ | refine GJ.ff omAuto ?_))
    rw [Int.toNat_natCast]
    refine OpOk.loadRow rfl rfl (LdN.at hr3 hd) rfl ?_
    repeat (first | exact endA | refine wkG ?_ | refine opB (fun b => ?_) | refine opA (fun a' c' hc1 hc2 => ?_) | (show GJ _ _ _ _ _ _ _; first | (apply GJ.and; exact rfl; intro hg) | (apply GJ.or; exact rfl; intro hg) | refine GJ.t omAuto ?_ | refine GJ.f omAuto ?_ | refine GJ.ft omAuto ?_ | refine GJ.ff omAuto ?_))
    refine Wk.id ⟨(i + 1, _, _, _, _), ⟨rfl, ?_⟩, ?_, Sub.auto, Sup.auto⟩
    all_goals try dsimp only
    · exact ⟨by omega, by rw [htk]; simp [kidsV], by omega, by omega, by omega⟩
    · omega
  · obtain rfl : i = d.fields.length := by omega
    rw [List.take_length]
    repeat (first | exact endA | refine wkG ?_ | refine opB (fun b => ?_) | refine opA (fun a' c' hc1 hc2 => ?_) | (show GJ _ _ _ _ _ _ _; first | (apply GJ.and; exact rfl; intro hg) | (apply GJ.or; exact rfl; intro hg) | refine GJ.t omAuto ?_ | refine GJ.f omAuto ?_ | refine GJ.ft omAuto ?_ | refine GJ.ff omAuto ?_))
    refine LoopOk.at (ι := Nat × List Value × Option Addr × Nat × Nat) Keep.auto (fun (i, cs, a1, n1, c1) => [(27, .int .i64 (i : Int)), (3, .slice a1 n1 c1)]) (fun (i, cs, a1, n1, c1) => .sl a1 n1 c1 3 1 cs :: .blk b 40 (nodeV d a) :: own) (fun (i, cs, a1, n1, c1) => i ≤ d.cases.length ∧ cs = kidsV (d.kids ++ d.fields.map (·.type) ++ (d.cases.take i).map (·.type)) ∧ n1 = d.kids.length + d.fields.length + i ∧ n1 ≤ c1 ∧ c1 ≤ maxLen) (fun (i, cs, a1, n1, c1) => d.cases.length - i) (0, _, _, _, _) ?_ Sub.auto Sup.auto ?_
    · exact ⟨by omega, by simp, by omega, by omega, by omega⟩
    rintro ⟨i, cs, a1, n1, c1⟩ ⟨i1, rfl, rfl, i4, i5⟩
    dsimp only [List.cons_append, List.nil_append]
    repeat (first | exact endA | refine wkG ?_ | refine opB (fun b => ?_) | refine opA (fun a' c' hc1 hc2 => ?_) | (show GJ _ _ _ _ _ _ _; first | (apply GJ.and; exact rfl; intro hg) | (apply GJ.or; exact rfl; intro hg) | refine GJ.t omAuto ?_ | refine GJ.f omAuto ?_ | refine GJ.ft omAuto ?_ | refine GJ.ff omAuto ?_))
    refine Br.cases (fun hc => ?_) (fun hc => ?_)
    · have hd := casesV_drop d.cases (i := i) (by omega)
      have htk : d.cases.take (i + 1) = d.cases.take i ++ [d.cases[i]'(by omega)] := by rw [List.take_add_one, List.getElem?_eq_getElem (by omega)]; rfl
      generalize hf : d.cases[i]'(by omega) = f at hd htk
      repeat (first | exact endA | refine wkG ?_ | refine opB (fun b => ?_) | refine opA (fun a' c' hc1 hc2 => ?_) | (show GJ _ _ _ _ _ _ _; first | (apply GJ.and; exact rfl; intro hg) | (apply GJ.or; exact rfl; intro hg) | refine GJ.t omAuto ?_ | refine GJ.f omAuto ?_ | refine GJ.ft omAuto ?_ | refine GJ.ff omAuto ?_))
      rw [Int.toNat_natCast]
      refine OpOk.loadRow rfl rfl (LdN.at hr4 hd) rfl ?_
      repeat (first | exact endA | refine wkG ?_ | refine opB (fun b => ?_) | refine opA (fun a' c' hc1 hc2 => ?_) | (show GJ _ _ _ _ _ _ _; first | (apply GJ.and; exact rfl; intro hg) | (apply GJ.or; exact rfl; intro hg) | refine GJ.t omAuto ?_ | refine GJ.f omAuto ?_ | refine GJ.ft omAuto ?_ | refine GJ.ff omAuto ?_))
      refine Wk.id ⟨(i + 1, _, _, _, _), ⟨rfl, ?_⟩, ?_, Sub.auto, Sup.auto⟩
      all_goals try dsimp only
      · exact ⟨by omega, by rw [htk]; simp [kidsV], by omega, by omega, by omega⟩
      · omega
    · obtain rfl : i = d.cases.length := by omega
      rw [List.take_length]
      repeat (first | exact endA | refine wkG ?_ | refine opB (fun b => ?_) | refine opA (fun a' c' hc1 hc2 => ?_) | (show GJ _ _ _ _ _ _ _; first | (apply GJ.and; exact rfl; intro hg) | (apply GJ.or; exact rfl; intro hg) | refine GJ.t omAuto ?_ | refine GJ.f omAuto ?_ | refine GJ.ft omAuto ?_ | refine GJ.ff omAuto ?_))
      have hkl : (kidsD d).length = d.kids.length + d.fields.length + d.cases.length + (if d.kind = 9 ∧ 0 ≤ d.els then 1 else 0) := by
        unfold kidsD
        split <;> simp <;> omega
      refine SeqOk.pass ?_
      repeat (first | exact endA | refine wkG ?_ | refine opB (fun b => ?_) | refine opA (fun a' c' hc1 hc2 => ?_) | (show GJ _ _ _ _ _ _ _; first | (apply GJ.and; exact rfl; intro hg) | (apply GJ.or; exact rfl; intro hg) | refine GJ.t omAuto ?_ | refine GJ.f omAuto ?_ | refine GJ.ft omAuto ?_ | refine GJ.ff omAuto ?_))
      refine Br.cases (fun he => ?_) (fun he => ?_)
      · rw [if_pos (by omega)] at hkl
        have hks : kidsV (d.kids ++ d.fields.map (·.type) ++ d.cases.map (·.type)) ++ [.int .i64 d.els] = kidsV (kidsD d) := by rw [kidsD, if_pos (by omega)]; simp [kidsV]
        repeat (first | exact endA | refine wkG ?_ | refine opB (fun b => ?_) | refine opA (fun a' c' hc1 hc2 => ?_) | (show GJ _ _ _ _ _ _ _; first | (apply GJ.and; exact rfl; intro hg) | (apply GJ.or; exact rfl; intro hg) | refine GJ.t omAuto ?_ | refine GJ.f omAuto ?_ | refine GJ.ft omAuto ?_ | refine GJ.ff omAuto ?_))
        rw [hks]
        exact Wk.outS Sup.auto (.refl _) (hk _ _ _ (by omega) (by omega) (by omega))
      · rw [if_neg (by omega)] at hkl
        have hks : kidsV (d.kids ++ d.fields.map (·.type) ++ d.cases.map (·.type)) = kidsV (kidsD d) := by rw [kidsD, if_neg (by omega)]; simp [kidsV]
        rw [hks]
        repeat (first | exact endA | refine wkG ?_ | refine opB (fun b => ?_) | refine opA (fun a' c' hc1 hc2 => ?_) | (show GJ _ _ _ _ _ _ _; first | (apply GJ.and; exact rfl; intro hg) | (apply GJ.or; exact rfl; intro hg) | refine GJ.t omAuto ?_ | refine GJ.f omAuto ?_ | refine GJ.ft omAuto ?_ | refine GJ.ff omAuto ?_))
        exact Wk.outS Sup.auto (.refl _) (hk _ _ _ (by omega) (by omega) (by omega))
theorem number_ok {d : NodeD} {a : NodeA} (hk : K (.bool (decide (d.kind = 1 ∨ d.kind = 2))) ro own) : CallOk Tryz.prog 20 #[.agg (nodeV d a).toArray] ro own K := by
  refine CallOk.intro (args := [_]) (rs := [_]) T_ok Tryz.func20 Tryz.call20 rfl rfl (by kernel_rfl) rfl rfl ?_
  repeat (first | exact endA | refine wkG ?_ | refine opB (fun b => ?_) | refine opA (fun a' c' hc1 hc2 => ?_) | (show GJ _ _ _ _ _ _ _; first | (apply GJ.and; exact rfl; intro hg) | (apply GJ.or; exact rfl; intro hg) | refine GJ.t omAuto ?_ | refine GJ.f omAuto ?_ | refine GJ.ft omAuto ?_ | refine GJ.ff omAuto ?_))
  have e : (decide (d.kind = 1) || decide (d.kind = 2)) = decide (d.kind = 1 ∨ d.kind = 2) := by rw [Bool.eq_iff_iff]; simp
  rw [← e] at hk
  exact Wk.outS Sup.auto (.refl _) hk
def mostD (d : NodeD) : Nat := if d.kind = 1 then mostN d.width else 18446744073709551615
theorem smost_ok {d : NodeD} {a : NodeA} (hk : K (.int .u64 (mostD d : Nat)) ro own) : CallOk Tryz.prog 22 #[.agg (nodeV d a).toArray] ro own K := by
  refine CallOk.intro (args := [_]) (rs := [_]) T_ok Tryz.func22 Tryz.call22 rfl rfl (by kernel_rfl) rfl rfl ?_
  repeat (first | exact endA | refine wkG ?_ | refine opB (fun b => ?_) | refine opA (fun a' c' hc1 hc2 => ?_) | (show GJ _ _ _ _ _ _ _; first | (apply GJ.and; exact rfl; intro hg) | (apply GJ.or; exact rfl; intro hg) | refine GJ.t omAuto ?_ | refine GJ.f omAuto ?_ | refine GJ.ft omAuto ?_ | refine GJ.ff omAuto ?_))
  refine Br.cases (fun he => ?_) (fun he => ?_)
  · rw [mostD, if_pos he] at hk
    repeat (first | exact endA | refine wkG ?_ | refine opB (fun b => ?_) | refine opA (fun a' c' hc1 hc2 => ?_) | (show GJ _ _ _ _ _ _ _; first | (apply GJ.and; exact rfl; intro hg) | (apply GJ.or; exact rfl; intro hg) | refine GJ.t omAuto ?_ | refine GJ.f omAuto ?_ | refine GJ.ft omAuto ?_ | refine GJ.ff omAuto ?_))
    refine most_ok ?_
    repeat (first | exact endA | refine wkG ?_ | refine opB (fun b => ?_) | refine opA (fun a' c' hc1 hc2 => ?_) | (show GJ _ _ _ _ _ _ _; first | (apply GJ.and; exact rfl; intro hg) | (apply GJ.or; exact rfl; intro hg) | refine GJ.t omAuto ?_ | refine GJ.f omAuto ?_ | refine GJ.ft omAuto ?_ | refine GJ.ff omAuto ?_))
    exact Wk.outS Sup.auto (.refl _) hk
  · rw [mostD, if_neg he] at hk
    repeat (first | exact endA | refine wkG ?_ | refine opB (fun b => ?_) | refine opA (fun a' c' hc1 hc2 => ?_) | (show GJ _ _ _ _ _ _ _; first | (apply GJ.and; exact rfl; intro hg) | (apply GJ.or; exact rfl; intro hg) | refine GJ.t omAuto ?_ | refine GJ.f omAuto ?_ | refine GJ.ft omAuto ?_ | refine GJ.ff omAuto ?_))
    exact Wk.outS Sup.auto (.refl _) hk
end
end Go.Proofs.YtnapjcnfgdkmcaaGreatDoor
end
section
/- Contracts of spec: form. -/
namespace Go.Proofs.YtnapjcnfgdkmcaaGreatDoor
open Go Go.E
set_option linter.unusedVariables false
set_option maxRecDepth 10000
def plainD (d : NodeD) : Int :=
  if d.kind = 1 ∧ ¬ (1 ≤ d.width ∧ d.width ≤ 8) then 1
  else if (d.kind ≠ 1 ∧ (d.width ≠ 0 ∨ d.little = true)) ∨ (d.width = 1 ∧ d.little = true) ∨ (d.kind ≠ 2 ∧ (d.zig = true ∨ d.lenient = true)) then 5
  else if (d.kind = 1 ∨ d.kind = 2) ∧ (d.max < d.min ∨ mostD d < d.max) then 1
  else if ¬ (d.kind = 1 ∨ d.kind = 2) ∧ (d.min ≠ 0 ∨ d.max ≠ 0) then 5
  else if ¬ ((d.kind = 3 ∨ d.kind = 13) ↔ d.text ≠ []) then 5
  else if (¬ (d.kind = 4 ∨ d.kind = 6 ∨ d.kind = 8) ∧ (d.ereg ≠ [] ∨ d.emul ≠ 0 ∨ d.eadd ≠ 0)) ∨ (d.ereg = [] ∧ d.emul ≠ 0) ∨ (d.ereg ≠ [] ∧ d.emul = 0) then 5
  else 0
def formD (d : NodeD) : Int :=
  if d.kind < 1 ∨ 13 < d.kind then 5
  else if ((d.kind = 6 ∨ d.kind = 7 ∨ d.kind = 8) ∧ d.kids.length ≠ 1) ∨ ((d.kind = 10 ∨ d.kind = 11) ∧ d.kids.length < 1) ∨ (¬ (d.kind = 6 ∨ d.kind = 7 ∨ d.kind = 8) ∧ ¬ (d.kind = 10 ∨ d.kind = 11) ∧ 0 < d.kids.length) then 5
  else if (d.kind = 11 ∧ d.last.length ≠ d.kids.length) ∨ (d.kind ≠ 11 ∧ 0 < d.last.length) then 5
  else if ¬ (d.kind = 5 ↔ 0 < d.fields.length) ∨ (d.kind ≠ 9 ∧ 0 < d.cases.length) then 5
  else if (d.kind = 9 ∧ (d.reg = [] ∨ d.cases.length = 0)) ∨ (d.kind ≠ 9 ∧ (d.reg ≠ [] ∨ d.mod ≠ 0 ∨ d.els ≠ 0)) then 5
  else if d.kind = 9 ∧ d.els < -1 then 5
  else if 64 < d.kids.length ∨ 64 < d.fields.length ∨ 64 < d.cases.length then 2
  else plainD d
section
variable {ro : Ro} {own r : Chs} {K : Value → Ro → Chs → Prop} {g : Chunk → Chs}
theorem plain_ok {d : NodeD} {a : NodeA} (hk : K (.int .i64 (plainD d)) ro own) : CallOk Tryz.prog 74 #[.agg (nodeV d a).toArray] ro own K := by
  refine CallOk.intro (args := [_]) (rs := [_]) T_ok Tryz.func74 Tryz.call74 rfl rfl (by kernel_rfl) rfl rfl ?_
  repeat' (first | exact endA | refine wkT ?_ | refine opB (fun b => ?_) | refine opA (fun a' c' hc1 hc2 => ?_) | (apply GJ.and; exact rfl; intro hg) | (apply GJ.or; exact rfl; intro hg) | refine SeqOk.pass ?_ | refine Br.cases (fun h => ?_) (fun h => ?_) | (show GJ _ _ _ _ _ _ _; first | refine GJ.casesT (fun h => ?_) (fun h => ?_) | refine GJ.casesF (fun h => ?_) (fun h => ?_)) | refine Bs.all ?_ | (show QOk _ _ _ _ _ _ _; refine QOk.build rfl rfl Nf.auto ?_) | (show OpOk _ _ _ _ _ _ _; refine OpOk.neqStruct rfl rfl rfl rfl (by kernel_rfl) (by kernel_rfl) (by kernel_rfl) ?_) | (show CallOk _ _ _ _ _ _; first | refine width_ok ?_ | refine number_ok ?_ | refine smost_ok ?_))
  all_goals refine Wk.outV Sup.auto hk (congrArg (Value.int .i64) ?_)
  all_goals (unfold plainD; grind (splits := 50))
theorem form_ok {d : NodeD} {a : NodeA} (hk : K (.int .i64 (formD d)) ro own) : CallOk Tryz.prog 44 #[.agg (nodeV d a).toArray] ro own K := by
  refine CallOk.intro (args := [_]) (rs := [_]) T_ok Tryz.func44 Tryz.call44 rfl rfl (by kernel_rfl) rfl rfl ?_
  repeat' (first | exact endA | refine wkT ?_ | refine opB (fun b => ?_) | refine opA (fun a' c' hc1 hc2 => ?_) | (apply GJ.and; exact rfl; intro hg) | (apply GJ.or; exact rfl; intro hg) | refine SeqOk.pass ?_ | refine Br.cases (fun h => ?_) (fun h => ?_) | (show GJ _ _ _ _ _ _ _; first | refine GJ.casesT (fun h => ?_) (fun h => ?_) | refine GJ.casesF (fun h => ?_) (fun h => ?_)) | refine Bs.all ?_ | (show QOk _ _ _ _ _ _ _; refine QOk.build rfl rfl Nf.auto ?_) | (show OpOk _ _ _ _ _ _ _; refine OpOk.neqStruct rfl rfl rfl rfl (by kernel_rfl) (by kernel_rfl) (by kernel_rfl) ?_) | (show CallOk _ _ _ _ _ _; first | refine plain_ok ?_))
  all_goals refine Wk.outV Sup.auto hk (congrArg (Value.int .i64) ?_)
  all_goals (unfold formD; grind (splits := 50))
end
end Go.Proofs.YtnapjcnfgdkmcaaGreatDoor
end
section
/- Contracts of spec: Check, Def, Root. -/
namespace Go.Proofs.YtnapjcnfgdkmcaaGreatDoor
open Go Go.E
set_option linter.unusedVariables false
set_option maxRecDepth 10000
/-- Where a specification's slices lie. -/
structure SpecA where
  na : Option Addr
  nc : Nat
  da : Option Addr
  dc : Nat
  xs : List NodeA
def specV (s : SpecD) (a : SpecA) : List Value := [.slice a.na s.nodes.length a.nc, .slice a.da s.defs.length a.dc]
def nodesV : List NodeD → List NodeA → List Value
  | d :: ds, a :: xs => nodeV d a ++ nodesV ds xs
  | _, _ => []
structure SpecOk (ro : Ro) (s : SpecD) (a : SpecA) : Prop where
  len : a.xs.length = s.nodes.length
  nodes : Rs ro a.na s.nodes.length a.nc 18 (nodesV s.nodes a.xs)
  each : ∀ (i : Nat) (d : NodeD) (x : NodeA), s.nodes[i]? = some d → a.xs[i]? = some x → NodeOk ro d x
  defs : Rs ro a.da s.defs.length a.dc 2 (defsV s.defs)
theorem nodesV_drop : ∀ (ds : List NodeD) (xs : List NodeA) (i : Nat) (d : NodeD) (a : NodeA), ds[i]? = some d → xs[i]? = some a → ((nodesV ds xs).drop (i * 18)).take 18 = nodeV d a := by
  intro ds
  induction ds with
  | nil => intro xs i d a h; simp at h
  | cons x ds ih =>
    intro xs i d a h1 h2
    cases xs with
    | nil => simp at h2
    | cons y xs =>
      cases i with
      | zero => simp at h1 h2; subst h1; subst h2; rfl
      | succ i =>
        rw [show (i + 1) * 18 = i * 18 + 18 by omega, Nat.add_comm]
        show List.take 18 (List.drop (18 + i * 18) (nodeV x y ++ nodesV ds xs)) = _
        rw [← List.drop_drop, List.drop_left' (by rfl)]
        exact ih xs i d a (by simpa using h1) (by simpa using h2)
/-! ### what Check answers -/
def ownAll (lim : Nat) : List Int → List Bool → Except Int (List Bool)
  | [], o => .ok o
  | k :: ks, o => if k < 0 ∨ (lim : Int) ≤ k then .error 3 else if o[k.toNat]! = true then .error 4 else ownAll lim ks (o.set k.toNat true)
def nodesAll : Nat → List NodeD → List Bool → Except Int (List Bool)
  | _, [], o => .ok o
  | i, d :: ds, o => if formD d ≠ 0 then .error (formD d) else match ownAll i (kidsD d) o with
    | .error e => .error e
    | .ok o => nodesAll (i + 1) ds o
def checkE (s : SpecD) : Except Int (List Bool) := match nodesAll 0 s.nodes (List.replicate s.nodes.length false) with
  | .error e => .error e
  | .ok o => ownAll s.nodes.length (s.defs.map (·.type)) o
def checkD (s : SpecD) : Int := if 2048 < s.nodes.length ∨ 64 < s.defs.length ∨ s.defs.length = 0 then 2 else match checkE s with
  | .error e => e
  | .ok o => if false ∈ o then 3 else 0
theorem form_small {d : NodeD} (h : formD d = 0) : d.kids.length ≤ 64 ∧ d.fields.length ≤ 64 ∧ d.cases.length ≤ 64 := by
  unfold formD at h
  grind
section
variable {ro : Ro} {own r : Chs} {K : Value → Ro → Chs → Prop} {g : Chunk → Chs}
theorem drop_bang {α : Type} [Inhabited α] {l : List α} {j : Nat} (h : j < l.length) : l.drop j = l[j]! :: l.drop (j + 1) := by
  rw [List.drop_eq_getElem_cons h, List.getElem!_eq_getElem?_getD, List.getElem?_eq_getElem h]; rfl
theorem lastV_get {o : List Bool} {k : Nat} (h : k < o.length) : (lastV o)[k]? = some (.bool o[k]!) := getMap h
theorem lastV_set (o : List Bool) (k : Nat) (b : Bool) : (lastV o).set k (.bool b) = lastV (o.set k b) := by simp [lastV, List.map_set]
theorem containsB_ok {a : Option Addr} {n c : Nat} {o : List Bool} (hr : Rds ro own a n c 1 (lastV o)) (hk : K (.bool (decide (false ∈ o))) ro own) : CallOk Tryz.prog 45 #[.slice a n c, .bool false] ro own K := by
  have hn : o.length = n := by have := hr.n1; simpa [lastV] using this
  have hm := hr.max
  have hidx : ∀ K' : Value → Ro → Chs → Prop, (∀ i : Int, -1 ≤ i → i ≤ maxLen → (0 ≤ i ↔ false ∈ o) → K' (.int .i64 i) ro own) → CallOk Tryz.prog 75 #[.slice a n c, .bool false] ro own K' := by
    intro K' hk'
    have hle := hr.le
    unfold maxLen at hm hk'
    refine CallOk.intro (args := [_, _]) (rs := [_]) T_ok Tryz.func75 Tryz.call75 rfl rfl (by kernel_rfl) rfl rfl ?_
    repeat (first | exact endA | refine wkG ?_ | refine opB (fun b => ?_) | refine opA (fun a' c' hc1 hc2 => ?_) | (show GJ _ _ _ _ _ _ _; first | (apply GJ.and; exact rfl; intro hg) | (apply GJ.or; exact rfl; intro hg) | refine GJ.t omAuto ?_ | refine GJ.f omAuto ?_ | refine GJ.ft omAuto ?_ | refine GJ.ff omAuto ?_))
    refine LoopOk.at (ι := Nat) Keep.auto (fun i => [(8, .int .i64 (i : Int))]) (fun i => own) (fun i => i ≤ n ∧ ¬ false ∈ o.take i) (fun i => n - i) 0 ?_ Sub.auto Sup.auto ?_
    · exact ⟨by omega, by simp⟩
    rintro i ⟨i1, i2⟩
    dsimp only [List.cons_append, List.nil_append]
    repeat (first | exact endA | refine wkG ?_ | refine opB (fun b => ?_) | refine opA (fun a' c' hc1 hc2 => ?_) | (show GJ _ _ _ _ _ _ _; first | (apply GJ.and; exact rfl; intro hg) | (apply GJ.or; exact rfl; intro hg) | refine GJ.t omAuto ?_ | refine GJ.f omAuto ?_ | refine GJ.ft omAuto ?_ | refine GJ.ff omAuto ?_))
    refine Br.cases (fun hc => ?_) (fun hc => ?_)
    · have hget := lastV_get (o := o) (k := i) (by omega)
      have htk : o.take (i + 1) = o.take i ++ [o[i]!] := by rw [List.take_add_one, List.getElem?_eq_getElem (by omega), List.getElem!_eq_getElem?_getD, List.getElem?_eq_getElem (by omega)]; rfl
      have hmem : o[i]! ∈ o := by rw [List.getElem!_eq_getElem?_getD, List.getElem?_eq_getElem (by omega)]; exact List.getElem_mem _
      repeat (first | exact endA | refine wkG ?_ | refine opB (fun b => ?_) | refine opA (fun a' c' hc1 hc2 => ?_) | (show GJ _ _ _ _ _ _ _; first | (apply GJ.and; exact rfl; intro hg) | (apply GJ.or; exact rfl; intro hg) | refine GJ.t omAuto ?_ | refine GJ.f omAuto ?_ | refine GJ.ft omAuto ?_ | refine GJ.ff omAuto ?_))
      rw [Int.toNat_natCast]
      refine Br.cases (fun hd => ?_) (fun hd => ?_)
      · repeat (first | exact endA | refine wkG ?_ | refine opB (fun b => ?_) | refine opA (fun a' c' hc1 hc2 => ?_) | (show GJ _ _ _ _ _ _ _; first | (apply GJ.and; exact rfl; intro hg) | (apply GJ.or; exact rfl; intro hg) | refine GJ.t omAuto ?_ | refine GJ.f omAuto ?_ | refine GJ.ft omAuto ?_ | refine GJ.ff omAuto ?_))
        exact Wk.outS Sup.auto (.refl _) (hk' i (by omega) (by omega) ⟨fun _ => hd ▸ hmem, fun _ => by omega⟩)
      · repeat (first | exact endA | refine wkG ?_ | refine opB (fun b => ?_) | refine opA (fun a' c' hc1 hc2 => ?_) | (show GJ _ _ _ _ _ _ _; first | (apply GJ.and; exact rfl; intro hg) | (apply GJ.or; exact rfl; intro hg) | refine GJ.t omAuto ?_ | refine GJ.f omAuto ?_ | refine GJ.ft omAuto ?_ | refine GJ.ff omAuto ?_))
        refine Wk.id ⟨i + 1, ⟨rfl, ?_⟩, ?_, Sub.auto, Sup.auto⟩
        all_goals try dsimp only
        · refine ⟨by omega, fun hm2 => ?_⟩
          rw [htk, List.mem_append] at hm2
          rcases hm2 with hm2 | hm2
          · exact i2 hm2
          · exact hd (List.mem_singleton.1 hm2)
        · omega
    · obtain rfl : i = n := by omega
      rw [List.take_of_length_le (by omega)] at i2
      repeat (first | exact endA | refine wkG ?_ | refine opB (fun b => ?_) | refine opA (fun a' c' hc1 hc2 => ?_) | (show GJ _ _ _ _ _ _ _; first | (apply GJ.and; exact rfl; intro hg) | (apply GJ.or; exact rfl; intro hg) | refine GJ.t omAuto ?_ | refine GJ.f omAuto ?_ | refine GJ.ft omAuto ?_ | refine GJ.ff omAuto ?_))
      exact Wk.outS Sup.auto (.refl _) (hk' (-1) (by omega) (by omega) ⟨fun h => by omega, fun h => absurd h i2⟩)
  refine CallOk.intro (args := [_, _]) (rs := [_]) T_ok Tryz.func45 Tryz.call45 rfl rfl (by kernel_rfl) rfl rfl ?_
  repeat (first | exact endA | refine wkG ?_ | refine opB (fun b => ?_) | refine opA (fun a' c' hc1 hc2 => ?_) | (show GJ _ _ _ _ _ _ _; first | (apply GJ.and; exact rfl; intro hg) | (apply GJ.or; exact rfl; intro hg) | refine GJ.t omAuto ?_ | refine GJ.f omAuto ?_ | refine GJ.ft omAuto ?_ | refine GJ.ff omAuto ?_))
  refine hidx _ (fun i h1 h2 h3 => ?_)
  repeat (first | exact endA | refine wkG ?_ | refine opB (fun b => ?_) | refine opA (fun a' c' hc1 hc2 => ?_) | (show GJ _ _ _ _ _ _ _; first | (apply GJ.and; exact rfl; intro hg) | (apply GJ.or; exact rfl; intro hg) | refine GJ.t omAuto ?_ | refine GJ.f omAuto ?_ | refine GJ.ft omAuto ?_ | refine GJ.ff omAuto ?_))
  refine Wk.outV Sup.auto hk (congrArg Value.bool ?_)
  exact decide_eq_decide.2 h3.symm
set_option maxHeartbeats 1000000 in
theorem check_ok {s : SpecD} {a : SpecA} (ho : SpecOk ro s a) (hk : K (.int .i64 (checkD s)) ro own) : CallOk Tryz.prog 13 #[.agg (specV s a).toArray] ro own K := by
  have hr1 := ho.nodes
  have hr2 := ho.defs
  have hlen := ho.len
  have hm1 := hr1.max
  have hm2 := hr2.max
  have hle1 := hr1.le
  have hle2 := hr2.le
  unfold maxLen at hm1 hm2
  refine CallOk.intro (args := [_]) (rs := [_]) T_ok Tryz.func13 Tryz.call13 rfl rfl (by kernel_rfl) rfl rfl ?_
  repeat (first | exact endA | refine wkG ?_ | refine opB (fun b => ?_) | refine opA (fun a' c' hc1 hc2 => ?_) | (show GJ _ _ _ _ _ _ _; first | (apply GJ.and; exact rfl; intro hg) | (apply GJ.or; exact rfl; intro hg) | refine GJ.t omAuto ?_ | refine GJ.f omAuto ?_ | refine GJ.ft omAuto ?_ | refine GJ.ff omAuto ?_))
  refine Br.cases (fun hc => ?_) (fun hc => ?_)
  · have e : checkD s = 2 := by unfold checkD; rw [if_pos (by omega)]
    rw [e] at hk
    repeat (first | exact endA | refine wkG ?_ | refine opB (fun b => ?_) | refine opA (fun a' c' hc1 hc2 => ?_) | (show GJ _ _ _ _ _ _ _; first | (apply GJ.and; exact rfl; intro hg) | (apply GJ.or; exact rfl; intro hg) | refine GJ.t omAuto ?_ | refine GJ.f omAuto ?_ | refine GJ.ft omAuto ?_ | refine GJ.ff omAuto ?_))
    exact Wk.outS Sup.auto (.refl _) hk
  have e : checkD s = match checkE s with
    | .error e => e
    | .ok o => if false ∈ o then 3 else 0 := by unfold checkD; rw [if_neg (by omega)]
  repeat (first | exact endA | refine wkG ?_ | refine opB (fun b => ?_) | refine opA (fun a' c' hc1 hc2 => ?_) | (show GJ _ _ _ _ _ _ _; first | (apply GJ.and; exact rfl; intro hg) | (apply GJ.or; exact rfl; intro hg) | refine GJ.t omAuto ?_ | refine GJ.f omAuto ?_ | refine GJ.ft omAuto ?_ | refine GJ.ff omAuto ?_))
  rename_i b0
  refine LoopOk.at (ι := Nat × List Value × List Bool) Keep.auto (fun (i, cs, o) => [(34, .int .i64 (i : Int))]) (fun (i, cs, o) => .sl (some ⟨b, 0, none⟩) s.nodes.length s.nodes.length 4 1 cs :: .blk b0 25 (specV s a) :: own) (fun (i, cs, o) => i ≤ s.nodes.length ∧ o.length = s.nodes.length ∧ cs = lastV o ∧ nodesAll i (s.nodes.drop i) o = nodesAll 0 s.nodes (List.replicate s.nodes.length false)) (fun (i, cs, o) => s.nodes.length - i) (0, _, List.replicate s.nodes.length false) ?_ Sub.auto Sup.auto ?_
  · exact ⟨by omega, by simp, by simp [lastV], rfl⟩
  rintro ⟨i, cs, o⟩ ⟨i1, i2, rfl, i3⟩
  dsimp only [List.cons_append, List.nil_append]
  repeat (first | exact endA | refine wkG ?_ | refine opB (fun b => ?_) | refine opA (fun a' c' hc1 hc2 => ?_) | (show GJ _ _ _ _ _ _ _; first | (apply GJ.and; exact rfl; intro hg) | (apply GJ.or; exact rfl; intro hg) | refine GJ.t omAuto ?_ | refine GJ.f omAuto ?_ | refine GJ.ft omAuto ?_ | refine GJ.ff omAuto ?_))
  refine Br.cases (fun hd => ?_) (fun hd => ?_)
  · obtain ⟨d, hd1⟩ : ∃ d, s.nodes[i]? = some d := ⟨_, List.getElem?_eq_getElem (by omega)⟩
    obtain ⟨x, hx1⟩ : ∃ x, a.xs[i]? = some x := ⟨_, List.getElem?_eq_getElem (by omega)⟩
    have hno := ho.each i d x hd1 hx1
    have hdrop := nodesV_drop _ _ _ _ _ hd1 hx1
    rw [List.drop_eq_getElem_cons (by omega), (List.getElem?_eq_some_iff.1 hd1).2, nodesAll] at i3
    repeat (first | exact endA | refine wkG ?_ | refine opB (fun b => ?_) | refine opA (fun a' c' hc1 hc2 => ?_) | (show GJ _ _ _ _ _ _ _; first | (apply GJ.and; exact rfl; intro hg) | (apply GJ.or; exact rfl; intro hg) | refine GJ.t omAuto ?_ | refine GJ.f omAuto ?_ | refine GJ.ft omAuto ?_ | refine GJ.ff omAuto ?_))
    rw [Int.toNat_natCast]
    refine OpOk.loadRow rfl rfl (LdN.at hr1 hdrop) rfl ?_
    repeat (first | exact endA | refine wkG ?_ | refine opB (fun b => ?_) | refine opA (fun a' c' hc1 hc2 => ?_) | (show GJ _ _ _ _ _ _ _; first | (apply GJ.and; exact rfl; intro hg) | (apply GJ.or; exact rfl; intro hg) | refine GJ.t omAuto ?_ | refine GJ.f omAuto ?_ | refine GJ.ft omAuto ?_ | refine GJ.ff omAuto ?_))
    refine form_ok ?_
    repeat (first | exact endA | refine wkG ?_ | refine opB (fun b => ?_) | refine opA (fun a' c' hc1 hc2 => ?_) | (show GJ _ _ _ _ _ _ _; first | (apply GJ.and; exact rfl; intro hg) | (apply GJ.or; exact rfl; intro hg) | refine GJ.t omAuto ?_ | refine GJ.f omAuto ?_ | refine GJ.ft omAuto ?_ | refine GJ.ff omAuto ?_))
    refine Br.cases (fun hf => ?_) (fun hf => ?_)
    · rw [if_pos hf] at i3
      have e2 : checkD s = formD d := by rw [e, checkE, ← i3]
      rw [e2] at hk
      repeat (first | exact endA | refine wkG ?_ | refine opB (fun b => ?_) | refine opA (fun a' c' hc1 hc2 => ?_) | (show GJ _ _ _ _ _ _ _; first | (apply GJ.and; exact rfl; intro hg) | (apply GJ.or; exact rfl; intro hg) | refine GJ.t omAuto ?_ | refine GJ.f omAuto ?_ | refine GJ.ft omAuto ?_ | refine GJ.ff omAuto ?_))
      exact Wk.outS Sup.auto (.refl _) hk
    · rw [if_neg hf] at i3
      have hsm := form_small (d := d) (by omega)
      repeat (first | exact endA | refine wkG ?_ | refine opB (fun b => ?_) | refine opA (fun a' c' hc1 hc2 => ?_) | (show GJ _ _ _ _ _ _ _; first | (apply GJ.and; exact rfl; intro hg) | (apply GJ.or; exact rfl; intro hg) | refine GJ.t omAuto ?_ | refine GJ.f omAuto ?_ | refine GJ.ft omAuto ?_ | refine GJ.ff omAuto ?_))
      refine kids_ok hno (by omega) (fun a' n' c' h1 h2 h3 => ?_)
      generalize hks : kidsD d = ks at *
      repeat (first | exact endA | refine wkG ?_ | refine opB (fun b => ?_) | refine opA (fun a' c' hc1 hc2 => ?_) | (show GJ _ _ _ _ _ _ _; first | (apply GJ.and; exact rfl; intro hg) | (apply GJ.or; exact rfl; intro hg) | refine GJ.t omAuto ?_ | refine GJ.f omAuto ?_ | refine GJ.ft omAuto ?_ | refine GJ.ff omAuto ?_))
      rename_i b1
      refine LoopOk.at (ι := Nat × List Bool) Keep.auto (fun (j, o2) => [(47, .int .i64 (j : Int))]) (fun (j, o2) => .sl a' n' c' 3 1 (kidsV ks) :: .blk b 40 (nodeV d x) :: .sl (some ⟨b1, 0, none⟩) s.nodes.length s.nodes.length 4 1 (lastV o2) :: .blk b0 25 (specV s a) :: own) (fun (j, o2) => j ≤ n' ∧ o2.length = s.nodes.length ∧ ownAll i (ks.drop j) o2 = ownAll i ks o) (fun (j, o2) => n' - j) (0, o) ?_ Sub.auto Sup.auto ?_
      · exact ⟨by omega, i2, rfl⟩
      rintro ⟨j, o2⟩ ⟨j1, j2, j3⟩
      dsimp only [List.cons_append, List.nil_append]
      repeat (first | exact endA | refine wkG ?_ | refine opB (fun b => ?_) | refine opA (fun a' c' hc1 hc2 => ?_) | (show GJ _ _ _ _ _ _ _; first | (apply GJ.and; exact rfl; intro hg) | (apply GJ.or; exact rfl; intro hg) | refine GJ.t omAuto ?_ | refine GJ.f omAuto ?_ | refine GJ.ft omAuto ?_ | refine GJ.ff omAuto ?_))
      refine Br.cases (fun hg => ?_) (fun hg => ?_)
      · rw [drop_bang (by omega), ownAll] at j3
        repeat (first | exact endA | refine wkG ?_ | refine opB (fun b => ?_) | refine opA (fun a' c' hc1 hc2 => ?_) | (show GJ _ _ _ _ _ _ _; first | (apply GJ.and; exact rfl; intro hg) | (apply GJ.or; exact rfl; intro hg) | refine GJ.t omAuto ?_ | refine GJ.f omAuto ?_ | refine GJ.ft omAuto ?_ | refine GJ.ff omAuto ?_))
        rw [Int.toNat_natCast]
        generalize ks[j]! = k at j3
        refine Br.cases (fun hh => ?_) (fun hh => ?_)
        · rw [if_pos (by omega)] at j3
          rw [← j3] at i3
          have e2 : checkD s = 3 := by rw [e, checkE, ← i3]
          rw [e2] at hk
          repeat (first | exact endA | refine wkG ?_ | refine opB (fun b => ?_) | refine opA (fun a' c' hc1 hc2 => ?_) | (show GJ _ _ _ _ _ _ _; first | (apply GJ.and; exact rfl; intro hg) | (apply GJ.or; exact rfl; intro hg) | refine GJ.t omAuto ?_ | refine GJ.f omAuto ?_ | refine GJ.ft omAuto ?_ | refine GJ.ff omAuto ?_))
          exact Wk.outS Sup.auto (.refl _) hk
        · rw [if_neg (by omega)] at j3
          repeat (first | exact endA | refine wkG ?_ | refine opB (fun b => ?_) | refine opA (fun a' c' hc1 hc2 => ?_) | (show GJ _ _ _ _ _ _ _; first | (apply GJ.and; exact rfl; intro hg) | (apply GJ.or; exact rfl; intro hg) | refine GJ.t omAuto ?_ | refine GJ.f omAuto ?_ | refine GJ.ft omAuto ?_ | refine GJ.ff omAuto ?_))
          refine Br.cases (fun hi => ?_) (fun hi => ?_)
          · rw [if_pos hi] at j3
            rw [← j3] at i3
            have e2 : checkD s = 4 := by rw [e, checkE, ← i3]
            rw [e2] at hk
            repeat (first | exact endA | refine wkG ?_ | refine opB (fun b => ?_) | refine opA (fun a' c' hc1 hc2 => ?_) | (show GJ _ _ _ _ _ _ _; first | (apply GJ.and; exact rfl; intro hg) | (apply GJ.or; exact rfl; intro hg) | refine GJ.t omAuto ?_ | refine GJ.f omAuto ?_ | refine GJ.ft omAuto ?_ | refine GJ.ff omAuto ?_))
            exact Wk.outS Sup.auto (.refl _) hk
          · rw [if_neg hi] at j3
            repeat (first | exact endA | refine wkG ?_ | refine opB (fun b => ?_) | refine opA (fun a' c' hc1 hc2 => ?_) | (show GJ _ _ _ _ _ _ _; first | (apply GJ.and; exact rfl; intro hg) | (apply GJ.or; exact rfl; intro hg) | refine GJ.t omAuto ?_ | refine GJ.f omAuto ?_ | refine GJ.ft omAuto ?_ | refine GJ.ff omAuto ?_))
            refine OpOk.storeSl rfl rfl rfl rfl (by simp [lastV]; omega) ?_
            rw [lastV_set]
            have h3' := h3
            unfold maxLen at h3'
            repeat (first | exact endA | refine wkG ?_ | refine opB (fun b => ?_) | refine opA (fun a' c' hc1 hc2 => ?_) | (show GJ _ _ _ _ _ _ _; first | (apply GJ.and; exact rfl; intro hg) | (apply GJ.or; exact rfl; intro hg) | refine GJ.t omAuto ?_ | refine GJ.f omAuto ?_ | refine GJ.ft omAuto ?_ | refine GJ.ff omAuto ?_))
            refine Wk.id ⟨(j + 1, _), ⟨rfl, ?_⟩, ?_, Sub.auto, Sup.auto⟩
            all_goals try dsimp only
            · exact ⟨by omega, by simp [j2], j3⟩
            · omega
      · obtain rfl : j = n' := by omega
        rw [List.drop_of_length_le (by omega), ownAll] at j3
        rw [← j3] at i3
        repeat (first | exact endA | refine wkG ?_ | refine opB (fun b => ?_) | refine opA (fun a' c' hc1 hc2 => ?_) | (show GJ _ _ _ _ _ _ _; first | (apply GJ.and; exact rfl; intro hg) | (apply GJ.or; exact rfl; intro hg) | refine GJ.t omAuto ?_ | refine GJ.f omAuto ?_ | refine GJ.ft omAuto ?_ | refine GJ.ff omAuto ?_))
        refine Wk.id ⟨(i + 1, _, o2), ⟨rfl, ?_⟩, ?_, Sub.auto, Sup.auto⟩
        all_goals try dsimp only
        · exact ⟨by omega, j2, rfl, i3⟩
        · omega
  · obtain rfl : i = s.nodes.length := by omega
    rw [List.drop_length, nodesAll] at i3
    have e3 : checkD s = match ownAll s.nodes.length (s.defs.map (·.type)) o with
      | .error e => e
      | .ok o => if false ∈ o then 3 else 0 := by rw [e, checkE, ← i3]
    generalize hts : s.defs.map (·.type) = ts at e3
    repeat (first | exact endA | refine wkG ?_ | refine opB (fun b => ?_) | refine opA (fun a' c' hc1 hc2 => ?_) | (show GJ _ _ _ _ _ _ _; first | (apply GJ.and; exact rfl; intro hg) | (apply GJ.or; exact rfl; intro hg) | refine GJ.t omAuto ?_ | refine GJ.f omAuto ?_ | refine GJ.ft omAuto ?_ | refine GJ.ff omAuto ?_))
    refine LoopOk.at (ι := Nat × List Bool) Keep.auto (fun (j, o2) => [(70, .int .i64 (j : Int))]) (fun (j, o2) => .sl (some ⟨b, 0, none⟩) s.nodes.length s.nodes.length 4 1 (lastV o2) :: .blk b0 25 (specV s a) :: own) (fun (j, o2) => j ≤ s.defs.length ∧ o2.length = s.nodes.length ∧ ownAll s.nodes.length (ts.drop j) o2 = ownAll s.nodes.length ts o) (fun (j, o2) => s.defs.length - j) (0, o) ?_ Sub.auto Sup.auto ?_
    · exact ⟨by omega, i2, rfl⟩
    rintro ⟨j, o2⟩ ⟨j1, j2, j3⟩
    dsimp only [List.cons_append, List.nil_append]
    have htl : ts.length = s.defs.length := by rw [← hts]; simp
    repeat (first | exact endA | refine wkG ?_ | refine opB (fun b => ?_) | refine opA (fun a' c' hc1 hc2 => ?_) | (show GJ _ _ _ _ _ _ _; first | (apply GJ.and; exact rfl; intro hg) | (apply GJ.or; exact rfl; intro hg) | refine GJ.t omAuto ?_ | refine GJ.f omAuto ?_ | refine GJ.ft omAuto ?_ | refine GJ.ff omAuto ?_))
    refine Br.cases (fun hg => ?_) (fun hg => ?_)
    · have hd := defsV_drop s.defs (i := j) (by omega)
      have hty : ts[j]! = (s.defs[j]'(by omega)).type := by
        subst hts
        rw [List.getElem!_eq_getElem?_getD, List.getElem?_map, List.getElem?_eq_getElem (show j < s.defs.length by omega)]; rfl
      rw [drop_bang (by omega), ownAll, hty] at j3
      generalize s.defs[j]'(by omega) = df at hd j3
      repeat (first | exact endA | refine wkG ?_ | refine opB (fun b => ?_) | refine opA (fun a' c' hc1 hc2 => ?_) | (show GJ _ _ _ _ _ _ _; first | (apply GJ.and; exact rfl; intro hg) | (apply GJ.or; exact rfl; intro hg) | refine GJ.t omAuto ?_ | refine GJ.f omAuto ?_ | refine GJ.ft omAuto ?_ | refine GJ.ff omAuto ?_))
      rw [Int.toNat_natCast]
      refine OpOk.loadRow rfl rfl (LdN.at hr2 hd) rfl ?_
      repeat (first | exact endA | refine wkG ?_ | refine opB (fun b => ?_) | refine opA (fun a' c' hc1 hc2 => ?_) | (show GJ _ _ _ _ _ _ _; first | (apply GJ.and; exact rfl; intro hg) | (apply GJ.or; exact rfl; intro hg) | refine GJ.t omAuto ?_ | refine GJ.f omAuto ?_ | refine GJ.ft omAuto ?_ | refine GJ.ff omAuto ?_))
      refine Br.cases (fun hh => ?_) (fun hh => ?_)
      · rw [if_pos (by omega)] at j3
        have e2 : checkD s = 3 := by rw [e3, ← j3]
        rw [e2] at hk
        repeat (first | exact endA | refine wkG ?_ | refine opB (fun b => ?_) | refine opA (fun a' c' hc1 hc2 => ?_) | (show GJ _ _ _ _ _ _ _; first | (apply GJ.and; exact rfl; intro hg) | (apply GJ.or; exact rfl; intro hg) | refine GJ.t omAuto ?_ | refine GJ.f omAuto ?_ | refine GJ.ft omAuto ?_ | refine GJ.ff omAuto ?_))
        exact Wk.outS Sup.auto (.refl _) hk
      · rw [if_neg (by omega)] at j3
        repeat (first | exact endA | refine wkG ?_ | refine opB (fun b => ?_) | refine opA (fun a' c' hc1 hc2 => ?_) | (show GJ _ _ _ _ _ _ _; first | (apply GJ.and; exact rfl; intro hg) | (apply GJ.or; exact rfl; intro hg) | refine GJ.t omAuto ?_ | refine GJ.f omAuto ?_ | refine GJ.ft omAuto ?_ | refine GJ.ff omAuto ?_))
        refine Br.cases (fun hi => ?_) (fun hi => ?_)
        · rw [if_pos hi] at j3
          have e2 : checkD s = 4 := by rw [e3, ← j3]
          rw [e2] at hk
          repeat (first | exact endA | refine wkG ?_ | refine opB (fun b => ?_) | refine opA (fun a' c' hc1 hc2 => ?_) | (show GJ _ _ _ _ _ _ _; first | (apply GJ.and; exact rfl; intro hg) | (apply GJ.or; exact rfl; intro hg) | refine GJ.t omAuto ?_ | refine GJ.f omAuto ?_ | refine GJ.ft omAuto ?_ | refine GJ.ff omAuto ?_))
          exact Wk.outS Sup.auto (.refl _) hk
        · rw [if_neg hi] at j3
          repeat (first | exact endA | refine wkG ?_ | refine opB (fun b => ?_) | refine opA (fun a' c' hc1 hc2 => ?_) | (show GJ _ _ _ _ _ _ _; first | (apply GJ.and; exact rfl; intro hg) | (apply GJ.or; exact rfl; intro hg) | refine GJ.t omAuto ?_ | refine GJ.f omAuto ?_ | refine GJ.ft omAuto ?_ | refine GJ.ff omAuto ?_))
          refine OpOk.storeSl rfl rfl rfl rfl (by simp [lastV]; omega) ?_
          rw [lastV_set]
          repeat (first | exact endA | refine wkG ?_ | refine opB (fun b => ?_) | refine opA (fun a' c' hc1 hc2 => ?_) | (show GJ _ _ _ _ _ _ _; first | (apply GJ.and; exact rfl; intro hg) | (apply GJ.or; exact rfl; intro hg) | refine GJ.t omAuto ?_ | refine GJ.f omAuto ?_ | refine GJ.ft omAuto ?_ | refine GJ.ff omAuto ?_))
          refine Wk.id ⟨(j + 1, _), ⟨rfl, ?_⟩, ?_, Sub.auto, Sup.auto⟩
          all_goals try dsimp only
          · exact ⟨by omega, by simp [j2], j3⟩
          · omega
    · obtain rfl : j = s.defs.length := by omega
      rw [List.drop_of_length_le (by omega), ownAll] at j3
      rw [← j3] at e3
      have e4 : checkD s = if false ∈ o2 then 3 else 0 := e3
      repeat (first | exact endA | refine wkG ?_ | refine opB (fun b => ?_) | refine opA (fun a' c' hc1 hc2 => ?_) | (show GJ _ _ _ _ _ _ _; first | (apply GJ.and; exact rfl; intro hg) | (apply GJ.or; exact rfl; intro hg) | refine GJ.t omAuto ?_ | refine GJ.f omAuto ?_ | refine GJ.ft omAuto ?_ | refine GJ.ff omAuto ?_))
      refine containsB_ok (o := o2) (Rds.hasSl (by omega) (by unfold maxLen; omega) (by simp [lastV, j2])) ?_
      repeat (first | exact endA | refine wkG ?_ | refine opB (fun b => ?_) | refine opA (fun a' c' hc1 hc2 => ?_) | (show GJ _ _ _ _ _ _ _; first | (apply GJ.and; exact rfl; intro hg) | (apply GJ.or; exact rfl; intro hg) | refine GJ.t omAuto ?_ | refine GJ.f omAuto ?_ | refine GJ.ft omAuto ?_ | refine GJ.ff omAuto ?_))
      refine Br.cases (fun hi => ?_) (fun hi => ?_)
      · rw [e4, if_pos hi] at hk
        repeat (first | exact endA | refine wkG ?_ | refine opB (fun b => ?_) | refine opA (fun a' c' hc1 hc2 => ?_) | (show GJ _ _ _ _ _ _ _; first | (apply GJ.and; exact rfl; intro hg) | (apply GJ.or; exact rfl; intro hg) | refine GJ.t omAuto ?_ | refine GJ.f omAuto ?_ | refine GJ.ft omAuto ?_ | refine GJ.ff omAuto ?_))
        exact Wk.outS Sup.auto (.refl _) hk
      · rw [e4, if_neg hi] at hk
        repeat (first | exact endA | refine wkG ?_ | refine opB (fun b => ?_) | refine opA (fun a' c' hc1 hc2 => ?_) | (show GJ _ _ _ _ _ _ _; first | (apply GJ.and; exact rfl; intro hg) | (apply GJ.or; exact rfl; intro hg) | refine GJ.t omAuto ?_ | refine GJ.f omAuto ?_ | refine GJ.ft omAuto ?_ | refine GJ.ff omAuto ?_))
        exact Wk.outS Sup.auto (.refl _) hk
def defD : List DefD → List UInt8 → Int
  | [], _ => -1
  | d :: ds, n => if d.name = n then d.type else defD ds n
def rootD (s : SpecD) : Int := (s.defs.getLast?.map (·.type)).getD (-1)
theorem def_ok {s : SpecD} {a : SpecA} {name : List UInt8} (ho : SpecOk ro s a) (hk : K (.int .i64 (defD s.defs name)) ro own) : CallOk Tryz.prog 120 #[.agg (specV s a).toArray, str name] ro own K := by
  have hr2 := ho.defs
  have hm2 := hr2.max
  have hle2 := hr2.le
  unfold maxLen at hm2
  refine CallOk.intro (args := [_, _]) (rs := [_]) T_ok Tryz.func120 Tryz.call120 rfl rfl (by kernel_rfl) rfl rfl ?_
  repeat (first | exact endA | refine wkG ?_ | refine opB (fun b => ?_) | refine opA (fun a' c' hc1 hc2 => ?_) | (show GJ _ _ _ _ _ _ _; first | (apply GJ.and; exact rfl; intro hg) | (apply GJ.or; exact rfl; intro hg) | refine GJ.t omAuto ?_ | refine GJ.f omAuto ?_ | refine GJ.ft omAuto ?_ | refine GJ.ff omAuto ?_))
  refine LoopOk.at (ι := Nat) Keep.auto (fun i => [(10, .int .i64 (i : Int))]) (fun i => .blk b 25 (specV s a) :: own) (fun i => i ≤ s.defs.length ∧ defD (s.defs.drop i) name = defD s.defs name) (fun i => s.defs.length - i) 0 ?_ Sub.auto Sup.auto ?_
  · exact ⟨by omega, rfl⟩
  rintro i ⟨i1, i2⟩
  dsimp only [List.cons_append, List.nil_append]
  repeat (first | exact endA | refine wkG ?_ | refine opB (fun b => ?_) | refine opA (fun a' c' hc1 hc2 => ?_) | (show GJ _ _ _ _ _ _ _; first | (apply GJ.and; exact rfl; intro hg) | (apply GJ.or; exact rfl; intro hg) | refine GJ.t omAuto ?_ | refine GJ.f omAuto ?_ | refine GJ.ft omAuto ?_ | refine GJ.ff omAuto ?_))
  refine Br.cases (fun hg => ?_) (fun hg => ?_)
  · have hd := defsV_drop s.defs (i := i) (by omega)
    rw [List.drop_eq_getElem_cons (by omega), defD] at i2
    generalize s.defs[i]'(by omega) = df at hd i2
    repeat (first | exact endA | refine wkG ?_ | refine opB (fun b => ?_) | refine opA (fun a' c' hc1 hc2 => ?_) | (show GJ _ _ _ _ _ _ _; first | (apply GJ.and; exact rfl; intro hg) | (apply GJ.or; exact rfl; intro hg) | refine GJ.t omAuto ?_ | refine GJ.f omAuto ?_ | refine GJ.ft omAuto ?_ | refine GJ.ff omAuto ?_))
    rw [Int.toNat_natCast]
    refine OpOk.loadRow rfl rfl (LdN.at hr2 hd) rfl ?_
    repeat (first | exact endA | refine wkG ?_ | refine opB (fun b => ?_) | refine opA (fun a' c' hc1 hc2 => ?_) | (show GJ _ _ _ _ _ _ _; first | (apply GJ.and; exact rfl; intro hg) | (apply GJ.or; exact rfl; intro hg) | refine GJ.t omAuto ?_ | refine GJ.f omAuto ?_ | refine GJ.ft omAuto ?_ | refine GJ.ff omAuto ?_))
    refine Br.cases (fun hh => ?_) (fun hh => ?_)
    · rw [if_pos hh] at i2
      rw [← i2] at hk
      repeat (first | exact endA | refine wkG ?_ | refine opB (fun b => ?_) | refine opA (fun a' c' hc1 hc2 => ?_) | (show GJ _ _ _ _ _ _ _; first | (apply GJ.and; exact rfl; intro hg) | (apply GJ.or; exact rfl; intro hg) | refine GJ.t omAuto ?_ | refine GJ.f omAuto ?_ | refine GJ.ft omAuto ?_ | refine GJ.ff omAuto ?_))
      exact Wk.outS Sup.auto (.refl _) hk
    · rw [if_neg hh] at i2
      repeat (first | exact endA | refine wkG ?_ | refine opB (fun b => ?_) | refine opA (fun a' c' hc1 hc2 => ?_) | (show GJ _ _ _ _ _ _ _; first | (apply GJ.and; exact rfl; intro hg) | (apply GJ.or; exact rfl; intro hg) | refine GJ.t omAuto ?_ | refine GJ.f omAuto ?_ | refine GJ.ft omAuto ?_ | refine GJ.ff omAuto ?_))
      refine Wk.id ⟨i + 1, ⟨rfl, ?_⟩, ?_, Sub.auto, Sup.auto⟩
      all_goals try dsimp only
      · exact ⟨by omega, i2⟩
      · omega
  · obtain rfl : i = s.defs.length := by omega
    rw [List.drop_length, defD] at i2
    rw [← i2] at hk
    repeat (first | exact endA | refine wkG ?_ | refine opB (fun b => ?_) | refine opA (fun a' c' hc1 hc2 => ?_) | (show GJ _ _ _ _ _ _ _; first | (apply GJ.and; exact rfl; intro hg) | (apply GJ.or; exact rfl; intro hg) | refine GJ.t omAuto ?_ | refine GJ.f omAuto ?_ | refine GJ.ft omAuto ?_ | refine GJ.ff omAuto ?_))
    exact Wk.outS Sup.auto (.refl _) hk
theorem root_ok {s : SpecD} {a : SpecA} (ho : SpecOk ro s a) (hk : K (.int .i64 (rootD s)) ro own) : CallOk Tryz.prog 65 #[.agg (specV s a).toArray] ro own K := by
  have hr2 := ho.defs
  have hm2 := hr2.max
  have hle2 := hr2.le
  unfold maxLen at hm2
  refine CallOk.intro (args := [_]) (rs := [_]) T_ok Tryz.func65 Tryz.call65 rfl rfl (by kernel_rfl) rfl rfl ?_
  repeat (first | exact endA | refine wkG ?_ | refine opB (fun b => ?_) | refine opA (fun a' c' hc1 hc2 => ?_) | (show GJ _ _ _ _ _ _ _; first | (apply GJ.and; exact rfl; intro hg) | (apply GJ.or; exact rfl; intro hg) | refine GJ.t omAuto ?_ | refine GJ.f omAuto ?_ | refine GJ.ft omAuto ?_ | refine GJ.ff omAuto ?_))
  refine Br.cases (fun hg => ?_) (fun hg => ?_)
  · have e : s.defs = [] := List.eq_nil_of_length_eq_zero (by omega)
    rw [rootD, e] at hk
    repeat (first | exact endA | refine wkG ?_ | refine opB (fun b => ?_) | refine opA (fun a' c' hc1 hc2 => ?_) | (show GJ _ _ _ _ _ _ _; first | (apply GJ.and; exact rfl; intro hg) | (apply GJ.or; exact rfl; intro hg) | refine GJ.t omAuto ?_ | refine GJ.f omAuto ?_ | refine GJ.ft omAuto ?_ | refine GJ.ff omAuto ?_))
    exact Wk.outS Sup.auto (.refl _) hk
  · obtain ⟨n, hn⟩ : ∃ n, s.defs.length = n + 1 := ⟨s.defs.length - 1, by omega⟩
    have hd := defsV_drop s.defs (i := n) (by omega)
    have hl : rootD s = (s.defs[n]'(by omega)).type := by
      unfold rootD
      rw [List.getLast?_eq_getElem?, show s.defs.length - 1 = n by omega, List.getElem?_eq_getElem (show n < s.defs.length by omega)]
      rfl
    rw [hl] at hk
    generalize s.defs[n]'(by omega) = df at hd hk
    have hcell : (defsV s.defs)[n * 2 + 1]? = some (.int .i64 df.type) := by
      have := congrArg (·[1]?) hd
      simpa [defV, List.getElem?_take, List.getElem?_drop] using this
    repeat (first | exact endA | refine wkG ?_ | refine opB (fun b => ?_) | refine opA (fun a' c' hc1 hc2 => ?_) | (show GJ _ _ _ _ _ _ _; first | (apply GJ.and; exact rfl; intro hg) | (apply GJ.or; exact rfl; intro hg) | refine GJ.t omAuto ?_ | refine GJ.f omAuto ?_ | refine GJ.ft omAuto ?_ | refine GJ.ff omAuto ?_))
    rw [show ((s.defs.length : Int) - 1).toNat * 2 = n * 2 by omega, Nat.add_assoc]
    refine OpOk.load rfl rfl (Ld.rs hr2 hcell) ?_
    repeat (first | exact endA | refine wkG ?_ | refine opB (fun b => ?_) | refine opA (fun a' c' hc1 hc2 => ?_) | (show GJ _ _ _ _ _ _ _; first | (apply GJ.and; exact rfl; intro hg) | (apply GJ.or; exact rfl; intro hg) | refine GJ.t omAuto ?_ | refine GJ.f omAuto ?_ | refine GJ.ft omAuto ?_ | refine GJ.ff omAuto ?_))
    exact Wk.outS Sup.auto (.refl _) hk
end
end Go.Proofs.YtnapjcnfgdkmcaaGreatDoor
end
section
/- The reader of specifications as functions: tokens to a specification, or to what is wrong and at which token. No program in sight. -/
namespace Go.Proofs.YtnapjcnfgdkmcaaGreatDoor
open Go Go.E
set_option linter.unusedVariables false
set_option linter.unusedSectionVars false
set_option linter.unusedSimpArgs false
set_option maxRecDepth 10000
def wordsB : List UInt8 := [32, 118, 97, 114, 105, 110, 116, 32, 122, 105, 103, 122, 97, 103, 32, 108, 101, 110, 105, 101, 110, 116, 32, 98, 121, 116, 101, 115, 32, 116, 105, 109, 101, 115, 32, 109, 97, 110, 121, 32, 119, 105, 116, 104, 105, 110, 32, 115, 119, 105, 116, 99, 104, 32, 101, 108, 115, 101, 32, 111, 110, 101, 111, 102, 32, 99, 104, 97, 105, 110, 32, 108, 97, 115, 116, 32, 101, 109, 112, 116, 121, 32, 115, 105, 122, 101, 32, 99, 111, 117, 110, 116, 32, 99, 114, 99, 32]
/-- The names of numbers of so many bytes. -/
def fixedL : List (List UInt8 × Nat × Bool) := [([117, 56], 1, false), ([117, 49, 54, 98, 101], 2, false), ([117, 49, 54, 108, 101], 2, true), ([117, 50, 52, 98, 101], 3, false), ([117, 50, 52, 108, 101], 3, true), ([117, 51, 50, 98, 101], 4, false), ([117, 51, 50, 108, 101], 4, true), ([117, 52, 48, 98, 101], 5, false), ([117, 52, 48, 108, 101], 5, true), ([117, 52, 56, 98, 101], 6, false), ([117, 52, 56, 108, 101], 6, true), ([117, 53, 54, 98, 101], 7, false), ([117, 53, 54, 108, 101], 7, true), ([117, 54, 52, 98, 101], 8, false), ([117, 54, 52, 108, 101], 8, true)]
def fixedD (t : List UInt8) : Option (Nat × Bool) := (fixedL.find? fun x => decide (x.1 = t)).map (·.2)
def wordD (t : List UInt8) : Bool := Lib.contains wordsB (32 :: (t ++ [32])) || (fixedD t).isSome
def node0 : NodeD := ⟨0, 0, false, false, false, 0, 0, [], [], 0, 0, [], [], [], [], 0, [], 0⟩
structure PS where
  at' : Nat
  nodes : List NodeD
  defs : List DefD
  code : Nat
  fat : Nat
def endT : TokD := ⟨5, 0, []⟩
/-- What is read: the tokens by their places, the last one, and how many types and names there may be. -/
structure PE where
  tok : Nat → TokD
  last : TokD
  lim : Nat
  limD : Nat
def listE (l : List TokD) : PE := ⟨fun i => l[i]?.getD endT, l.getLast?.getD endT, 2048, 64⟩
section
variable (wideP : List UInt8 → Nat × Nat) (E : PE)
def peekP (s : PS) : TokD := if s.code = 0 then E.tok s.at' else E.last
def wrongP (e : Nat) (s : PS) : PS := if s.code = 0 then { s with code := e, fat := s.at' } else s
def isP (k : Nat) (t : List UInt8) (s : PS) : Bool := decide ((peekP E s).kind = k) && decide ((peekP E s).text = t)
def stepP (s : PS) : PS := { s with at' := s.at' + 1 }
def backP (s : PS) : PS := { s with at' := s.at' - 1 }
def eatP (k : Nat) (t : List UInt8) (s : PS) : Bool × PS := if isP E k t s then (true, stepP s) else (false, s)
def signP (t : List UInt8) (s : PS) : Bool × PS := eatP E 4 t s
def kwP (t : List UInt8) (s : PS) : Bool × PS := eatP E 1 t s
def mustP (t : List UInt8) (s : PS) : PS := if (signP E t s).1 then (signP E t s).2 else wrongP 5 s
def nameP (s : PS) : List UInt8 × PS := if (peekP E s).kind ≠ 1 ∨ wordD (peekP E s).text = true then ([], wrongP 5 s) else ((peekP E s).text, stepP s)
def numP (s : PS) : Nat × PS := if (peekP E s).kind ≠ 2 then (0, wrongP 5 s) else if (wideP (peekP E s).text).2 ≠ 0 then (0, wrongP (wideP (peekP E s).text).2 s) else ((wideP (peekP E s).text).1, stepP s)
def addP (n : NodeD) (s : PS) : Nat × PS := if s.nodes.length = E.lim then (0, wrongP 2 s) else (s.nodes.length, { s with nodes := s.nodes ++ [n] })
def rangedP (n : NodeD) (s : PS) : Nat × PS :=
  if (peekP E s).kind = 2 then
    let r1 := numP wideP E s
    let r2 := numP wideP E (mustP E [46, 46] r1.2)
    let s3 := if r2.2.code = 0 ∧ (r2.1 < r1.1 ∨ mostD n < r2.1) then wrongP 1 (backP r2.2) else r2.2
    addP E { n with min := r1.1, max := r2.1 } s3
  else addP E { n with max := mostD n } s
def exprP (s : PS) : (List UInt8 × Nat × Nat) × PS :=
  let s1 := mustP E [91] s
  if (peekP E s1).kind = 2 then
    let r := numP wideP E s1
    let m := signP E [42] r.2
    if m.1 = false then (([], 0, r.1), mustP E [93] m.2) else
    let s2 := if r.1 = 0 then wrongP 1 m.2 else m.2
    let x := nameP E s2
    let p := signP E [43] x.2
    if p.1 then let a := numP wideP E p.2; ((x.1, r.1, a.1), mustP E [93] a.2) else ((x.1, r.1, 0), mustP E [93] p.2)
  else
    let x := nameP E s1
    let p := signP E [43] x.2
    if p.1 then let a := numP wideP E p.2; ((x.1, 1, a.1), mustP E [93] a.2) else ((x.1, 1, 0), mustP E [93] p.2)
variable (K : PS → Nat × PS)
def countedP (kind : Int) (s : PS) : Nat × PS :=
  let x := exprP wideP E s
  let k := K x.2
  addP E { node0 with kind := kind, ereg := x.1.1, emul := x.1.2.1, eadd := x.1.2.2, kids := [(k.1 : Int)] } k.2
def deriveP (s : PS) : Int × PS :=
  if (kwP E [115, 105, 122, 101] s).1 then (1, (kwP E [115, 105, 122, 101] s).2) else if (kwP E [99, 111, 117, 110, 116] s).1 then (2, (kwP E [99, 111, 117, 110, 116] s).2) else if (kwP E [99, 114, 99] s).1 then (3, (kwP E [99, 114, 99] s).2) else (0, wrongP 5 s)
def fieldP (s : PS) : FieldD × PS :=
  let n := nameP E s
  let k := K (mustP E [58] n.2)
  let e := signP E [61] k.2
  if e.1 then
    let d := deriveP E e.2
    let o := nameP E (mustP E [40] d.2)
    if d.1 = 3 then
      let t := nameP E (mustP E [46, 46] o.2)
      (⟨n.1, k.1, d.1, o.1, t.1⟩, mustP E [59] (mustP E [41] t.2))
    else (⟨n.1, k.1, d.1, o.1, []⟩, mustP E [59] (mustP E [41] o.2))
  else (⟨n.1, k.1, 0, [], []⟩, mustP E [59] e.2)
def fieldsP : Nat → List FieldD → PS → List FieldD × PS
  | 0, fs, s => (fs, s)
  | f + 1, fs, s =>
    if s.code ≠ 0 then (fs, s) else
    let e := signP E [125] s
    if e.1 then (fs, e.2) else
    let s1 := if fs.length = 64 then wrongP 2 e.2 else e.2
    let x := fieldP E K s1
    fieldsP f (fs ++ [x.1]) x.2
def recordP (s : PS) : Nat × PS :=
  let r := fieldsP E K 70 [] (mustP E [123] s)
  let s1 := if r.2.code = 0 ∧ r.1.length = 0 then wrongP 5 (backP r.2) else r.2
  addP E { node0 with kind := 5, fields := r.1 } s1
def casesP : Nat → List CaseD → PS → List CaseD × PS
  | 0, cs, s => (cs, s)
  | f + 1, cs, s =>
    if s.code ≠ 0 ∨ (peekP E s).kind ≠ 2 then (cs, s) else
    let s1 := if cs.length = 64 then wrongP 2 s else s
    let v := numP wideP E s1
    let k := K (mustP E [58] v.2)
    casesP f (cs ++ [⟨v.1, k.1⟩]) (mustP E [59] k.2)
def switchP (s : PS) : Nat × PS :=
  let n := nameP E s
  let m := signP E [37] n.2
  let v := if m.1 then numP wideP E m.2 else (0, m.2)
  let s1 := if m.1 ∧ v.2.code = 0 ∧ v.1 = 0 then wrongP 1 (backP v.2) else v.2
  let c := casesP wideP E K 70 [] (mustP E [123] s1)
  let s2 := if c.1.length = 0 then wrongP 5 c.2 else c.2
  let e := kwP E [101, 108, 115, 101] s2
  let k := if e.1 then K (mustP E [58] e.2) else (0, e.2)
  let s3 := if e.1 then mustP E [59] k.2 else k.2
  addP E { node0 with kind := 9, reg := n.1, mod := v.1, cases := c.1, els := if e.1 then (k.1 : Int) else -1 } (mustP E [125] s3)
def overP (n : Nat) (s : PS) : PS := if n = 64 then wrongP 2 s else s
def lastP (kind : Int) (s : PS) : Bool × PS := if kind = 11 then kwP E [108, 97, 115, 116] s else (false, s)
def lastsP (kind : Int) (ls : List Bool) (w : Bool) : List Bool := if kind = 11 then ls ++ [w] else ls
def choicesP (kind : Int) : Nat → List Int → List Bool → PS → List Int × List Bool × PS
  | 0, ks, ls, s => (ks, ls, s)
  | f + 1, ks, ls, s =>
    if (signP E [124] (K (lastP E kind (overP ks.length s)).2).2).1 = true ∧ (signP E [124] (K (lastP E kind (overP ks.length s)).2).2).2.code = 0 then
      choicesP kind f (ks ++ [((K (lastP E kind (overP ks.length s)).2).1 : Int)]) (lastsP kind ls (lastP E kind (overP ks.length s)).1) (signP E [124] (K (lastP E kind (overP ks.length s)).2).2).2
    else (ks ++ [((K (lastP E kind (overP ks.length s)).2).1 : Int)], lastsP kind ls (lastP E kind (overP ks.length s)).1, (signP E [124] (K (lastP E kind (overP ks.length s)).2).2).2)
def pickP (kind : Int) (s : PS) : List Int × List Bool × PS := if s.code = 0 then choicesP E K kind 70 [] [] s else ([], [], s)
def choiceP (kind : Int) (s : PS) : Nat × PS :=
  addP E { node0 with kind := kind, kids := (pickP E K kind (mustP E [123] s)).1, last := (pickP E K kind (mustP E [123] s)).2.1 } (mustP E [125] (pickP E K kind (mustP E [123] s)).2.2)
def lenP (n : NodeD) (s : PS) : Nat × PS := rangedP wideP E { n with lenient := (kwP E [108, 101, 110, 105, 101, 110, 116] s).1 } (kwP E [108, 101, 110, 105, 101, 110, 116] s).2
def blobP (s : PS) : Nat × PS := addP E { node0 with kind := 4, ereg := (exprP wideP E s).1.1, emul := (exprP wideP E s).1.2.1, eadd := (exprP wideP E s).1.2.2 } (exprP wideP E s).2
def manyP (s : PS) : Nat × PS := addP E { node0 with kind := 7, kids := [((K s).1 : Int)] } (K s).2
def useP (s : PS) : Nat × PS := addP E { node0 with kind := 13, text := (nameP E s).1 } (nameP E s).2
def namedP (s : PS) : Nat × PS :=
  if (kwP E [118, 97, 114, 105, 110, 116] s).1 then lenP wideP E { node0 with kind := 2 } (kwP E [118, 97, 114, 105, 110, 116] s).2
  else if (kwP E [122, 105, 103, 122, 97, 103] s).1 then lenP wideP E { node0 with kind := 2, zig := true } (kwP E [122, 105, 103, 122, 97, 103] s).2
  else if (kwP E [98, 121, 116, 101, 115] s).1 then blobP wideP E (kwP E [98, 121, 116, 101, 115] s).2
  else if (kwP E [116, 105, 109, 101, 115] s).1 then countedP wideP E K 6 (kwP E [116, 105, 109, 101, 115] s).2
  else if (kwP E [119, 105, 116, 104, 105, 110] s).1 then countedP wideP E K 8 (kwP E [119, 105, 116, 104, 105, 110] s).2
  else if (kwP E [109, 97, 110, 121] s).1 then manyP E K (kwP E [109, 97, 110, 121] s).2
  else if (kwP E [115, 119, 105, 116, 99, 104] s).1 then switchP wideP E K (kwP E [115, 119, 105, 116, 99, 104] s).2
  else if (kwP E [111, 110, 101, 111, 102] s).1 then choiceP E K 10 (kwP E [111, 110, 101, 111, 102] s).2
  else if (kwP E [99, 104, 97, 105, 110] s).1 then choiceP E K 11 (kwP E [99, 104, 97, 105, 110] s).2
  else if (kwP E [101, 109, 112, 116, 121] s).1 then addP E { node0 with kind := 12 } (kwP E [101, 109, 112, 116, 121] s).2
  else useP E s
end
/-- A type; so much deeper it may be. -/
def kindP (wideP : List UInt8 → Nat × Nat) (E : PE) : Nat → PS → Nat × PS
  | 0, s => (0, wrongP 6 s)
  | d + 1, s =>
    if s.code ≠ 0 then (0, s) else
    if (peekP E s).kind = 3 then addP E { node0 with kind := 3, text := (peekP E s).text } (stepP (if (peekP E s).text = [] then wrongP 5 s else s)) else
    if isP E 4 [123] s then recordP E (kindP wideP E d) s else
    if (peekP E s).kind ≠ 1 then (0, wrongP 5 s) else
    match fixedD (peekP E s).text with
    | some x => rangedP wideP E { node0 with kind := 1, width := (x.1 : Int), little := x.2 } (stepP s)
    | none => namedP wideP E (kindP wideP E d) s
def defP (wideP : List UInt8 → Nat × Nat) (E : PE) (s : PS) : PS :=
  let n := nameP E s
  let k := kindP wideP E 25 (mustP E [61] n.2)
  let s1 := mustP E [59] k.2
  if s1.code ≠ 0 then s1 else if s1.defs.length = E.limD then wrongP 2 s1 else { s1 with defs := s1.defs ++ [⟨n.1, k.1⟩] }
def defsP (wideP : List UInt8 → Nat × Nat) (E : PE) : Nat → PS → PS
  | 0, s => s
  | f + 1, s =>
    let s1 := defP wideP E s
    if s1.code = 0 ∧ (peekP E s1).kind ≠ 5 then defsP wideP E f s1 else s1
def startP : PS := ⟨0, [], [], 0, 0⟩
/-- What a text's tokens are read as: the specification and no fault, or a fault and at which token (none: at the text's end). -/
def readP (wideP : List UInt8 → Nat × Nat) (l : List TokD) : SpecD × Int × Option Nat :=
  let s := defsP wideP (listE l) 70 startP
  if s.code ≠ 0 then (⟨[], []⟩, (s.code : Int), some s.fat) else
  if checkD ⟨s.nodes, s.defs⟩ ≠ 0 then (⟨[], []⟩, checkD ⟨s.nodes, s.defs⟩, none) else (⟨s.nodes, s.defs⟩, 0, some 0)
end Go.Proofs.YtnapjcnfgdkmcaaGreatDoor
end
section
/- The reader of specifications: where it stands, and what names it takes. No program in sight. -/
namespace Go.Proofs.YtnapjcnfgdkmcaaGreatDoor
open Go Go.E
set_option linter.unusedVariables false
set_option linter.unusedSectionVars false
set_option linter.unusedSimpArgs false
set_option maxRecDepth 10000
/-- Tokens, the last one of which, and no other one, is the end. -/
structure EndL (l : List TokD) : Prop where
  pos : 0 < l.length
  last : ∀ (i : Nat) (t : TokD), l[i]? = some t → (t.kind = 5 ↔ i + 1 = l.length)
/-- What each step of the reader keeps. -/
class Clo (E : PE) (I : PS → Prop) : Prop where
  wrong : ∀ (s : PS) (e : Nat), e ≠ 0 → I s → I (wrongP e s)
  step : ∀ s : PS, I s → (peekP E s).kind ≠ 5 ∨ s.code ≠ 0 → I (stepP s)
  backW : ∀ (s : PS) (e : Nat), e ≠ 0 → I s → I (wrongP e (backP s))
  add : ∀ (s : PS) (n : NodeD), I s → I { s with nodes := s.nodes ++ [n] }
structure InP (I : PS → Prop) (E : PE) (s : PS) : Prop where
  get : I s
section
variable {wideP : List UInt8 → Nat × Nat} {E : PE} {s : PS} {I : PS → Prop} [C : Clo E I]
theorem InP.wrong (h : InP I E s) (e : Nat) (he : e ≠ 0) : InP I E (wrongP e s) := ⟨C.wrong s e he h.get⟩
theorem InP.step (h : InP I E s) (hk : (peekP E s).kind ≠ 5) : InP I E (stepP s) := ⟨C.step s h.get (.inl hk)⟩
theorem InP.backW (h : InP I E s) (e : Nat) (he : e ≠ 0) : InP I E (wrongP e (backP s)) := ⟨C.backW s e he h.get⟩
theorem InP.stepF (hc : s.code ≠ 0) (h : InP I E s) : InP I E (stepP s) := ⟨C.step s h.get (.inr hc)⟩
theorem InP.eat (h : InP I E s) {k : Nat} (hk : k ≠ 5) (t : List UInt8) : InP I E (eatP E k t s).2 := by
  unfold eatP
  split
  · rename_i hi
    unfold isP at hi
    rw [Bool.and_eq_true, decide_eq_true_eq] at hi
    exact h.step  (by rw [hi.1]; exact hk)
  · exact h
theorem InP.sign (h : InP I E s) (t : List UInt8) : InP I E (signP E t s).2 := h.eat  (by decide) t
theorem InP.kw (h : InP I E s) (t : List UInt8) : InP I E (kwP E t s).2 := h.eat  (by decide) t
theorem InP.must (h : InP I E s) (t : List UInt8) : InP I E (mustP E t s) := by
  unfold mustP
  split
  · exact h.sign  t
  · exact h.wrong 5 (by decide)
theorem InP.name (h : InP I E s) : InP I E (nameP E s).2 := by
  unfold nameP
  split
  · exact h.wrong 5 (by decide)
  · rename_i hk
    exact h.step  (fun e => hk (.inl (by rw [e]; decide)))
theorem InP.num (h : InP I E s) : InP I E (numP wideP E s).2 := by
  unfold numP
  split
  · exact h.wrong 5 (by decide)
  · rename_i hk
    split
    · rename_i he; exact h.wrong _ he
    · exact h.step  (fun e => hk (by rw [e]; decide))
theorem InP.add (h : InP I E s) (n : NodeD) : InP I E (addP E n s).2 := by
  unfold addP
  split
  · exact h.wrong 2 (by decide)
  · exact ⟨C.add s n h.get⟩
theorem InP.ranged (h : InP I E s) (n : NodeD) : InP I E (rangedP wideP E n s).2 := by
  unfold rangedP
  split
  · dsimp only
    refine InP.add ?_ _
    have h2 : InP I E (numP wideP E (mustP E [46, 46] (numP wideP E s).2)).2 := ((h.num ).must  _).num 
    split
    · exact h2.backW 1 (by decide)
    · exact h2
  · exact h.add _
theorem InP.expr (h : InP I E s) : InP I E (exprP wideP E s).2 := by
  have h1 := h.must  [91]
  unfold exprP
  dsimp only
  generalize mustP E [91] s = s1 at *
  split
  · have h2 := h1.num (wideP := wideP) 
    generalize numP wideP E s1 = r at *
    have h3 := h2.sign  [42]
    generalize signP E [42] r.2 = m at *
    split
    · exact h3.must  _
    · have h4 : InP I E (if r.1 = 0 then wrongP 1 m.2 else m.2) := by
        split
        · exact h3.wrong 1 (by decide)
        · exact h3
      generalize (if r.1 = 0 then wrongP 1 m.2 else m.2) = s2 at *
      have h5 := (h4.name ).sign  [43]
      generalize nameP E s2 = x at *
      generalize signP E [43] x.2 = p at *
      split
      · exact (h5.num ).must  _
      · exact h5.must  _
  · have h5 := (h1.name ).sign  [43]
    generalize nameP E s1 = x at *
    generalize signP E [43] x.2 = p at *
    split
    · exact (h5.num ).must  _
    · exact h5.must  _
variable {K : PS → Nat × PS}
theorem InP.counted (hK : ∀ s, InP I E s → InP I E (K s).2) (h : InP I E s) (k : Int) : InP I E (countedP wideP E K k s).2 := by
  unfold countedP
  exact (hK _ (h.expr )).add _
theorem InP.derive (h : InP I E s) : InP I E (deriveP E s).2 := by
  unfold deriveP
  split
  · exact h.kw  _
  split
  · exact h.kw  _
  split
  · exact h.kw  _
  · exact h.wrong 5 (by decide)
theorem InP.field (hK : ∀ s, InP I E s → InP I E (K s).2) (h : InP I E s) : InP I E (fieldP E K s).2 := by
  unfold fieldP
  dsimp only
  have h1 := (hK _ ((h.name ).must  [58])).sign  [61]
  generalize signP E [61] (K (mustP E [58] (nameP E s).2)).2 = e at *
  split
  · have h3 := ((h1.derive ).must  [40]).name 
    generalize deriveP E e.2 = d at *
    generalize nameP E (mustP E [40] d.2) = o at *
    split <;> dsimp only
    · exact (((h3.must  _).name ).must  _).must  _
    · exact (h3.must  _).must  _
  · exact h1.must  _
theorem InP.fields (hK : ∀ s, InP I E s → InP I E (K s).2) : ∀ (f : Nat) (fs : List FieldD) (s : PS), InP I E s → InP I E (fieldsP E K f fs s).2
  | 0, fs, s, h => h
  | f + 1, fs, s, h => by
    rw [fieldsP]
    split
    · exact h
    · dsimp only
      have h1 := h.sign  [125]
      split
      · exact h1
      · refine InP.fields  hK f _ _ (InP.field  hK ?_)
        split
        · exact h1.wrong 2 (by decide)
        · exact h1
theorem InP.record (hK : ∀ s, InP I E s → InP I E (K s).2) (h : InP I E s) : InP I E (recordP E K s).2 := by
  unfold recordP
  dsimp only
  have h1 := InP.fields  hK 70 [] _ (h.must  [123])
  refine InP.add ?_ _
  split
  · exact h1.backW 5 (by decide)
  · exact h1
theorem InP.cases (hK : ∀ s, InP I E s → InP I E (K s).2) : ∀ (f : Nat) (cs : List CaseD) (s : PS), InP I E s → InP I E (casesP wideP E K f cs s).2
  | 0, cs, s, h => h
  | f + 1, cs, s, h => by
    rw [casesP]
    split
    · exact h
    · dsimp only
      refine InP.cases  hK f _ _ (InP.must  (hK _ (InP.must  (InP.num  ?_) _)) _)
      split
      · exact h.wrong 2 (by decide)
      · exact h
theorem InP.switch (hK : ∀ s, InP I E s → InP I E (K s).2) (h : InP I E s) : InP I E (switchP wideP E K s).2 := by
  unfold switchP
  dsimp only
  have h1 := (h.name ).sign  [37]
  generalize signP E [37] (nameP E s).2 = m at *
  have h2 : InP I E (if m.1 = true then numP wideP E m.2 else (0, m.2)).2 := by
    split
    · exact h1.num 
    · exact h1
  generalize (if m.1 = true then numP wideP E m.2 else (0, m.2)) = v at *
  have h3 : InP I E (if m.1 = true ∧ v.2.code = 0 ∧ v.1 = 0 then wrongP 1 (backP v.2) else v.2) := by
    split
    · exact h2.backW 1 (by decide)
    · exact h2
  have h4 := InP.cases (wideP := wideP)  hK 70 [] _ (h3.must  [123])
  generalize casesP wideP E K 70 [] (mustP E [123] (if m.1 = true ∧ v.2.code = 0 ∧ v.1 = 0 then wrongP 1 (backP v.2) else v.2)) = c at *
  have h5 : InP I E (if c.1.length = 0 then wrongP 5 c.2 else c.2) := by
    split
    · exact h4.wrong 5 (by decide)
    · exact h4
  have h6 := h5.kw  [101, 108, 115, 101]
  generalize kwP E [101, 108, 115, 101] (if c.1.length = 0 then wrongP 5 c.2 else c.2) = e at *
  refine InP.add (InP.must  ?_ _) _
  by_cases he : e.1 = true
  · rw [if_pos he, if_pos he]
    exact (hK _ (h6.must  _)).must  _
  · rw [if_neg he, if_neg he]
    exact h6
theorem InP.over (h : InP I E s) (n : Nat) : InP I E (overP n s) := by
  unfold overP
  split
  · exact h.wrong 2 (by decide)
  · exact h
theorem InP.last (h : InP I E s) (kind : Int) : InP I E (lastP E kind s).2 := by
  unfold lastP
  split
  · exact h.kw  _
  · exact h
theorem InP.choices (hK : ∀ s, InP I E s → InP I E (K s).2) (kind : Int) : ∀ (f : Nat) (ks : List Int) (ls : List Bool) (s : PS), InP I E s → InP I E (choicesP E K kind f ks ls s).2.2
  | 0, ks, ls, s, h => h
  | f + 1, ks, ls, s, h => by
    rw [choicesP]
    have h3 := (hK _ ((h.over ks.length).last  kind)).sign  [124]
    split
    · exact InP.choices  hK kind f _ _ _ h3
    · exact h3
theorem InP.choice (hK : ∀ s, InP I E s → InP I E (K s).2) (h : InP I E s) (kind : Int) : InP I E (choiceP E K kind s).2 := by
  have h1 := h.must  [123]
  refine InP.add (InP.must  ?_ _) _
  unfold pickP
  split
  · exact InP.choices  hK kind _ _ _ _ h1
  · exact h1
theorem InP.ite {c : Prop} [Decidable c] {a b : Nat × PS} (h1 : InP I E a.2) (h2 : InP I E b.2) : InP I E (if c then a else b).2 := by
  split
  · exact h1
  · exact h2
theorem InP.named (hK : ∀ s, InP I E s → InP I E (K s).2) (h : InP I E s) : InP I E (namedP wideP E K s).2 := by
  unfold namedP
  refine InP.ite (InP.ranged  ((h.kw  _).kw  _) _) ?_
  refine InP.ite (InP.ranged  ((h.kw  _).kw  _) _) ?_
  refine InP.ite (InP.add ((h.kw  _).expr ) _) ?_
  refine InP.ite (InP.counted  hK (h.kw  _) 6) ?_
  refine InP.ite (InP.counted  hK (h.kw  _) 8) ?_
  refine InP.ite (InP.add (hK _ (h.kw  _)) _) ?_
  refine InP.ite (InP.switch  hK (h.kw  _)) ?_
  refine InP.ite (InP.choice  hK (h.kw  _) 10) ?_
  refine InP.ite (InP.choice  hK (h.kw  _) 11) ?_
  refine InP.ite (InP.add (h.kw  _) _) ?_
  exact InP.add (h.name ) _
theorem InP.kind : ∀ (d : Nat) (s : PS), InP I E s → InP I E (kindP wideP E d s).2
  | 0, s, h => h.wrong 6 (by decide)
  | d + 1, s, h => by
    rw [kindP]
    split
    · exact h
    rename_i hc
    split
    · rename_i hk
      refine InP.add ?_ _
      split
      · exact InP.stepF (by unfold wrongP; rw [if_pos (Decidable.of_not_not hc)]; exact (by decide : (5 : Nat) ≠ 0)) (h.wrong 5 (by decide))
      · exact h.step  (by rw [hk]; decide)
    split
    · exact h.record  (InP.kind  d)
    split
    · exact h.wrong 5 (by decide)
    rename_i hk
    split
    · exact InP.ranged  (h.step  (fun e => hk (by rw [e]; decide))) _
    · exact h.named  (InP.kind  d)
end
/-- What is wrong stays wrong. -/
theorem sticky_clo (l : List TokD) : Clo (listE l) (fun s => s.code ≠ 0) where
  wrong s e he h := by unfold wrongP; rw [if_neg h]; exact h
  step s h hk := h
  backW s e he h := by unfold wrongP; rw [if_neg (show ¬ (backP s).code = 0 from h)]; exact h
  add s n h := h
section
variable {wideP : List UInt8 → Nat × Nat} {l : List TokD} {s : PS}
end
end Go.Proofs.YtnapjcnfgdkmcaaGreatDoor
end
section
/- Contracts of wide: Mul, Add, Line, Int, Parse, Digits. -/
namespace Go.Proofs
open Go.Shelf
def Tryz.laysMul_ren : Go.Shelf.Ren := ⟨fun | 264 => 169 | n => n, fun | 53 => 33 | 46 => 164 | n => n, fun | n => n⟩
theorem Tryz.laysMul : Go.Proofs.Lays.n264 Tryz.prog Tryz.laysMul_ren := {
  mixed := by kernel_rfl
  f264 := Tryz.func169.trans (congrArg some (by kernel_rfl))
  t46 := Tryz.underlying164
  a46 := Tryz.isAgg164
  z46 := Tryz.sizeOf164
  v46 := Tryz.zeroValue164
  t53 := Tryz.underlying33
  a53 := Tryz.isAgg33
  z53 := Tryz.sizeOf33
  v53 := Tryz.zeroValue33 }
end Go.Proofs
namespace Go.Proofs.YtnapjcnfgdkmcaaGreatDoor
open Go Go.E
set_option linter.unusedVariables false
set_option linter.unusedSectionVars false
set_option linter.unusedSimpArgs false
set_option maxRecDepth 10000
def isDig (c : Nat) : Bool := decide (48 ≤ c) && decide (c ≤ 57)
def badNum (l : List UInt8) : Bool := l.isEmpty || (decide (1 < l.length) && decide (l.headD 0 = 48))
def valOf (l : List UInt8) : Nat := l.foldl (fun v c => 10 * v + (c.toNat - 48)) 0
section
variable {ro : Ro} {own r : Chs} {K : Value → Ro → Chs → Prop} {g : Chunk → Chs}
theorem mul64_ok {x y : Nat} (hx : x < 18446744073709551616) (hy : y < 18446744073709551616) (hk : K (.tuple #[.int .u64 ((x * y / 18446744073709551616 : Nat) : Int), .int .u64 ((x * y % 18446744073709551616 : Nat) : Int)]) ro own) :
    CallOk Tryz.prog 169 #[.int .u64 (x : Int), .int .u64 (y : Int)] ro own K := by
  refine CallOk.ofBelow Tryz.call169 (fun w => ?_) hk
  have h := Go.Proofs.Any.bits_Mul64 Tryz.laysMul x y hx hy w
  rw [show Tryz.laysMul_ren.f 264 = 169 by kernel_rfl] at h
  refine h.mono fun e w' ⟨he, hb⟩ => ⟨he, ?_⟩
  rw [hb]
  exact Go.RowKit.Below.refl _ _
theorem wmul_ok {x y : Nat} (hx : x < 18446744073709551616) (hy : y < 18446744073709551616) (h1 : x * y < 18446744073709551616 → K (.tuple #[.int .u64 ((x * y : Nat) : Int), .int .i64 0]) ro own) (h2 : 18446744073709551616 ≤ x * y → K (.tuple #[.int .u64 0, .int .i64 40]) ro own) :
    CallOk Tryz.prog 167 #[.int .u64 (x : Int), .int .u64 (y : Int)] ro own K := by
  refine CallOk.intro (args := [_, _]) (rs := [_, _]) T_ok Tryz.func167 Tryz.call167 rfl rfl (by kernel_rfl) rfl rfl ?_
  repeat (first | exact endA | refine wkP ?_ | refine opB (fun b => ?_) | refine opA (fun a' c' hc1 hc2 => ?_) | (apply GJ.and; exact rfl; intro hg) | (apply GJ.or; exact rfl; intro hg))
  refine mul64_ok hx hy ?_
  generalize x * y = z at h1 h2 ⊢
  repeat (first | exact endA | refine wkP ?_ | refine opB (fun b => ?_) | refine opA (fun a' c' hc1 hc2 => ?_) | (apply GJ.and; exact rfl; intro hg) | (apply GJ.or; exact rfl; intro hg))
  refine Br.cases (fun h => ?_) (fun h => ?_)
  · repeat (first | exact endA | refine wkP ?_ | refine opB (fun b => ?_) | refine opA (fun a' c' hc1 hc2 => ?_) | (apply GJ.and; exact rfl; intro hg) | (apply GJ.or; exact rfl; intro hg))
    exact Wk.outS Sup.auto (.refl _) (h2 (by omega))
  · have h3 : z < 18446744073709551616 := by omega
    rw [Nat.mod_eq_of_lt h3]
    repeat (first | exact endA | refine wkP ?_ | refine opB (fun b => ?_) | refine opA (fun a' c' hc1 hc2 => ?_) | (apply GJ.and; exact rfl; intro hg) | (apply GJ.or; exact rfl; intro hg))
    exact Wk.outS Sup.auto (.refl _) (h1 h3)
theorem wadd_ok {x y : Nat} (hx : x < 18446744073709551616) (hy : y < 18446744073709551616) (h1 : x + y < 18446744073709551616 → K (.tuple #[.int .u64 ((x + y : Nat) : Int), .int .i64 0]) ro own) (h2 : 18446744073709551616 ≤ x + y → K (.tuple #[.int .u64 0, .int .i64 40]) ro own) :
    CallOk Tryz.prog 168 #[.int .u64 (x : Int), .int .u64 (y : Int)] ro own K := by
  refine CallOk.intro (args := [_, _]) (rs := [_, _]) T_ok Tryz.func168 Tryz.call168 rfl rfl (by kernel_rfl) rfl rfl ?_
  repeat (first | exact endA | refine wkP ?_ | refine opB (fun b => ?_) | refine opA (fun a' c' hc1 hc2 => ?_) | (apply GJ.and; exact rfl; intro hg) | (apply GJ.or; exact rfl; intro hg))
  refine CallOk.add64 Tryz.func170 (by kernel_rfl) (by kernel_rfl) (by kernel_rfl) (by kernel_rfl) ?_
  generalize x + y = z at h1 h2 ⊢
  repeat (first | exact endA | refine wkP ?_ | refine opB (fun b => ?_) | refine opA (fun a' c' hc1 hc2 => ?_) | (apply GJ.and; exact rfl; intro hg) | (apply GJ.or; exact rfl; intro hg))
  refine Br.cases (fun h => ?_) (fun h => ?_)
  · repeat (first | exact endA | refine wkP ?_ | refine opB (fun b => ?_) | refine opA (fun a' c' hc1 hc2 => ?_) | (apply GJ.and; exact rfl; intro hg) | (apply GJ.or; exact rfl; intro hg))
    exact Wk.outS Sup.auto (.refl _) (h2 (by omega))
  · have h3 : z < 18446744073709551616 := by omega
    rw [Nat.mod_eq_of_lt h3]
    repeat (first | exact endA | refine wkP ?_ | refine opB (fun b => ?_) | refine opA (fun a' c' hc1 hc2 => ?_) | (apply GJ.and; exact rfl; intro hg) | (apply GJ.or; exact rfl; intro hg))
    exact Wk.outS Sup.auto (.refl _) (h1 h3)
theorem wline_ok {m x y : Nat} (hm : m < 18446744073709551616) (hx : x < 18446744073709551616) (hy : y < 18446744073709551616) (h1 : m * x + y < 18446744073709551616 → K (.tuple #[.int .u64 ((m * x + y : Nat) : Int), .int .i64 0]) ro own) (h2 : 18446744073709551616 ≤ m * x + y → K (.tuple #[.int .u64 0, .int .i64 40]) ro own) :
    CallOk Tryz.prog 164 #[.int .u64 (m : Int), .int .u64 (x : Int), .int .u64 (y : Int)] ro own K := by
  refine CallOk.intro (args := [_, _, _]) (rs := [_, _]) T_ok Tryz.func164 Tryz.call164 rfl rfl (by kernel_rfl) rfl rfl ?_
  repeat (first | exact endA | refine wkP ?_ | refine opB (fun b => ?_) | refine opA (fun a' c' hc1 hc2 => ?_) | (apply GJ.and; exact rfl; intro hg) | (apply GJ.or; exact rfl; intro hg))
  refine wmul_ok hm hx (fun h => ?_) (fun h => ?_)
  · repeat (first | exact endA | refine wkP ?_ | refine opB (fun b => ?_) | refine opA (fun a' c' hc1 hc2 => ?_) | (apply GJ.and; exact rfl; intro hg) | (apply GJ.or; exact rfl; intro hg))
    refine wadd_ok h hy (fun h3 => ?_) (fun h3 => ?_)
    · repeat (first | exact endA | refine wkP ?_ | refine opB (fun b => ?_) | refine opA (fun a' c' hc1 hc2 => ?_) | (apply GJ.and; exact rfl; intro hg) | (apply GJ.or; exact rfl; intro hg))
      exact Wk.outS Sup.auto (.refl _) (h1 h3)
    · repeat (first | exact endA | refine wkP ?_ | refine opB (fun b => ?_) | refine opA (fun a' c' hc1 hc2 => ?_) | (apply GJ.and; exact rfl; intro hg) | (apply GJ.or; exact rfl; intro hg))
      exact Wk.outS Sup.auto (.refl _) (h2 h3)
  · repeat (first | exact endA | refine wkP ?_ | refine opB (fun b => ?_) | refine opA (fun a' c' hc1 hc2 => ?_) | (apply GJ.and; exact rfl; intro hg) | (apply GJ.or; exact rfl; intro hg))
    exact Wk.outS Sup.auto (.refl _) (h2 (by omega))
theorem valOf_snoc (l : List UInt8) (c : UInt8) : valOf (l ++ [c]) = 10 * valOf l + (c.toNat - 48) := by simp [valOf]
def allDig (l : List UInt8) : Bool := l.all fun c => isDig c.toNat
def numD (l : List UInt8) : Nat × Nat := if badNum l = true ∨ allDig l = false then (0, 5) else if 18446744073709551616 ≤ valOf l then (0, 40) else (valOf l, 0)
set_option maxHeartbeats 4000000 in
theorem wparse_ok {l : List UInt8} (hl : l.length ≤ 100000) (hk : K (.tuple #[.int .u64 ((numD l).1 : Int), .int .i64 ((numD l).2 : Int)]) ro own) :
    CallOk Tryz.prog 151 #[str l] ro own K := by
  by_cases hb : badNum l = true
  · have hn : numD l = (0, 5) := by unfold numD; rw [if_pos (.inl hb)]
    rw [hn] at hk
    match l, hl, hb with
    | [], hl, hb =>
      refine CallOk.intro (args := [_]) (rs := [_, _]) T_ok Tryz.func151 Tryz.call151 rfl rfl (by kernel_rfl) rfl rfl ?_
      repeat (first | exact endA | refine wkP ?_ | refine opB (fun b => ?_) | refine opA (fun a' c' hc1 hc2 => ?_) | (apply GJ.and; exact rfl; intro hg) | (apply GJ.or; exact rfl; intro hg))
      exact Wk.outS Sup.auto (.refl _) hk
    | [c], hl, hb => simp [badNum] at hb
    | c :: d :: r, hl, hb =>
      have hc : c = 48 := by simpa [badNum] using hb
      subst hc
      have hlen : 1 < (48 :: d :: r : List UInt8).length := by simp
      have hne : ¬ (48 :: d :: r : List UInt8) = [] := by simp
      refine CallOk.intro (args := [_]) (rs := [_, _]) T_ok Tryz.func151 Tryz.call151 rfl rfl (by kernel_rfl) rfl rfl ?_
      repeat (first | exact endA | refine wkP ?_ | refine opB (fun b => ?_) | refine opA (fun a' c' hc1 hc2 => ?_) | (apply GJ.and; exact rfl; intro hg) | (apply GJ.or; exact rfl; intro hg))
      refine Br.t rfl ?_
      repeat (first | exact endA | refine wkP ?_ | refine opB (fun b => ?_) | refine opA (fun a' c' hc1 hc2 => ?_) | (apply GJ.and; exact rfl; intro hg) | (apply GJ.or; exact rfl; intro hg))
      exact Wk.outS Sup.auto (.refl _) hk
  · have hne : ¬ l = [] := by intro e; subst e; exact hb rfl
    have h0 : 1 < l.length → ¬ (l[0]!).toNat = 48 := by
      intro h e
      apply hb
      match l, h, e with
      | c :: d :: r, h, e =>
        have hc : c = 48 := UInt8.toNat_inj.1 e
        subst hc; rfl
    have hnum : numD l = if allDig l = false then (0, 5) else if 18446744073709551616 ≤ valOf l then (0, 40) else (valOf l, 0) := by
      unfold numD
      by_cases ha : allDig l = false
      · rw [if_pos (.inr ha), if_pos ha]
      · rw [if_neg (fun x => x.elim hb ha), if_neg ha]
    have rest : True := trivial
    have hz : (Int.toNat 0) = 0 := rfl
    refine CallOk.intro (args := [_]) (rs := [_, _]) T_ok Tryz.func151 Tryz.call151 rfl rfl (by kernel_rfl) rfl rfl ?_
    by_cases h1 : 1 < l.length
    · have h0 := h0 h1
      repeat (first | exact endA | refine wkP ?_ | refine opB (fun b => ?_) | refine opA (fun a' c' hc1 hc2 => ?_) | (apply GJ.and; exact rfl; intro hg) | (apply GJ.or; exact rfl; intro hg))
      refine Br.f (by rw [hz]; omega) ?_
      repeat (first | exact endA | refine wkP ?_ | refine opB (fun b => ?_) | refine opA (fun a' c' hc1 hc2 => ?_) | (apply GJ.and; exact rfl; intro hg) | (apply GJ.or; exact rfl; intro hg))
      refine LoopOk.at (ι := Nat × Nat × Bool) Keep.auto (fun (i, n, gr) => [(23, .int .i64 (i : Int)), (4, .int .u64 (n : Int)), (5, .bool gr)]) (fun (i, n, gr) => own) (fun (i, n, gr) => i ≤ l.length ∧ allDig (l.take i) = true ∧ n < 18446744073709551616 ∧ (gr = false → n = valOf (l.take i)) ∧ (gr = true → 18446744073709551616 ≤ valOf (l.take i))) (fun (i, n, gr) => l.length - i) (0, 0, false) ?_ Sub.auto Sup.auto ?_
      · exact ⟨Nat.zero_le _, rfl, by decide, fun _ => rfl, fun h => by cases h⟩
      rintro ⟨i, n, gr⟩ ⟨i1, i2, i3, i4, i5⟩
      dsimp only [List.cons_append, List.nil_append] at i1 i2 i3 i4 i5 ⊢
      repeat (first | exact endA | refine wkP ?_ | refine opB (fun b => ?_) | refine opA (fun a' c' hc1 hc2 => ?_) | (apply GJ.and; exact rfl; intro hg) | (apply GJ.or; exact rfl; intro hg))
      refine Br.cases (fun hg => ?_) (fun hg => ?_)
      · have hi : i < l.length := by omega
        obtain ⟨c, hc⟩ : ∃ c, l[i]? = some c := ⟨_, List.getElem?_eq_getElem hi⟩
        have htk : l.take (i + 1) = l.take i ++ [c] := by rw [List.take_add_one, hc]; rfl
        have hgc : l[(i : Int).toNat]! = c := by rw [Int.toNat_natCast, List.getElem!_eq_getElem?_getD, hc]; rfl
        have hcn := c.toNat_lt
        have hbad : isDig c.toNat = false → allDig l = false := fun h => by
          unfold allDig
          rw [List.all_eq_false]
          exact ⟨c, List.mem_of_getElem? hc, by rw [h]; decide⟩
        repeat (first | exact endA | refine wkP ?_ | refine opB (fun b => ?_) | refine opA (fun a' c' hc1 hc2 => ?_) | (apply GJ.and; exact rfl; intro hg) | (apply GJ.or; exact rfl; intro hg))
        try rw [hgc]
        by_cases hlo : c.toNat < 48
        · have hd := hbad (by simp [isDig]; omega)
          rw [hnum, if_pos hd] at hk
          repeat (first | exact endA | refine wkP ?_ | refine opB (fun b => ?_) | refine opA (fun a' c' hc1 hc2 => ?_) | (apply GJ.and; exact rfl; intro hg) | (apply GJ.or; exact rfl; intro hg))
          exact Wk.outS Sup.auto (.refl _) hk
        by_cases hhi : 57 < c.toNat
        · have hd := hbad (by simp [isDig]; omega)
          rw [hnum, if_pos hd] at hk
          repeat (first | exact endA | refine wkP ?_ | refine opB (fun b => ?_) | refine opA (fun a' c' hc1 hc2 => ?_) | (apply GJ.and; exact rfl; intro hg) | (apply GJ.or; exact rfl; intro hg))
          try rw [hgc]
          repeat (first | exact endA | refine wkP ?_ | refine opB (fun b => ?_) | refine opA (fun a' c' hc1 hc2 => ?_) | (apply GJ.and; exact rfl; intro hg) | (apply GJ.or; exact rfl; intro hg))
          exact Wk.outS Sup.auto (.refl _) hk
        have hdig : isDig c.toNat = true := by simp [isDig]; omega
        have hall : allDig (l.take (i + 1)) = true := by
          rw [htk]; unfold allDig at i2 ⊢; rw [List.all_append, i2]; simp [hdig]
        have hv : valOf (l.take (i + 1)) = 10 * valOf (l.take i) + (c.toNat - 48) := by rw [htk, valOf_snoc]
        repeat (first | exact endA | refine wkP ?_ | refine opB (fun b => ?_) | refine opA (fun a' c' hc1 hc2 => ?_) | (apply GJ.and; exact rfl; intro hg) | (apply GJ.or; exact rfl; intro hg))
        try rw [hgc]
        repeat (first | exact endA | refine wkP ?_ | refine opB (fun b => ?_) | refine opA (fun a' c' hc1 hc2 => ?_) | (apply GJ.and; exact rfl; intro hg) | (apply GJ.or; exact rfl; intro hg))
        try rw [hgc]
        repeat (first | exact endA | refine wkP ?_ | refine opB (fun b => ?_) | refine opA (fun a' c' hc1 hc2 => ?_) | (apply GJ.and; exact rfl; intro hg) | (apply GJ.or; exact rfl; intro hg))
        rw [show ((c.toNat : Int) - 48) % 256 = ((c.toNat - 48 : Nat) : Int) by omega]
        refine wline_ok (m := 10) (x := n) (y := c.toNat - 48) (by decide) i3 (by omega) (fun h => ?_) (fun h => ?_)
        · repeat (first | exact endA | refine wkP ?_ | refine opB (fun b => ?_) | refine opA (fun a' c' hc1 hc2 => ?_) | (apply GJ.and; exact rfl; intro hg) | (apply GJ.or; exact rfl; intro hg))
          refine Wk.id ⟨(i + 1, 10 * n + (c.toNat - 48), gr), ⟨rfl, ?_⟩, ?_, Sub.auto, Sup.auto⟩
          all_goals try dsimp only
          · exact ⟨by omega, hall, h, fun e => by rw [hv, i4 e], fun e => by have := i5 e; omega⟩
          · omega
        · repeat (first | exact endA | refine wkP ?_ | refine opB (fun b => ?_) | refine opA (fun a' c' hc1 hc2 => ?_) | (apply GJ.and; exact rfl; intro hg) | (apply GJ.or; exact rfl; intro hg))
          refine Wk.id ⟨(i + 1, 0, true), ⟨rfl, ?_⟩, ?_, Sub.auto, Sup.auto⟩
          all_goals try dsimp only
          · refine ⟨by omega, hall, by decide, fun e => (by cases e), fun _ => ?_⟩
            rw [hv]
            cases gr with
            | false => rw [← i4 rfl]; exact h
            | true => have := i5 rfl; omega
          · omega
      · obtain rfl : i = l.length := by omega
        rw [List.take_length] at i2 i4 i5
        rw [hnum, if_neg (by rw [i2]; decide)] at hk
        cases gr with
        | true =>
          rw [if_pos (i5 rfl)] at hk
          repeat (first | exact endA | refine wkP ?_ | refine opB (fun b => ?_) | refine opA (fun a' c' hc1 hc2 => ?_) | (apply GJ.and; exact rfl; intro hg) | (apply GJ.or; exact rfl; intro hg))
          exact Wk.outS Sup.auto (.refl _) hk
        | false =>
          rw [← i4 rfl, if_neg (by omega)] at hk
          repeat (first | exact endA | refine wkP ?_ | refine opB (fun b => ?_) | refine opA (fun a' c' hc1 hc2 => ?_) | (apply GJ.and; exact rfl; intro hg) | (apply GJ.or; exact rfl; intro hg))
          exact Wk.outS Sup.auto (.refl _) hk
    · repeat (first | exact endA | refine wkP ?_ | refine opB (fun b => ?_) | refine opA (fun a' c' hc1 hc2 => ?_) | (apply GJ.and; exact rfl; intro hg) | (apply GJ.or; exact rfl; intro hg))
      refine LoopOk.at (ι := Nat × Nat × Bool) Keep.auto (fun (i, n, gr) => [(23, .int .i64 (i : Int)), (4, .int .u64 (n : Int)), (5, .bool gr)]) (fun (i, n, gr) => own) (fun (i, n, gr) => i ≤ l.length ∧ allDig (l.take i) = true ∧ n < 18446744073709551616 ∧ (gr = false → n = valOf (l.take i)) ∧ (gr = true → 18446744073709551616 ≤ valOf (l.take i))) (fun (i, n, gr) => l.length - i) (0, 0, false) ?_ Sub.auto Sup.auto ?_
      · exact ⟨Nat.zero_le _, rfl, by decide, fun _ => rfl, fun h => by cases h⟩
      rintro ⟨i, n, gr⟩ ⟨i1, i2, i3, i4, i5⟩
      dsimp only [List.cons_append, List.nil_append] at i1 i2 i3 i4 i5 ⊢
      repeat (first | exact endA | refine wkP ?_ | refine opB (fun b => ?_) | refine opA (fun a' c' hc1 hc2 => ?_) | (apply GJ.and; exact rfl; intro hg) | (apply GJ.or; exact rfl; intro hg))
      refine Br.cases (fun hg => ?_) (fun hg => ?_)
      · have hi : i < l.length := by omega
        obtain ⟨c, hc⟩ : ∃ c, l[i]? = some c := ⟨_, List.getElem?_eq_getElem hi⟩
        have htk : l.take (i + 1) = l.take i ++ [c] := by rw [List.take_add_one, hc]; rfl
        have hgc : l[(i : Int).toNat]! = c := by rw [Int.toNat_natCast, List.getElem!_eq_getElem?_getD, hc]; rfl
        have hcn := c.toNat_lt
        have hbad : isDig c.toNat = false → allDig l = false := fun h => by
          unfold allDig
          rw [List.all_eq_false]
          exact ⟨c, List.mem_of_getElem? hc, by rw [h]; decide⟩
        repeat (first | exact endA | refine wkP ?_ | refine opB (fun b => ?_) | refine opA (fun a' c' hc1 hc2 => ?_) | (apply GJ.and; exact rfl; intro hg) | (apply GJ.or; exact rfl; intro hg))
        try rw [hgc]
        by_cases hlo : c.toNat < 48
        · have hd := hbad (by simp [isDig]; omega)
          rw [hnum, if_pos hd] at hk
          repeat (first | exact endA | refine wkP ?_ | refine opB (fun b => ?_) | refine opA (fun a' c' hc1 hc2 => ?_) | (apply GJ.and; exact rfl; intro hg) | (apply GJ.or; exact rfl; intro hg))
          exact Wk.outS Sup.auto (.refl _) hk
        by_cases hhi : 57 < c.toNat
        · have hd := hbad (by simp [isDig]; omega)
          rw [hnum, if_pos hd] at hk
          repeat (first | exact endA | refine wkP ?_ | refine opB (fun b => ?_) | refine opA (fun a' c' hc1 hc2 => ?_) | (apply GJ.and; exact rfl; intro hg) | (apply GJ.or; exact rfl; intro hg))
          try rw [hgc]
          repeat (first | exact endA | refine wkP ?_ | refine opB (fun b => ?_) | refine opA (fun a' c' hc1 hc2 => ?_) | (apply GJ.and; exact rfl; intro hg) | (apply GJ.or; exact rfl; intro hg))
          exact Wk.outS Sup.auto (.refl _) hk
        have hdig : isDig c.toNat = true := by simp [isDig]; omega
        have hall : allDig (l.take (i + 1)) = true := by
          rw [htk]; unfold allDig at i2 ⊢; rw [List.all_append, i2]; simp [hdig]
        have hv : valOf (l.take (i + 1)) = 10 * valOf (l.take i) + (c.toNat - 48) := by rw [htk, valOf_snoc]
        repeat (first | exact endA | refine wkP ?_ | refine opB (fun b => ?_) | refine opA (fun a' c' hc1 hc2 => ?_) | (apply GJ.and; exact rfl; intro hg) | (apply GJ.or; exact rfl; intro hg))
        try rw [hgc]
        repeat (first | exact endA | refine wkP ?_ | refine opB (fun b => ?_) | refine opA (fun a' c' hc1 hc2 => ?_) | (apply GJ.and; exact rfl; intro hg) | (apply GJ.or; exact rfl; intro hg))
        try rw [hgc]
        repeat (first | exact endA | refine wkP ?_ | refine opB (fun b => ?_) | refine opA (fun a' c' hc1 hc2 => ?_) | (apply GJ.and; exact rfl; intro hg) | (apply GJ.or; exact rfl; intro hg))
        rw [show ((c.toNat : Int) - 48) % 256 = ((c.toNat - 48 : Nat) : Int) by omega]
        refine wline_ok (m := 10) (x := n) (y := c.toNat - 48) (by decide) i3 (by omega) (fun h => ?_) (fun h => ?_)
        · repeat (first | exact endA | refine wkP ?_ | refine opB (fun b => ?_) | refine opA (fun a' c' hc1 hc2 => ?_) | (apply GJ.and; exact rfl; intro hg) | (apply GJ.or; exact rfl; intro hg))
          refine Wk.id ⟨(i + 1, 10 * n + (c.toNat - 48), gr), ⟨rfl, ?_⟩, ?_, Sub.auto, Sup.auto⟩
          all_goals try dsimp only
          · exact ⟨by omega, hall, h, fun e => by rw [hv, i4 e], fun e => by have := i5 e; omega⟩
          · omega
        · repeat (first | exact endA | refine wkP ?_ | refine opB (fun b => ?_) | refine opA (fun a' c' hc1 hc2 => ?_) | (apply GJ.and; exact rfl; intro hg) | (apply GJ.or; exact rfl; intro hg))
          refine Wk.id ⟨(i + 1, 0, true), ⟨rfl, ?_⟩, ?_, Sub.auto, Sup.auto⟩
          all_goals try dsimp only
          · refine ⟨by omega, hall, by decide, fun e => (by cases e), fun _ => ?_⟩
            rw [hv]
            cases gr with
            | false => rw [← i4 rfl]; exact h
            | true => have := i5 rfl; omega
          · omega
      · obtain rfl : i = l.length := by omega
        rw [List.take_length] at i2 i4 i5
        rw [hnum, if_neg (by rw [i2]; decide)] at hk
        cases gr with
        | true =>
          rw [if_pos (i5 rfl)] at hk
          repeat (first | exact endA | refine wkP ?_ | refine opB (fun b => ?_) | refine opA (fun a' c' hc1 hc2 => ?_) | (apply GJ.and; exact rfl; intro hg) | (apply GJ.or; exact rfl; intro hg))
          exact Wk.outS Sup.auto (.refl _) hk
        | false =>
          rw [← i4 rfl, if_neg (by omega)] at hk
          repeat (first | exact endA | refine wkP ?_ | refine opB (fun b => ?_) | refine opA (fun a' c' hc1 hc2 => ?_) | (apply GJ.and; exact rfl; intro hg) | (apply GJ.or; exact rfl; intro hg))
          exact Wk.outS Sup.auto (.refl _) hk
end
end Go.Proofs.YtnapjcnfgdkmcaaGreatDoor
end
