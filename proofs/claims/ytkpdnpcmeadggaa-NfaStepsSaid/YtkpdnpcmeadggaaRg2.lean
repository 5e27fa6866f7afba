/- Contracts of regex: escape, byte. -/
import Derived.Test.YtkpdnpcmeadggaaRg1
namespace Go.Proofs.Ytkpdnpcmeadggaa
open Go Go.E
set_option linter.unusedVariables false
set_option linter.unusedSimpArgs false
set_option maxRecDepth 10000
theorem signsR_all : ∀ c : Nat, c < 256 → decide (0 ≤ firstIdx ⟨⟨signsR⟩⟩ (UInt8.ofNat c)) = (signsR.map (·.toNat)).contains c := by decide +kernel
theorem hexes_or : ∀ a : Nat, a < 16 → ∀ b : Nat, b < 16 → nor2 ((a : Int) * 2 ^ (4 : Int).toNat % 256) (b : Int) = ((16 * a + b : Nat) : Int) := by decide +kernel
theorem digitD_lt {t : List UInt8} {a : Nat} {s : RS} : (digitD t a s).1 < 16 := by
  unfold digitD isDig
  split
  · rename_i h; simp at h; dsimp only; omega
  · split
    · dsimp only; omega
    · show (0 : Nat) < 16; decide
theorem digitD_p {t : List UInt8} {a : Nat} {s : RS} : (digitD t a s).2.p = s.p + 1 := by
  unfold digitD
  split
  · rfl
  · split
    · rfl
    · unfold RS.wrong; split <;> rfl
section
variable {ro : Ro} {own r : Chs} {K : Value → Ro → Chs → Prop} {g : Chunk → Chs} {q : Nat} {t : List UInt8}
theorem containsR_ok {u : UInt8} (hk : K (.bool (decide (0 ≤ firstIdx ⟨⟨signsR⟩⟩ u))) ro own) : CallOk Try.prog 71 #[str signsR, str [u]] ro own K := by
  refine CallOk.intro (args := [_, _]) (rs := [_]) T_ok Try.func71 Try.call71 rfl rfl (by kernel_rfl) rfl rfl ?_
  repeat (first
    | (show _ ∧ _; exact ⟨rfl, rfl, rfl⟩)
    | refine wkG ?_
    | (show OpOk _ _ _ _ _ _ _; first | refine opB (fun b => ?_) | refine opA (fun a' c' hc1 hc2 => ?_))
    | (show GJ _ _ _ _ _ _ _; first | (apply GJ.and; exact rfl; intro hg) | (apply GJ.or; exact rfl; intro hg) | refine GJ.t omAuto ?_ | refine GJ.f omAuto ?_ | refine GJ.ft omAuto ?_ | refine GJ.ff omAuto ?_))
  refine index_ok (by intro h; cases h) ?_
  repeat (first
    | (show _ ∧ _; exact ⟨rfl, rfl, rfl⟩)
    | refine wkG ?_
    | (show OpOk _ _ _ _ _ _ _; first | refine opB (fun b => ?_) | refine opA (fun a' c' hc1 hc2 => ?_))
    | (show GJ _ _ _ _ _ _ _; first | (apply GJ.and; exact rfl; intro hg) | (apply GJ.or; exact rfl; intro hg) | refine GJ.t omAuto ?_ | refine GJ.f omAuto ?_ | refine GJ.ft omAuto ?_ | refine GJ.ff omAuto ?_))
  exact Wk.outS Sup.auto (.refl _) hk
set_option maxHeartbeats 4000000 in
theorem escape_ok {s : RS} [hb : HasBlk own q 71 (rsV t s) g] {x : Int} (a : Nat) (hx : x = (a : Int)) (hp : s.p ≤ 1000000) (hk : K (.int .u8 ((escD t a s).1 : Int)) ro (g (.blk q 71 (rsV t (escD t a s).2)))) :
    CallOk Try.prog 70 #[ptr' q, .int .i64 x] ro own K := by
  obtain ⟨r, p1, p2⟩ := hb.split
  refine CallOk.perm p1 ?_
  have hlt := peek_lt t s
  refine CallOk.intro (args := [_, _]) (rs := [_]) T_ok Try.func70 Try.call70 rfl rfl (by kernel_rfl) rfl rfl ?_
  repeat (first
    | (show _ ∧ _; exact ⟨rfl, rfl, rfl⟩)
    | refine wkA ?_
    | (show OpOk _ _ _ _ _ _ _; first | refine opB (fun b => ?_) | refine opA (fun a' c' hc1 hc2 => ?_))
    | (show GJ _ _ _ _ _ _ _; first | (apply GJ.and; exact rfl; intro hg) | (apply GJ.or; exact rfl; intro hg)))
  refine peek_ok (t := t) (s := s) ?_
  have e1 : (.blk q 71 [str t, .int .i64 ((s.p : Int) + 1), .int .i64 (s.n : Int), .int .i64 (s.e : Int), .int .i64 (s.f : Int)] : Chunk) = .blk q 71 (rsV t s.adv) := rfl
  unfold escD at hk
  generalize peekD t s = c at hlt hk ⊢
  by_cases h1 : c = 110
  · rw [if_pos h1] at hk
    repeat (first
      | (show _ ∧ _; exact ⟨rfl, rfl, rfl⟩)
      | refine wkP ?_
      | (show OpOk _ _ _ _ _ _ _; first | refine opB (fun b => ?_) | refine opA (fun a' c' hc1 hc2 => ?_))
      | (show GJ _ _ _ _ _ _ _; first | (apply GJ.and; exact rfl; intro hg) | (apply GJ.or; exact rfl; intro hg)))
    exact Wk.outS Sup.auto (p2 _) hk
  rw [if_neg h1] at hk
  by_cases h2 : c = 114
  · rw [if_pos h2] at hk
    repeat (first
      | (show _ ∧ _; exact ⟨rfl, rfl, rfl⟩)
      | refine wkP ?_
      | (show OpOk _ _ _ _ _ _ _; first | refine opB (fun b => ?_) | refine opA (fun a' c' hc1 hc2 => ?_))
      | (show GJ _ _ _ _ _ _ _; first | (apply GJ.and; exact rfl; intro hg) | (apply GJ.or; exact rfl; intro hg)))
    exact Wk.outS Sup.auto (p2 _) hk
  rw [if_neg h2] at hk
  by_cases h3 : c = 116
  · rw [if_pos h3] at hk
    repeat (first
      | (show _ ∧ _; exact ⟨rfl, rfl, rfl⟩)
      | refine wkP ?_
      | (show OpOk _ _ _ _ _ _ _; first | refine opB (fun b => ?_) | refine opA (fun a' c' hc1 hc2 => ?_))
      | (show GJ _ _ _ _ _ _ _; first | (apply GJ.and; exact rfl; intro hg) | (apply GJ.or; exact rfl; intro hg)))
    exact Wk.outS Sup.auto (p2 _) hk
  rw [if_neg h3] at hk
  by_cases h4 : c = 48
  · rw [if_pos h4] at hk
    repeat (first
      | (show _ ∧ _; exact ⟨rfl, rfl, rfl⟩)
      | refine wkP ?_
      | (show OpOk _ _ _ _ _ _ _; first | refine opB (fun b => ?_) | refine opA (fun a' c' hc1 hc2 => ?_))
      | (show GJ _ _ _ _ _ _ _; first | (apply GJ.and; exact rfl; intro hg) | (apply GJ.or; exact rfl; intro hg)))
    exact Wk.outS Sup.auto (p2 _) hk
  rw [if_neg h4] at hk
  by_cases h5 : c = 120
  · rw [if_pos h5] at hk
    repeat (first
      | (show _ ∧ _; exact ⟨rfl, rfl, rfl⟩)
      | refine wkP ?_
      | (show OpOk _ _ _ _ _ _ _; first | refine opB (fun b => ?_) | refine opA (fun a' c' hc1 hc2 => ?_))
      | (show GJ _ _ _ _ _ _ _; first | (apply GJ.and; exact rfl; intro hg) | (apply GJ.or; exact rfl; intro hg)))
    rw [e1]
    refine digit_ok (t := t) (s := s.adv) a hx (by show s.p + 1 ≤ _; omega) ?_
    repeat (first
      | (show _ ∧ _; exact ⟨rfl, rfl, rfl⟩)
      | refine wkP ?_
      | (show OpOk _ _ _ _ _ _ _; first | refine opB (fun b => ?_) | refine opA (fun a' c' hc1 hc2 => ?_))
      | (show GJ _ _ _ _ _ _ _; first | (apply GJ.and; exact rfl; intro hg) | (apply GJ.or; exact rfl; intro hg)))
    refine digit_ok (t := t) (s := (digitD t a s.adv).2) a hx (by rw [digitD_p]; show s.p + 1 + 1 ≤ _; omega) ?_
    have l1 := digitD_lt (t := t) (a := a) (s := s.adv)
    have l2 := digitD_lt (t := t) (a := a) (s := (digitD t a s.adv).2)
    have l3 := hexes_or _ l1 _ l2
    generalize (digitD t a s.adv).1 = y at l1 l3 hk ⊢
    generalize (digitD t a (digitD t a s.adv).2).1 = z at l2 l3 hk ⊢
    repeat (first
      | (show _ ∧ _; exact ⟨rfl, rfl, rfl⟩)
      | refine wkP ?_
      | (show OpOk _ _ _ _ _ _ _; first | refine opB (fun b => ?_) | refine opA (fun a' c' hc1 hc2 => ?_))
      | (show GJ _ _ _ _ _ _ _; first | (apply GJ.and; exact rfl; intro hg) | (apply GJ.or; exact rfl; intro hg)))
    exact Wk.outE Sup.auto (p2 _) hk (congrArg (Value.int .u8) l3.symm)
  rw [if_neg h5] at hk
  cases hbad : badEsc c with
  | true =>
    rw [hbad, if_pos rfl] at hk
    simp only [badEsc, isDig, Bool.or_eq_true, Bool.and_eq_true, decide_eq_true_iff] at hbad
    repeat (first
      | (show _ ∧ _; exact ⟨rfl, rfl, rfl⟩)
      | refine wkP ?_
      | (show OpOk _ _ _ _ _ _ _; first | refine opB (fun b => ?_) | refine opA (fun a' c' hc1 hc2 => ?_))
      | (show GJ _ _ _ _ _ _ _; first | (apply GJ.and; exact rfl; intro hg) | (apply GJ.or; exact rfl; intro hg)))
    rw [e1]
    refine rwrong_ok (t := t) (s := s.adv) 5 a rfl hx ?_
    repeat (first
      | (show _ ∧ _; exact ⟨rfl, rfl, rfl⟩)
      | refine wkP ?_
      | (show OpOk _ _ _ _ _ _ _; first | refine opB (fun b => ?_) | refine opA (fun a' c' hc1 hc2 => ?_))
      | (show GJ _ _ _ _ _ _ _; first | (apply GJ.and; exact rfl; intro hg) | (apply GJ.or; exact rfl; intro hg)))
    exact Wk.outS Sup.auto (p2 _) hk
  | false =>
    rw [hbad, if_neg (by decide)] at hk
    have hbad : ¬ badEsc c = true := by rw [hbad]; decide
    simp only [badEsc, isDig, Bool.or_eq_true, Bool.and_eq_true, decide_eq_true_iff] at hbad
    repeat (first
      | (show _ ∧ _; exact ⟨rfl, rfl, rfl⟩)
      | refine wkP ?_
      | (show OpOk _ _ _ _ _ _ _; first | refine opB (fun b => ?_) | refine opA (fun a' c' hc1 hc2 => ?_))
      | (show GJ _ _ _ _ _ _ _; first | (apply GJ.and; exact rfl; intro hg) | (apply GJ.or; exact rfl; intro hg)))
    exact Wk.outS Sup.auto (p2 _) hk
theorem escD_p {a : Nat} {s : RS} : (escD t a s).2.p ≤ s.p + 3 := by
  unfold escD
  repeat' split
  all_goals first | (show s.p + 1 ≤ _; omega) | (dsimp only; rw [digitD_p, digitD_p]; show s.p + 1 + 1 + 1 ≤ _; omega) | (dsimp only; unfold RS.wrong; split <;> (show s.p + 1 ≤ _; omega)) | (dsimp only; show s.p + 1 ≤ _; omega)
theorem byteD_p {s : RS} : (byteD t s).2.p ≤ s.p + 4 := by
  unfold byteD
  split
  · have := escD_p (t := t) (a := s.p) (s := s.adv)
    have e : s.adv.p = s.p + 1 := rfl
    omega
  · split
    · dsimp only; unfold RS.wrong; split <;> (first | omega | (dsimp only; omega))
    · show s.p + 1 ≤ _; omega
theorem escD_lt {a : Nat} {s : RS} : (escD t a s).1 < 256 := by
  have l1 := digitD_lt (t := t) (a := a) (s := s.adv)
  have l2 := digitD_lt (t := t) (a := a) (s := (digitD t a s.adv).2)
  have l3 := peek_lt t s
  unfold escD
  repeat' split
  all_goals first | omega | (dsimp only; omega)
theorem byteD_lt {s : RS} : (byteD t s).1 < 256 := by
  have l3 := peek_lt t s
  unfold byteD
  split
  · exact escD_lt
  · split
    · show (0 : Nat) < 256; decide
    · exact l3
set_option maxHeartbeats 4000000 in
theorem byte_ok {s : RS} [hb : HasBlk own q 71 (rsV t s) g] (hp : s.p ≤ 100000) (hk : K (.int .u8 ((byteD t s).1 : Int)) ro (g (.blk q 71 (rsV t (byteD t s).2)))) :
    CallOk Try.prog 65 #[ptr' q] ro own K := by
  obtain ⟨r, p1, p2⟩ := hb.split
  refine CallOk.perm p1 ?_
  have hlt := peek_lt t s
  refine CallOk.intro (args := [_]) (rs := [_]) T_ok Try.func65 Try.call65 rfl rfl (by kernel_rfl) rfl rfl ?_
  repeat (first
    | (show _ ∧ _; exact ⟨rfl, rfl, rfl⟩)
    | refine wkP ?_
    | (show OpOk _ _ _ _ _ _ _; first | refine opB (fun b => ?_) | refine opA (fun a' c' hc1 hc2 => ?_))
    | (show GJ _ _ _ _ _ _ _; first | (apply GJ.and; exact rfl; intro hg) | (apply GJ.or; exact rfl; intro hg)))
  refine peek_ok (t := t) (s := s) ?_
  have e1 : (.blk q 71 [str t, .int .i64 ((s.p : Int) + 1), .int .i64 (s.n : Int), .int .i64 (s.e : Int), .int .i64 (s.f : Int)] : Chunk) = .blk q 71 (rsV t s.adv) := rfl
  unfold byteD at hk
  generalize peekD t s = c at hlt hk ⊢
  by_cases h1 : c = 92
  · rw [if_pos h1] at hk
    repeat (first
      | (show _ ∧ _; exact ⟨rfl, rfl, rfl⟩)
      | refine wkP ?_
      | (show OpOk _ _ _ _ _ _ _; first | refine opB (fun b => ?_) | refine opA (fun a' c' hc1 hc2 => ?_))
      | (show GJ _ _ _ _ _ _ _; first | (apply GJ.and; exact rfl; intro hg) | (apply GJ.or; exact rfl; intro hg)))
    rw [e1]
    refine escape_ok (t := t) (s := s.adv) s.p rfl (by show s.p + 1 ≤ _; omega) ?_
    repeat (first
      | (show _ ∧ _; exact ⟨rfl, rfl, rfl⟩)
      | refine wkP ?_
      | (show OpOk _ _ _ _ _ _ _; first | refine opB (fun b => ?_) | refine opA (fun a' c' hc1 hc2 => ?_))
      | (show GJ _ _ _ _ _ _ _; first | (apply GJ.and; exact rfl; intro hg) | (apply GJ.or; exact rfl; intro hg)))
    exact Wk.outS Sup.auto (p2 _) hk
  rw [if_neg h1] at hk
  obtain ⟨u, hu⟩ : ∃ u : UInt8, u.toNat = c := ⟨UInt8.ofNat c, UInt8.toNat_ofNat_of_lt' hlt⟩
  have hsg := signsR_all c hlt
  rw [← hu, UInt8.ofNat_toNat, hu] at hsg
  unfold badB at hk
  by_cases h2 : c < 32
  · rw [decide_eq_true h2] at hk
    repeat (first
      | (show _ ∧ _; exact ⟨rfl, rfl, rfl⟩)
      | refine wkP ?_
      | (show OpOk _ _ _ _ _ _ _; first | refine opB (fun b => ?_) | refine opA (fun a' c' hc1 hc2 => ?_))
      | (show GJ _ _ _ _ _ _ _; first | (apply GJ.and; exact rfl; intro hg) | (apply GJ.or; exact rfl; intro hg)))
    refine rwrong_ok (t := t) (s := s) 5 s.p rfl rfl ?_
    repeat (first
      | (show _ ∧ _; exact ⟨rfl, rfl, rfl⟩)
      | refine wkP ?_
      | (show OpOk _ _ _ _ _ _ _; first | refine opB (fun b => ?_) | refine opA (fun a' c' hc1 hc2 => ?_))
      | (show GJ _ _ _ _ _ _ _; first | (apply GJ.and; exact rfl; intro hg) | (apply GJ.or; exact rfl; intro hg)))
    exact Wk.outS Sup.auto (p2 _) hk
  rw [decide_eq_false h2] at hk
  by_cases h3 : 126 < c
  · rw [decide_eq_true h3] at hk
    repeat (first
      | (show _ ∧ _; exact ⟨rfl, rfl, rfl⟩)
      | refine wkP ?_
      | (show OpOk _ _ _ _ _ _ _; first | refine opB (fun b => ?_) | refine opA (fun a' c' hc1 hc2 => ?_))
      | (show GJ _ _ _ _ _ _ _; first | (apply GJ.and; exact rfl; intro hg) | (apply GJ.or; exact rfl; intro hg)))
    refine rwrong_ok (t := t) (s := s) 5 s.p rfl rfl ?_
    repeat (first
      | (show _ ∧ _; exact ⟨rfl, rfl, rfl⟩)
      | refine wkP ?_
      | (show OpOk _ _ _ _ _ _ _; first | refine opB (fun b => ?_) | refine opA (fun a' c' hc1 hc2 => ?_))
      | (show GJ _ _ _ _ _ _ _; first | (apply GJ.and; exact rfl; intro hg) | (apply GJ.or; exact rfl; intro hg)))
    exact Wk.outS Sup.auto (p2 _) hk
  rw [decide_eq_false h3, Bool.false_or, Bool.false_or, ← hsg] at hk
  repeat (first
    | (show _ ∧ _; exact ⟨rfl, rfl, rfl⟩)
    | refine wkP ?_
    | (show OpOk _ _ _ _ _ _ _; first | refine opB (fun b => ?_) | refine opA (fun a' c' hc1 hc2 => ?_))
    | (show GJ _ _ _ _ _ _ _; first | (apply GJ.and; exact rfl; intro hg) | (apply GJ.or; exact rfl; intro hg)))
  subst hu
  refine OpOk.toStr (l := [u]) rfl rfl rfl rfl (Rds.hasSl (cs := [u8 u]) (by omega) (by decide) rfl) ?_
  repeat (first
    | (show _ ∧ _; exact ⟨rfl, rfl, rfl⟩)
    | refine wkP ?_
    | (show OpOk _ _ _ _ _ _ _; first | refine opB (fun b => ?_) | refine opA (fun a' c' hc1 hc2 => ?_))
    | (show GJ _ _ _ _ _ _ _; first | (apply GJ.and; exact rfl; intro hg) | (apply GJ.or; exact rfl; intro hg)))
  refine containsR_ok ?_
  generalize decide (0 ≤ firstIdx ⟨⟨signsR⟩⟩ u) = d at hk ⊢
  cases d with
  | true =>
    repeat (first
      | (show _ ∧ _; exact ⟨rfl, rfl, rfl⟩)
      | refine wkP ?_
      | (show OpOk _ _ _ _ _ _ _; first | refine opB (fun b => ?_) | refine opA (fun a' c' hc1 hc2 => ?_))
      | (show GJ _ _ _ _ _ _ _; first | (apply GJ.and; exact rfl; intro hg) | (apply GJ.or; exact rfl; intro hg)))
    refine rwrong_ok (t := t) (s := s) 5 s.p rfl rfl ?_
    repeat (first
      | (show _ ∧ _; exact ⟨rfl, rfl, rfl⟩)
      | refine wkP ?_
      | (show OpOk _ _ _ _ _ _ _; first | refine opB (fun b => ?_) | refine opA (fun a' c' hc1 hc2 => ?_))
      | (show GJ _ _ _ _ _ _ _; first | (apply GJ.and; exact rfl; intro hg) | (apply GJ.or; exact rfl; intro hg)))
    exact Wk.outS Sup.auto (p2 _) hk
  | false =>
    repeat (first
      | (show _ ∧ _; exact ⟨rfl, rfl, rfl⟩)
      | refine wkP ?_
      | (show OpOk _ _ _ _ _ _ _; first | refine opB (fun b => ?_) | refine opA (fun a' c' hc1 hc2 => ?_))
      | (show GJ _ _ _ _ _ _ _; first | (apply GJ.and; exact rfl; intro hg) | (apply GJ.or; exact rfl; intro hg)))
    exact Wk.outS Sup.auto (p2 _) hk
end
end Go.Proofs.Ytkpdnpcmeadggaa
