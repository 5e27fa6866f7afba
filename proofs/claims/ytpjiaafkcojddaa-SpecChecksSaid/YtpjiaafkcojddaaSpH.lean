/- Counts of owners against what is owned. The law's wrong. -/
import Derived.Test.YtpjiaafkcojddaaSpG
import Derived.Test.YtpjiaafkcojddaaMp
namespace Go.Proofs.Ytpjiaafkcojddaa
open Go Go.E
set_option linter.unusedVariables false
set_option maxRecDepth 10000
/-- What is owned, told by counts. -/
def OwnM (n : Nat) (o : List Bool) (m : Int → Int) : Prop := o.length = n ∧ ∀ k : Nat, k < n → m k = if o[k]! = true then 1 else 0
def KR (lim n : Nat) (rest : List Int) (res : Except Int (List Bool)) (w : Int) (m : Int → Int) : Prop :=
  (w ≠ 0 ∧ res = .error w) ∨ (w = 0 ∧ ∃ o, OwnM n o m ∧ ownAll lim rest o = res)
theorem KR.step {lim n : Nat} {k : Int} {rest : List Int} {res : Except Int (List Bool)} {w w' : Int} {m m' : Int → Int} (h : KR lim n (k :: rest) res w m) (hl : lim ≤ n) (hm : ∀ j, m' j = if j = k then m k + 1 else m j)
    (hw : w' = if w = 0 ∧ (k < 0 ∨ (lim : Int) ≤ k) then 3 else if w = 0 ∧ 1 < m k + 1 then 4 else w) : KR lim n rest res w' m' := by
  rcases h with ⟨h1, h2⟩ | ⟨rfl, o, ⟨h1, h2⟩, h3⟩
  · rw [if_neg (by omega), if_neg (by omega)] at hw
    subst hw
    exact .inl ⟨h1, h2⟩
  · rw [ownAll] at h3
    by_cases hr : k < 0 ∨ (lim : Int) ≤ k
    · rw [if_pos hr] at h3
      rw [if_pos ⟨rfl, hr⟩] at hw
      subst hw
      exact .inl ⟨by omega, h3.symm⟩
    · rw [if_neg hr] at h3
      rw [if_neg (by omega)] at hw
      obtain ⟨j, rfl⟩ : ∃ j : Nat, k = j := ⟨k.toNat, by omega⟩
      have hj := h2 j (by omega)
      rw [Int.toNat_natCast] at h3
      by_cases ho : o[j]! = true
      · rw [if_pos ho] at h3 hj
        rw [if_pos (by omega)] at hw
        subst hw
        exact .inl ⟨by omega, h3.symm⟩
      · rw [if_neg ho] at h3 hj
        rw [if_neg (by omega)] at hw
        subst hw
        refine .inr ⟨rfl, _, ⟨by rw [List.length_set]; exact h1, fun i hi => ?_⟩, h3⟩
        rw [hm]
        by_cases hij : i = j
        · subst hij
          rw [if_pos rfl, hj, List.getElem!_eq_getElem?_getD, List.getElem?_set_self (by omega)]
          rfl
        · rw [if_neg (by omega), h2 i hi, List.getElem!_eq_getElem?_getD, List.getElem!_eq_getElem?_getD, List.getElem?_set_ne (by omega)]
section
variable {ro : Ro} {own r : Chs} {K : Value → Ro → Chs → Prop} {g : Chunk → Chs}
def kidsOk (d : NodeD) : Bool := decide (if d.kind = 6 ∨ d.kind = 7 ∨ d.kind = 8 then d.kids.length = 1 else if d.kind = 10 ∨ d.kind = 11 then 0 < d.kids.length else d.kids.length = 0)
theorem shift_most {d : NodeD} (hk : d.kind = 1) (h : 1 ≤ d.width ∧ d.width ≤ 8) : (18446744073709551615 : Int) / 2 ^ (64 - 8 * d.width).toNat = (mostD d : Nat) := by
  unfold mostD
  rw [if_pos hk]
  generalize d.width = w at h
  obtain ⟨h1, h2⟩ := h
  have : w = 1 ∨ w = 2 ∨ w = 3 ∨ w = 4 ∨ w = 5 ∨ w = 6 ∨ w = 7 ∨ w = 8 := by omega
  rcases this with rfl | rfl | rfl | rfl | rfl | rfl | rfl | rfl <;> rfl
set_option maxHeartbeats 2000000 in
theorem wrong_ok {d : NodeD} {a : NodeA} (hk : K (.int .i64 (formD d)) ro own) : CallOk Try.prog 24 #[.agg (nodeV d a).toArray] ro own K := by
  refine CallOk.intro (args := [_]) (rs := [_]) T_ok Try.func24 Try.call24 rfl rfl (by kernel_rfl) rfl rfl ?_
  repeat (first
    | (show _ ∧ _; exact ⟨rfl, rfl, rfl⟩)
    | refine wkT ?_
    | (show OpOk _ _ _ _ _ _ _; first | refine opB (fun b => ?_) | refine opA (fun a' c' hc1 hc2 => ?_))
    | (show GJ _ _ _ _ _ _ _; first | (apply GJ.and; exact rfl; intro hg) | (apply GJ.or; exact rfl; intro hg)))
  refine SeqOk.cut (ι := Bool) (fun q => [(1, .pointer (some ⟨b, 0, none⟩)), (2, .int .i64 0), (3, .int .i64 d.kind), (4, .bool q)]) (fun q => .blk b 78 (nodeV d a) :: own) (fun q r => r = ro ∧ q = kidsOk d) ?_ ?_
  · repeat' (first
      | (show _ ∧ _; exact ⟨rfl, rfl, rfl⟩)
      | refine wkT ?_
      | (show OpOk _ _ _ _ _ _ _; first | refine opB (fun b => ?_) | refine opA (fun a' c' hc1 hc2 => ?_))
      | (show GJ _ _ _ _ _ _ _; first | (apply GJ.and; exact rfl; intro hg) | (apply GJ.or; exact rfl; intro hg))
      | refine SeqOk.pass ?_
      | refine Br.cases (fun h => ?_) (fun h => ?_)
      | (show GJ _ _ _ _ _ _ _; first | refine GJ.casesT (fun h => ?_) (fun h => ?_) | refine GJ.casesF (fun h => ?_) (fun h => ?_))
      | refine Bs.all ?_
      | (show OpOk _ _ _ _ _ _ _; refine OpOk.neqStruct rfl rfl rfl rfl (by kernel_rfl) (by kernel_rfl) (by kernel_rfl) ?_)
      | (show CallOk _ _ _ _ _ _; first | skip))
    all_goals refine Wk.id ⟨_, ⟨rfl, ?_⟩, Sub.auto, Sup.auto⟩
    all_goals (unfold kidsOk; grind)
  rintro q ro' _ ⟨rfl, rfl⟩
  repeat (first
    | (show _ ∧ _; exact ⟨rfl, rfl, rfl⟩)
    | refine wkT ?_
    | (show OpOk _ _ _ _ _ _ _; first | refine opB (fun b => ?_) | refine opA (fun a' c' hc1 hc2 => ?_))
    | (show GJ _ _ _ _ _ _ _; first | (apply GJ.and; exact rfl; intro hg) | (apply GJ.or; exact rfl; intro hg)))
  refine SeqOk.cut (ι := Nat) (fun n => [(1, .pointer (some ⟨b, 0, none⟩)), (2, .int .i64 0), (3, .int .i64 d.kind), (4, .bool (kidsOk d)), (5, .int .i64 (n : Int))]) (fun n => .blk b 78 (nodeV d a) :: own) (fun n r => r = ro' ∧ n = if d.kind = 11 then d.kids.length else 0) ?_ ?_
  · repeat' (first
      | (show _ ∧ _; exact ⟨rfl, rfl, rfl⟩)
      | refine wkT ?_
      | (show OpOk _ _ _ _ _ _ _; first | refine opB (fun b => ?_) | refine opA (fun a' c' hc1 hc2 => ?_))
      | (show GJ _ _ _ _ _ _ _; first | (apply GJ.and; exact rfl; intro hg) | (apply GJ.or; exact rfl; intro hg))
      | refine SeqOk.pass ?_
      | refine Br.cases (fun h => ?_) (fun h => ?_)
      | (show GJ _ _ _ _ _ _ _; first | refine GJ.casesT (fun h => ?_) (fun h => ?_) | refine GJ.casesF (fun h => ?_) (fun h => ?_))
      | refine Bs.all ?_
      | (show OpOk _ _ _ _ _ _ _; refine OpOk.neqStruct rfl rfl rfl rfl (by kernel_rfl) (by kernel_rfl) (by kernel_rfl) ?_)
      | (show CallOk _ _ _ _ _ _; first | skip))
    all_goals refine Wk.id ⟨_, ⟨rfl, ?_⟩, Sub.auto, Sup.auto⟩
    all_goals grind
  rintro n ro' _ ⟨rfl, hn⟩
  repeat' (first
    | (show _ ∧ _; exact ⟨rfl, rfl, rfl⟩)
    | refine wkT ?_
    | (show OpOk _ _ _ _ _ _ _; first | refine opB (fun b => ?_) | refine opA (fun a' c' hc1 hc2 => ?_))
    | (show GJ _ _ _ _ _ _ _; first | (apply GJ.and; exact rfl; intro hg) | (apply GJ.or; exact rfl; intro hg))
    | refine SeqOk.pass ?_
    | refine Br.cases (fun h => ?_) (fun h => ?_)
    | (show GJ _ _ _ _ _ _ _; first | refine GJ.casesT (fun h => ?_) (fun h => ?_) | refine GJ.casesF (fun h => ?_) (fun h => ?_))
    | refine Bs.all ?_
    | (show OpOk _ _ _ _ _ _ _; refine OpOk.neqStruct rfl rfl rfl rfl (by kernel_rfl) (by kernel_rfl) (by kernel_rfl) ?_)
    | (show CallOk _ _ _ _ _ _; first | skip))
  all_goals first
    | (refine Wk.outV Sup.auto hk (congrArg (Value.int .i64) ?_); clear hk; unfold kidsOk at *; unfold formD plainD; grind (splits := 50))
    | (have hm : mostD d = 18446744073709551615 := by { unfold mostD; rw [if_neg (by assumption)] }; refine Wk.outV Sup.auto hk (congrArg (Value.int .i64) ?_); clear hk; unfold kidsOk at *; unfold formD plainD; rw [hm]; grind (splits := 50))
    | (have hm := shift_most (d := d) (by assumption) (by omega); refine Wk.outV Sup.auto hk (congrArg (Value.int .i64) ?_); clear hk; simp only [hm] at *; unfold kidsOk at *; unfold formD plainD; grind (splits := 50))
end
end Go.Proofs.Ytpjiaafkcojddaa
