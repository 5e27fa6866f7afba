/- Contracts of the reference parser: piece cat. -/
import Derived.Test.YtniofdklhlbphaaDoorRfC
import Derived.Test.YtniofdklhlbphaaDoorRg8
namespace Go.Proofs.YtniofdklhlbphaaDoor
open Go Go.E
set_option linter.unusedVariables false
set_option linter.unusedSimpArgs false
set_option maxRecDepth 10000
/-- What is asked of the reading of brackets. -/
def RefP (d : Nat) : Prop := ∀ {l : List UInt8} {n : RgD}, DAlt d l n → l.length ≤ 850 → ∀ {ro : Ro} {own : Chs} {K : Value → Ro → Chs → Prop}, (∀ ro' v, Le ro ro' → RgOk ro' n v → K (.agg v.toArray) ro' own) → CallOk Tryd.prog 30 #[str l] ro own K
theorem DSet.tail {l : List UInt8} {z : SetD} (h : DSet l z) : ∃ b, l = b ++ [93] := by
  cases h with
  | @pos l z h h0 => exact ⟨l, rfl⟩
  | @neg l z h h0 => exact ⟨94 :: l, rfl⟩
theorem DByte.start {l : List UInt8} {c : Nat} (h : DByte l c) (h2 : l ≠ [46]) : ∃ x m, l = x :: m ∧ x.toNat ≠ 40 ∧ x.toNat ≠ 46 ∧ x.toNat ≠ 91 := by
  cases h with
  | @plain c h1 h3 =>
    obtain ⟨a, b, d, _⟩ := plain_sig c h1 h3
    refine ⟨c, [], rfl, u8_ne d, fun e => h2 ?_, u8_ne b⟩
    rw [u8_eq e (by decide)]; rfl
  | esc _ => exact ⟨_, _, rfl, by decide, by decide, by decide⟩
  | hex _ _ => exact ⟨_, _, rfl, by decide, by decide, by decide⟩
  | sign _ => exact ⟨_, _, rfl, by decide, by decide, by decide⟩
theorem texts_count {α : Type} : ∀ (rs : List (List UInt8 × α)), (∀ r ∈ rs, r.1 ≠ []) → rs.length ≤ (textsOf rs).length
  | [], _ => Nat.zero_le _
  | r :: rs, h => by
    rw [texts_cons, List.length_append, List.length_cons]
    have h1 := texts_count rs (fun q hq => h q (by simp [hq]))
    have h2 := List.length_pos_iff.2 (h r (by simp))
    omega
theorem DRep.pos {m : List UInt8} {a b : Int} (h : DRep m a b) : 0 < m.length := by
  cases h <;> simp
section
variable {ro : Ro} {own r : Chs} {K : Value → Ro → Chs → Prop} {g : Chunk → Chs}
theorem mid_cut {T m : List UInt8} {x y : UInt8} (hT : T = x :: (m ++ [y])) : List.take (((T.length : Int) - 1).toNat - Int.toNat 1) (List.drop (Int.toNat 1) T) = m := by
  have hTl : T.length = m.length + 2 := by rw [hT]; simp
  rw [show ((T.length : Int) - 1).toNat - Int.toNat 1 = m.length by rw [show Int.toNat 1 = 1 from rfl]; omega, hT, show Int.toNat 1 = 1 from rfl, List.drop_succ_cons, List.drop_zero, List.take_left]
set_option maxHeartbeats 8000000 in
theorem piece_ok {d : Nat} (hP : RefP d) {l : List UInt8} {n : RgD} (h : DAtom (DAlt d) l n) (hl : l.length ≤ 850) (hk : ∀ ro' v, Le ro ro' → RgOk ro' n v → K (.agg v.toArray) ro' own) :
    CallOk Tryd.prog 81 #[str l] ro own K := by
  cases h with
  | @paren m n h =>
    obtain ⟨tx, hT⟩ : ∃ tx, tx = 40 :: (m ++ [41]) := ⟨_, rfl⟩
    have hTl : tx.length = m.length + 2 := by rw [hT]; simp
    have g0 : tx[Int.toNat 0]! = 40 := by rw [hT]; rfl
    rw [← hT] at hl ⊢
    refine CallOk.intro (args := [_]) (rs := [_]) T_ok Tryd.func81 Tryd.call81 rfl rfl (by kernel_rfl) rfl rfl ?_
    repeat (first
      | (show _ ∧ _; exact ⟨rfl, rfl, rfl⟩)
      | refine wkP ?_
      | (show OpOk _ _ _ _ _ _ _; first | refine opB (fun b => ?_) | refine opA (fun a' c' hc1 hc2 => ?_))
      | (show GJ _ _ _ _ _ _ _; first | (apply GJ.and; exact rfl; intro hg) | (apply GJ.or; exact rfl; intro hg)))
    rw [g0]
    repeat (first
      | (show _ ∧ _; exact ⟨rfl, rfl, rfl⟩)
      | refine wkP ?_
      | (show OpOk _ _ _ _ _ _ _; first | refine opB (fun b => ?_) | refine opA (fun a' c' hc1 hc2 => ?_))
      | (show GJ _ _ _ _ _ _ _; first | (apply GJ.and; exact rfl; intro hg) | (apply GJ.or; exact rfl; intro hg)))
    rw [mid_cut hT]
    refine hP h (by omega) (fun ro1 v hl1 hv => ?_)
    obtain ⟨a1, c1, hvc⟩ := hv.cells
    subst hvc
    repeat (first
      | (show _ ∧ _; exact ⟨rfl, rfl, rfl⟩)
      | refine wkP ?_
      | (show OpOk _ _ _ _ _ _ _; first | refine opB (fun b => ?_) | refine opA (fun a' c' hc1 hc2 => ?_))
      | (show GJ _ _ _ _ _ _ _; first | (apply GJ.and; exact rfl; intro hg) | (apply GJ.or; exact rfl; intro hg)))
    exact Wk.outS Sup.auto (.refl _) (hk ro1 _ hl1 hv)
  | any =>
    refine CallOk.intro (args := [_]) (rs := [_]) T_ok Tryd.func81 Tryd.call81 rfl rfl (by kernel_rfl) rfl rfl ?_
    repeat (first
      | (show _ ∧ _; exact ⟨rfl, rfl, rfl⟩)
      | refine wkP ?_
      | (show OpOk _ _ _ _ _ _ _; first | refine opB (fun b => ?_) | refine opA (fun a' c' hc1 hc2 => ?_))
      | (show GJ _ _ _ _ _ _ _; first | (apply GJ.and; exact rfl; intro hg) | (apply GJ.or; exact rfl; intro hg)))
    refine ⟨⟨by omega, by simp only [List.length_append, List.length_cons, List.length_nil]; omega⟩, ?_⟩
    simp only [get0, get1, get2, get3]
    repeat (first
      | (show _ ∧ _; exact ⟨rfl, rfl, rfl⟩)
      | refine wkP ?_
      | (show OpOk _ _ _ _ _ _ _; first | refine opB (fun b => ?_) | refine opA (fun a' c' hc1 hc2 => ?_))
      | (show GJ _ _ _ _ _ _ _; first | (apply GJ.and; exact rfl; intro hg) | (apply GJ.or; exact rfl; intro hg)))
    refine rall_ok ?_
    repeat (first
      | (show _ ∧ _; exact ⟨rfl, rfl, rfl⟩)
      | refine wkP ?_
      | (show OpOk _ _ _ _ _ _ _; first | refine opB (fun b => ?_) | refine opA (fun a' c' hc1 hc2 => ?_))
      | (show GJ _ _ _ _ _ _ _; first | (apply GJ.and; exact rfl; intro hg) | (apply GJ.or; exact rfl; intro hg)))
    exact Wk.outS Sup.auto (.refl _) (hk ro _ (.refl _) (RgOk.leaf SetIn.all))
  | @set m z h =>
    obtain ⟨w, rfl⟩ := h.tail
    have hin : SetIn z := by
      obtain ⟨ps, hps, hb⟩ := h.form
      rcases hb with ⟨_, _, rfl⟩ | ⟨_, rfl⟩
      · exact pairs_in zeroS_in ps
      · exact SetIn.not _
    obtain ⟨tx, hT⟩ : ∃ tx, tx = 91 :: (w ++ [93]) := ⟨_, rfl⟩
    have hTl : tx.length = w.length + 2 := by rw [hT]; simp
    have g0 : tx[Int.toNat 0]! = 91 := by rw [hT]; rfl
    rw [← hT] at hl ⊢
    refine CallOk.intro (args := [_]) (rs := [_]) T_ok Tryd.func81 Tryd.call81 rfl rfl (by kernel_rfl) rfl rfl ?_
    repeat (first
      | (show _ ∧ _; exact ⟨rfl, rfl, rfl⟩)
      | refine wkP ?_
      | (show OpOk _ _ _ _ _ _ _; first | refine opB (fun b => ?_) | refine opA (fun a' c' hc1 hc2 => ?_))
      | (show GJ _ _ _ _ _ _ _; first | (apply GJ.and; exact rfl; intro hg) | (apply GJ.or; exact rfl; intro hg)))
    rw [g0]
    repeat (first
      | (show _ ∧ _; exact ⟨rfl, rfl, rfl⟩)
      | refine wkP ?_
      | (show OpOk _ _ _ _ _ _ _; first | refine opB (fun b => ?_) | refine opA (fun a' c' hc1 hc2 => ?_))
      | (show GJ _ _ _ _ _ _ _; first | (apply GJ.and; exact rfl; intro hg) | (apply GJ.or; exact rfl; intro hg)))
    rw [mid_cut hT]
    refine rset_ok h (by omega) ?_
    repeat (first
      | (show _ ∧ _; exact ⟨rfl, rfl, rfl⟩)
      | refine wkP ?_
      | (show OpOk _ _ _ _ _ _ _; first | refine opB (fun b => ?_) | refine opA (fun a' c' hc1 hc2 => ?_))
      | (show GJ _ _ _ _ _ _ _; first | (apply GJ.and; exact rfl; intro hg) | (apply GJ.or; exact rfl; intro hg)))
    exact Wk.outS Sup.auto (.refl _) (hk ro _ (.refl _) (RgOk.leaf hin))
  | @byte m c h h2 =>
    have hc := h.lt
    have hoi := of_in hc
    obtain ⟨x, m2, rfl, x1, x2, x3⟩ := h.start h2
    rw [List.length_cons] at hl
    refine CallOk.intro (args := [_]) (rs := [_]) T_ok Tryd.func81 Tryd.call81 rfl rfl (by kernel_rfl) rfl rfl ?_
    repeat (first
      | (show _ ∧ _; exact ⟨rfl, rfl, rfl⟩)
      | refine wkP ?_
      | (show OpOk _ _ _ _ _ _ _; first | refine opB (fun b => ?_) | refine opA (fun a' c' hc1 hc2 => ?_))
      | (show GJ _ _ _ _ _ _ _; first | (apply GJ.and; exact rfl; intro hg) | (apply GJ.or; exact rfl; intro hg)))
    refine ⟨⟨by omega, by simp only [List.length_append, List.length_cons, List.length_nil]; omega⟩, ?_⟩
    simp only [get0, get1, get2, get3]
    repeat (first
      | (show _ ∧ _; exact ⟨rfl, rfl, rfl⟩)
      | refine wkP ?_
      | (show OpOk _ _ _ _ _ _ _; first | refine opB (fun b => ?_) | refine opA (fun a' c' hc1 hc2 => ?_))
      | (show GJ _ _ _ _ _ _ _; first | (apply GJ.and; exact rfl; intro hg) | (apply GJ.or; exact rfl; intro hg)))
    refine OpOk.buildK (ps := []) (setV zeroS) rfl (by kernel_rfl) ?_
    repeat (first
      | (show _ ∧ _; exact ⟨rfl, rfl, rfl⟩)
      | refine wkP ?_
      | (show OpOk _ _ _ _ _ _ _; first | refine opB (fun b => ?_) | refine opA (fun a' c' hc1 hc2 => ?_))
      | (show GJ _ _ _ _ _ _ _; first | (apply GJ.and; exact rfl; intro hg) | (apply GJ.or; exact rfl; intro hg)))
    refine rname_ok h ?_
    repeat (first
      | (show _ ∧ _; exact ⟨rfl, rfl, rfl⟩)
      | refine wkP ?_
      | (show OpOk _ _ _ _ _ _ _; first | refine opB (fun b => ?_) | refine opA (fun a' c' hc1 hc2 => ?_))
      | (show GJ _ _ _ _ _ _ _; first | (apply GJ.and; exact rfl; intro hg) | (apply GJ.or; exact rfl; intro hg)))
    refine rput_ok zeroS_in hc ?_
    rw [show zeroS.add c = ofD c from rfl]
    generalize ofD c = z at hk hoi ⊢
    repeat (first
      | (show _ ∧ _; exact ⟨rfl, rfl, rfl⟩)
      | refine wkP ?_
      | (show OpOk _ _ _ _ _ _ _; first | refine opB (fun b => ?_) | refine opA (fun a' c' hc1 hc2 => ?_))
      | (show GJ _ _ _ _ _ _ _; first | (apply GJ.and; exact rfl; intro hg) | (apply GJ.or; exact rfl; intro hg)))
    exact Wk.outS Sup.auto (.refl _) (hk ro _ (.refl _) (RgOk.leaf hoi))
end
end Go.Proofs.YtniofdklhlbphaaDoor
