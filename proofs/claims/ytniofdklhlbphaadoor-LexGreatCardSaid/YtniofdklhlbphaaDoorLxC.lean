/- Contracts of lex: pattern; strings.HasPrefix. -/
import Derived.Test.YtniofdklhlbphaaDoorLxB
namespace Go.Proofs.YtniofdklhlbphaaDoor
open Go Go.E
set_option linter.unusedVariables false
set_option linter.unusedSimpArgs false
set_option maxRecDepth 10000
def tokV (k a : Nat) (x : List UInt8) : List Value := [.int .i64 (k : Int), .int .i64 (a : Int), str x]
/-- What is between two slashes, behind the first one: the text; where it is wrong: none. -/
def patD (l : List UInt8) : Option (List UInt8) := match (l.drop (l.takeWhile patB).length) with
  | [] => none
  | x :: _ => if x.toNat = 47 then some (l.takeWhile patB) else none
section
variable {ro : Ro} {own r : Chs} {K : Value → Ro → Chs → Prop} {g : Chunk → Chs}
theorem pattern_ok {p a : Nat} {tx : List UInt8} {o : Value} (hat : a < tx.length) (hl : tx.length ≤ 100000)
    (hk1 : ∀ w, patD (tx.drop (a + 1)) = some w → a + w.length + 2 ≤ tx.length → K (.tuple #[.agg (tokV 3 0 w).toArray, .int .i64 0]) ro (.blk p 77 [str tx, .int .i64 ((a + w.length + 2 : Nat) : Int), o] :: r))
    (hk2 : patD (tx.drop (a + 1)) = none → ∀ a' : Nat, a' ≤ tx.length → K (.tuple #[.agg (tokV 0 0 []).toArray, .int .i64 5]) ro (.blk p 77 [str tx, .int .i64 (a' : Int), o] :: r)) :
    CallOk Tryd.prog 63 #[ptr' p] ro (.blk p 77 [str tx, .int .i64 (a : Int), o] :: r) K := by
  have hwl := takeWhile_le patB (tx.drop (a + 1))
  rw [List.length_drop] at hwl
  refine CallOk.intro (args := [_]) (rs := [_, _]) T_ok Tryd.func63 Tryd.call63 rfl rfl (by kernel_rfl) rfl rfl ?_
  repeat (first
    | (show _ ∧ _; exact ⟨rfl, rfl, rfl⟩)
    | refine wkT ?_
    | (show OpOk _ _ _ _ _ _ _; first | refine opB (fun b => ?_) | refine opA (fun a' c' hc1 hc2 => ?_))
    | (show GJ _ _ _ _ _ _ _; first | (apply GJ.and; exact rfl; intro hg) | (apply GJ.or; exact rfl; intro hg)))
  refine CallOk.sup (own0 := .blk p 77 [str tx, .int .i64 ((a + 1 : Nat) : Int), o] :: .blk b 72 [.int .i64 0, .int .i64 0, str []] :: r) Sup.auto ?_
  refine while_ok pat_ok (by omega) hl ?_
  have hpd : patD (tx.drop (a + 1)) = (match tx.drop (a + 1 + ((tx.drop (a + 1)).takeWhile patB).length) with
    | [] => none
    | x :: _ => if x.toNat = 47 then some ((tx.drop (a + 1)).takeWhile patB) else none) := by unfold patD; rw [List.drop_drop]
  generalize (tx.drop (a + 1)).takeWhile patB = w at *
  by_cases hb : a + 1 + w.length < tx.length
  · obtain ⟨u, hu⟩ : ∃ u, tx[a + 1 + w.length]? = some u := ⟨_, List.getElem?_eq_getElem hb⟩
    have hu2 : tx[((a + 1 + w.length : Nat) : Int).toNat]! = u := by
      rw [Int.toNat_natCast, List.getElem!_eq_getElem?_getD, hu]; rfl
    have hd : tx.drop (a + 1 + w.length) = u :: tx.drop (a + 1 + w.length + 1) := by
      rw [List.drop_eq_getElem_cons hb]
      congr 1
      rw [List.getElem?_eq_getElem hb] at hu
      exact Option.some.inj hu
    rw [hd] at hpd
    simp only at hpd
    repeat (first
      | (show _ ∧ _; exact ⟨rfl, rfl, rfl⟩)
      | refine wkT ?_
      | refine Bs.all ?_
      | (show RetOk _ _ _ _ _ _; refine RetOk.of (T := T) (RL.row rfl rfl LdN.hasBlk (by rfl) (RL.tmp rfl (RL.tmp rfl RL.nil))) ?_)
      | (show QOk _ _ _ _ _ _ _; refine QOk.build rfl rfl Nf.auto ?_)
      | (show OpOk _ _ _ _ _ _ _; first | refine opB (fun b => ?_) | refine opA (fun a' c' hc1 hc2 => ?_))
      | (show GJ _ _ _ _ _ _ _; first | refine GJ.t (by decide) ?_ | refine GJ.f (by decide) ?_ | refine GJ.ft (by decide) ?_ | refine GJ.ff (by decide) ?_)
      | (show Br _ _ _; first | refine Br.t (by decide) ?_ | refine Br.f (by decide) ?_)
      | (show GJ _ _ _ _ _ _ _; first | (apply GJ.and; exact rfl; intro hg) | (apply GJ.or; exact rfl; intro hg)))
    try rw [hu2]
    by_cases h47 : u.toNat = 47
    · rw [if_pos h47] at hpd
      have hk := hk1 w hpd (by omega)
      rw [show a + w.length + 2 = a + 1 + w.length + 1 by omega] at hk
      repeat (first
        | (show _ ∧ _; exact ⟨rfl, rfl, rfl⟩)
        | refine wkT ?_
        | refine Bs.all ?_
        | (show RetOk _ _ _ _ _ _; refine RetOk.of (T := T) (RL.row rfl rfl LdN.hasBlk (by rfl) (RL.tmp rfl (RL.tmp rfl RL.nil))) ?_)
        | (show QOk _ _ _ _ _ _ _; refine QOk.build rfl rfl Nf.auto ?_)
        | (show OpOk _ _ _ _ _ _ _; first | refine opB (fun b => ?_) | refine opA (fun a' c' hc1 hc2 => ?_))
        | (show GJ _ _ _ _ _ _ _; first | refine GJ.t (by decide) ?_ | refine GJ.f (by decide) ?_ | refine GJ.ft (by decide) ?_ | refine GJ.ff (by decide) ?_)
        | (show Br _ _ _; first | refine Br.t (by decide) ?_ | refine Br.f (by decide) ?_)
        | (show GJ _ _ _ _ _ _ _; first | (apply GJ.and; exact rfl; intro hg) | (apply GJ.or; exact rfl; intro hg)))
      exact Wk.outS Sup.auto (.refl _) hk
    · rw [if_neg h47] at hpd
      have hk := hk2 hpd _ (Nat.le_of_lt hb)
      repeat (first
        | (show _ ∧ _; exact ⟨rfl, rfl, rfl⟩)
        | refine wkT ?_
        | refine Bs.all ?_
        | (show RetOk _ _ _ _ _ _; refine RetOk.of (T := T) (RL.row rfl rfl LdN.hasBlk (by rfl) (RL.tmp rfl (RL.tmp rfl RL.nil))) ?_)
        | (show QOk _ _ _ _ _ _ _; refine QOk.build rfl rfl Nf.auto ?_)
        | (show OpOk _ _ _ _ _ _ _; first | refine opB (fun b => ?_) | refine opA (fun a' c' hc1 hc2 => ?_))
        | (show GJ _ _ _ _ _ _ _; first | refine GJ.t (by decide) ?_ | refine GJ.f (by decide) ?_ | refine GJ.ft (by decide) ?_ | refine GJ.ff (by decide) ?_)
        | (show Br _ _ _; first | refine Br.t (by decide) ?_ | refine Br.f (by decide) ?_)
        | (show GJ _ _ _ _ _ _ _; first | (apply GJ.and; exact rfl; intro hg) | (apply GJ.or; exact rfl; intro hg)))
      exact Wk.outS Sup.auto (.refl _) hk
  · have h0 : tx.drop (a + 1 + w.length) = [] := List.drop_eq_nil_of_le (by omega)
    rw [h0] at hpd
    have hk := hk2 hpd (a + 1 + w.length) (by omega)
    repeat (first
      | (show _ ∧ _; exact ⟨rfl, rfl, rfl⟩)
      | refine wkT ?_
      | refine Bs.all ?_
      | (show RetOk _ _ _ _ _ _; refine RetOk.of (T := T) (RL.row rfl rfl LdN.hasBlk (by rfl) (RL.tmp rfl (RL.tmp rfl RL.nil))) ?_)
      | (show QOk _ _ _ _ _ _ _; refine QOk.build rfl rfl Nf.auto ?_)
      | (show OpOk _ _ _ _ _ _ _; first | refine opB (fun b => ?_) | refine opA (fun a' c' hc1 hc2 => ?_))
      | (show GJ _ _ _ _ _ _ _; first | refine GJ.t (by decide) ?_ | refine GJ.f (by decide) ?_ | refine GJ.ft (by decide) ?_ | refine GJ.ff (by decide) ?_)
      | (show Br _ _ _; first | refine Br.t (by decide) ?_ | refine Br.f (by decide) ?_)
      | (show GJ _ _ _ _ _ _ _; first | (apply GJ.and; exact rfl; intro hg) | (apply GJ.or; exact rfl; intro hg)))
    exact Wk.outS Sup.auto (.refl _) hk
theorem sprefix_ok {x y : List UInt8} (hx : x.length ≤ 1000000) (hy : y.length ≤ 1000000) (hk : K (.bool (y.isPrefixOf x)) ro own) : CallOk Tryd.prog 67 #[str x, str y] ro own K := by
  have hp : y.isPrefixOf x = decide (x.take y.length = y) := by
    rw [Bool.eq_iff_iff, List.isPrefixOf_iff_prefix, decide_eq_true_iff, List.prefix_iff_eq_take]
    exact eq_comm
  rw [hp] at hk
  refine CallOk.intro (args := [_, _]) (rs := [_]) T_ok Tryd.func67 Tryd.call67 rfl rfl (by kernel_rfl) rfl rfl ?_
  by_cases hl : y.length ≤ x.length
  · repeat (first
      | (show _ ∧ _; exact ⟨rfl, rfl, rfl⟩)
      | refine wkT ?_
      | (show OpOk _ _ _ _ _ _ _; first | refine opB (fun b => ?_) | refine opA (fun a' c' hc1 hc2 => ?_))
      | (show GJ _ _ _ _ _ _ _; first | (apply GJ.and; exact rfl; intro hg) | (apply GJ.or; exact rfl; intro hg)))
    exact Wk.outV Sup.auto hk (congrArg Value.bool (by rw [Int.toNat_natCast]))
  · have : decide (x.take y.length = y) = false := by
      rw [decide_eq_false_iff_not]
      intro e
      have := congrArg List.length e
      rw [List.length_take] at this
      omega
    rw [this] at hk
    repeat (first
      | (show _ ∧ _; exact ⟨rfl, rfl, rfl⟩)
      | refine wkT ?_
      | (show OpOk _ _ _ _ _ _ _; first | refine opB (fun b => ?_) | refine opA (fun a' c' hc1 hc2 => ?_))
      | (show GJ _ _ _ _ _ _ _; first | (apply GJ.and; exact rfl; intro hg) | (apply GJ.or; exact rfl; intro hg)))
    exact Wk.outV Sup.auto hk rfl
theorem prefix_ok {x y : List UInt8} (hx : x.length ≤ 1000000) (hy : y.length ≤ 1000000) (hk : K (.bool (y.isPrefixOf x)) ro own) : CallOk Tryd.prog 40 #[str x, str y] ro own K := by
  refine CallOk.intro (args := [_, _]) (rs := [_]) T_ok Tryd.func40 Tryd.call40 rfl rfl (by kernel_rfl) rfl rfl ?_
  repeat (first
    | (show _ ∧ _; exact ⟨rfl, rfl, rfl⟩)
    | refine wkT ?_
    | (show OpOk _ _ _ _ _ _ _; first | refine opB (fun b => ?_) | refine opA (fun a' c' hc1 hc2 => ?_))
    | (show GJ _ _ _ _ _ _ _; first | (apply GJ.and; exact rfl; intro hg) | (apply GJ.or; exact rfl; intro hg)))
  refine sprefix_ok hx hy ?_
  repeat (first
    | (show _ ∧ _; exact ⟨rfl, rfl, rfl⟩)
    | refine wkT ?_
    | (show OpOk _ _ _ _ _ _ _; first | refine opB (fun b => ?_) | refine opA (fun a' c' hc1 hc2 => ?_))
    | (show GJ _ _ _ _ _ _ _; first | (apply GJ.and; exact rfl; intro hg) | (apply GJ.or; exact rfl; intro hg)))
  exact Wk.outS Sup.auto (.refl _) hk
end
end Go.Proofs.YtniofdklhlbphaaDoor
