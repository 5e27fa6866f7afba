/- Letters, digits; contracts of lex: letter, digit, while. -/
import Derived.Test.YtniofdklhlbphaaDoorT
import Derived.Test.YtniofdklhlbphaaDoorEn2
namespace Go.E
open Go
set_option linter.unusedVariables false
section
variable {P : Program} {T : TT} [hT : TTab P T]
theorem CodeOk.scope {a : Code} {k : Exit → Kt} {env : Env} {ro : Ro} {own : Chs} (hv : V P T a (fun e => match e with
    | .goto _ => fun _ _ _ => False
    | e => k e) env ro own) : CodeOk P (.scope a) k env ro own :=
  ⟨fun n σ Q hok hk h hs a' w hf hw => wp_scope_straight ((V_sound hT.ok hv).run n σ (Exit.noGoto Q) (by simpa [okS] using hok) (fun e env' ro' own' D h' hl hk' hs' hm => by
    cases e <;> first | exact hk'.elim | exact fun a2 w2 hf2 hw2 => hk _ env' ro' own' D h' hl hk' hs' hm a2 w2 hf2 hw2) h hs a' w hf hw)⟩
end
end Go.E
namespace Go.Proofs.YtniofdklhlbphaaDoor
open Go Go.E
set_option linter.unusedVariables false
set_option linter.unusedSimpArgs false
set_option maxRecDepth 10000
def letB (u : UInt8) : Bool := (decide (97 ≤ u.toNat) && decide (u.toNat ≤ 122)) || (decide (65 ≤ u.toNat) && decide (u.toNat ≤ 90)) || decide (u.toNat = 95)
def digB (u : UInt8) : Bool := decide (48 ≤ u.toNat) && decide (u.toNat ≤ 57)
def nlB (u : UInt8) : Bool := decide (u.toNat ≠ 10)
def wordB (u : UInt8) : Bool := letB u || digB u
def patB (u : UInt8) : Bool := decide (u.toNat ≠ 47) && (decide (32 ≤ u.toNat) && decide (u.toNat < 127))
/-- What a function of one byte answers. -/
def ByteFn (f : FuncId) (S : UInt8 → Bool) : Prop := ∀ (u : UInt8) (ro : Ro) (own : Chs) (K : Value → Ro → Chs → Prop), K (.bool (S u)) ro own → CallOk Tryd.prog f #[.int .u8 ((u.toNat : Nat) : Int)] ro own K
theorem letter_ok : ByteFn 60 letB := fun u ro own K hk => by
  have hu := u.toNat_lt
  have hl : letB u = ((decide (97 ≤ u.toNat) && decide (u.toNat ≤ 122)) || (decide (65 ≤ u.toNat) && decide (u.toNat ≤ 90)) || decide (u.toNat = 95)) := rfl
  generalize letB u = q at hl hk
  refine CallOk.intro (args := [_]) (rs := [_]) T_ok Tryd.func60 Tryd.call60 rfl rfl (by kernel_rfl) rfl rfl ?_
  by_cases h1 : 97 ≤ u.toNat <;> by_cases h2 : u.toNat ≤ 122 <;> by_cases h3 : 65 ≤ u.toNat <;> by_cases h4 : u.toNat ≤ 90
  all_goals
    try omega
  all_goals
    repeat (first
      | (show _ ∧ _; exact ⟨rfl, rfl, rfl⟩)
      | refine wkT ?_
      | (show OpOk _ _ _ _ _ _ _; first | refine opB (fun b => ?_) | refine opA (fun a' c' hc1 hc2 => ?_))
      | (show GJ _ _ _ _ _ _ _; first | (apply GJ.and; exact rfl; intro hg) | (apply GJ.or; exact rfl; intro hg)))
    refine Wk.outV Sup.auto hk (congrArg Value.bool ?_)
    rw [hl]
    simp [h1, h2, h3, h4]
    try omega
theorem digit_ok : ByteFn 62 digB := fun u ro own K hk => by
  have hu := u.toNat_lt
  have hl : digB u = (decide (48 ≤ u.toNat) && decide (u.toNat ≤ 57)) := rfl
  generalize digB u = q at hl hk
  refine CallOk.intro (args := [_]) (rs := [_]) T_ok Tryd.func62 Tryd.call62 rfl rfl (by kernel_rfl) rfl rfl ?_
  by_cases h1 : 48 ≤ u.toNat <;> by_cases h2 : u.toNat ≤ 57
  all_goals
    try omega
  all_goals
    repeat (first
      | (show _ ∧ _; exact ⟨rfl, rfl, rfl⟩)
      | refine wkT ?_
      | (show OpOk _ _ _ _ _ _ _; first | refine opB (fun b => ?_) | refine opA (fun a' c' hc1 hc2 => ?_))
      | (show GJ _ _ _ _ _ _ _; first | (apply GJ.and; exact rfl; intro hg) | (apply GJ.or; exact rfl; intro hg)))
    refine Wk.outV Sup.auto hk (congrArg Value.bool ?_)
    rw [hl]
    simp [h1, h2]
    try omega
theorem nl_ok : ByteFn 59 nlB := fun u ro own K hk => by
  have hu := u.toNat_lt
  refine CallOk.intro (args := [_]) (rs := [_]) T_ok Tryd.func59 Tryd.call59 rfl rfl (by kernel_rfl) rfl rfl ?_
  repeat (first
    | (show _ ∧ _; exact ⟨rfl, rfl, rfl⟩)
    | refine wkT ?_
    | (show OpOk _ _ _ _ _ _ _; first | refine opB (fun b => ?_) | refine opA (fun a' c' hc1 hc2 => ?_))
    | (show GJ _ _ _ _ _ _ _; first | (apply GJ.and; exact rfl; intro hg) | (apply GJ.or; exact rfl; intro hg)))
  refine Wk.outV Sup.auto hk (congrArg Value.bool ?_)
  unfold nlB
  rw [decide_eq_decide]
  omega
theorem word_ok : ByteFn 61 wordB := fun u ro own K hk => by
  have hu := u.toNat_lt
  have hw : wordB u = (letB u || digB u) := rfl
  generalize wordB u = q at hw hk
  refine CallOk.intro (args := [_]) (rs := [_]) T_ok Tryd.func61 Tryd.call61 rfl rfl (by kernel_rfl) rfl rfl ?_
  repeat (first
    | (show _ ∧ _; exact ⟨rfl, rfl, rfl⟩)
    | refine wkT ?_
    | (show OpOk _ _ _ _ _ _ _; first | refine opB (fun b => ?_) | refine opA (fun a' c' hc1 hc2 => ?_))
    | (show GJ _ _ _ _ _ _ _; first | (apply GJ.and; exact rfl; intro hg) | (apply GJ.or; exact rfl; intro hg)))
  refine letter_ok u _ _ _ ?_
  obtain ⟨x, hx⟩ : ∃ x, letB u = x := ⟨_, rfl⟩
  rw [hx] at hw ⊢
  cases x with
  | true =>
    repeat (first
      | (show _ ∧ _; exact ⟨rfl, rfl, rfl⟩)
      | refine wkT ?_
      | (show OpOk _ _ _ _ _ _ _; first | refine opB (fun b => ?_) | refine opA (fun a' c' hc1 hc2 => ?_))
      | (show GJ _ _ _ _ _ _ _; first | (apply GJ.and; exact rfl; intro hg) | (apply GJ.or; exact rfl; intro hg)))
    exact Wk.outV Sup.auto hk (by rw [hw]; rfl)
  | false =>
    repeat (first
      | (show _ ∧ _; exact ⟨rfl, rfl, rfl⟩)
      | refine wkT ?_
      | (show OpOk _ _ _ _ _ _ _; first | refine opB (fun b => ?_) | refine opA (fun a' c' hc1 hc2 => ?_))
      | (show GJ _ _ _ _ _ _ _; first | (apply GJ.and; exact rfl; intro hg) | (apply GJ.or; exact rfl; intro hg)))
    refine digit_ok u _ _ _ ?_
    repeat (first
      | (show _ ∧ _; exact ⟨rfl, rfl, rfl⟩)
      | refine wkT ?_
      | (show OpOk _ _ _ _ _ _ _; first | refine opB (fun b => ?_) | refine opA (fun a' c' hc1 hc2 => ?_))
      | (show GJ _ _ _ _ _ _ _; first | (apply GJ.and; exact rfl; intro hg) | (apply GJ.or; exact rfl; intro hg)))
    exact Wk.outV Sup.auto hk (by rw [hw]; rfl)
theorem pat_ok : ByteFn 87 patB := fun u ro own K hk => by
  have hu := u.toNat_lt
  have hl : patB u = (decide (u.toNat ≠ 47) && (decide (32 ≤ u.toNat) && decide (u.toNat < 127))) := rfl
  generalize patB u = q at hl hk
  refine CallOk.intro (args := [_]) (rs := [_]) T_ok Tryd.func87 Tryd.call87 rfl rfl (by kernel_rfl) rfl rfl ?_
  by_cases h1 : u.toNat = 47 <;> by_cases h2 : 32 ≤ u.toNat <;> by_cases h3 : u.toNat < 127
  all_goals
    try omega
  all_goals
    repeat (first
      | (show _ ∧ _; exact ⟨rfl, rfl, rfl⟩)
      | refine wkT ?_
      | (show OpOk _ _ _ _ _ _ _; first | refine opB (fun b => ?_) | refine opA (fun a' c' hc1 hc2 => ?_))
      | (show GJ _ _ _ _ _ _ _; first | (apply GJ.and; exact rfl; intro hg) | (apply GJ.or; exact rfl; intro hg)))
    refine Wk.outV Sup.auto hk (congrArg Value.bool ?_)
    rw [hl]
    simp [h1, h2, h3]
    try omega
theorem takeWhile_at {α : Type} {S : α → Bool} : ∀ {l : List α} {i : Nat} {u : α}, l[i]? = some u → (i < (l.takeWhile S).length → S u = true) ∧ (i = (l.takeWhile S).length → S u = false)
  | [], i, u, h => by simp at h
  | x :: l, 0, u, h => by
    simp at h; subst h
    rw [List.takeWhile_cons]
    cases hx : S x <;> simp [hx]
  | x :: l, i + 1, u, h => by
    have ih := takeWhile_at (S := S) (l := l) (i := i) (u := u) (by simpa using h)
    rw [List.takeWhile_cons]
    cases hx : S x with
    | false => simp
    | true => simp; exact ih
theorem takeWhile_le {α : Type} (S : α → Bool) (l : List α) : (l.takeWhile S).length ≤ l.length := (List.takeWhile_sublist S).length_le
theorem takeWhile_take {α : Type} (S : α → Bool) (l : List α) : l.takeWhile S = l.take (l.takeWhile S).length := List.prefix_iff_eq_take.1 (List.takeWhile_prefix S)
theorem cutW {S : UInt8 → Bool} {tx : List UInt8} {a i : Nat} (h : ((tx.drop a).takeWhile S).length = i) : (tx.drop a).takeWhile S = List.take (((a + i : Nat) : Int).toNat - (a : Int).toNat) (List.drop (a : Int).toNat tx) := by
  rw [Int.toNat_natCast, Int.toNat_natCast, show a + i - a = i by omega, ← h]
  exact takeWhile_take S _
section
variable {ro : Ro} {own r : Chs} {K : Value → Ro → Chs → Prop} {g : Chunk → Chs}
theorem while_ok {fid : FuncId} {S : UInt8 → Bool} {b a : Nat} {tx : List UInt8} {o : Value} (hS : ByteFn fid S) (hat : a ≤ tx.length) (hl : tx.length ≤ 100000)
    (hk : K (str ((tx.drop a).takeWhile S)) ro (.blk b 77 [str tx, .int .i64 ((a + ((tx.drop a).takeWhile S).length : Nat) : Int), o] :: r)) : CallOk Tryd.prog 58 #[ptr' b, .func (.func fid) #[] #[]] ro (.blk b 77 [str tx, .int .i64 (a : Int), o] :: r) K := by
  obtain ⟨m, hm⟩ : ∃ m, ((tx.drop a).takeWhile S).length = m := ⟨_, rfl⟩
  have hml : m ≤ tx.length - a := by rw [← hm]; exact Nat.le_trans (takeWhile_le _ _) (by simp)
  rw [hm] at hk
  refine CallOk.intro (args := [_, _]) (rs := [_]) T_ok Tryd.func58 Tryd.call58 rfl rfl (by kernel_rfl) rfl rfl ?_
  repeat (first
    | (show _ ∧ _; exact ⟨rfl, rfl, rfl⟩)
    | refine wkT ?_
    | (show OpOk _ _ _ _ _ _ _; first | refine opB (fun b => ?_) | refine opA (fun a' c' hc1 hc2 => ?_))
    | (show GJ _ _ _ _ _ _ _; first | (apply GJ.and; exact rfl; intro hg) | (apply GJ.or; exact rfl; intro hg)))
  refine LoopOk.at (ι := Nat) Keep.auto (fun i => []) (fun i => .blk b 77 [str tx, .int .i64 ((a + i : Nat) : Int), o] :: r) (fun i => i ≤ m) (fun i => m - i) 0 ?_ Sub.auto Sup.auto ?_
  · exact Nat.zero_le _
  rintro i i1
  dsimp only [List.cons_append, List.nil_append] at i1 ⊢
  by_cases hb : a + i < tx.length
  · obtain ⟨u, hu⟩ : ∃ u, tx[a + i]? = some u := ⟨_, List.getElem?_eq_getElem hb⟩
    have hu2 : tx[((a + i : Nat) : Int).toNat]! = u := by
      rw [Int.toNat_natCast, List.getElem!_eq_getElem?_getD, hu]; rfl
    have hw := takeWhile_at (S := S) (l := tx.drop a) (i := i) (u := u) (by rw [List.getElem?_drop]; exact hu)
    rw [hm] at hw
    repeat (first
      | (show _ ∧ _; exact ⟨rfl, rfl, rfl⟩)
      | refine wkT ?_
      | refine Bs.all ?_
      | (show RetOk _ _ _ _ _ _; refine RetOk.of (T := T) (RL.row rfl rfl LdN.hasBlk (by rfl) (RL.tmp rfl (RL.tmp rfl RL.nil))) ?_)
      | (show QOk _ _ _ _ _ _ _; refine QOk.build rfl rfl Nf.auto ?_)
      | (show OpOk _ _ _ _ _ _ _; first | refine opB (fun b => ?_) | refine opA (fun a' c' hc1 hc2 => ?_))
      | (show GJ _ _ _ _ _ _ _; first | refine GJ.t (by decide) ?_ | refine GJ.f (by decide) ?_ | refine GJ.ft (by decide) ?_ | refine GJ.ff (by decide) ?_)
      | (show Br _ _ _; first | refine Br.t (by decide) ?_ | refine Br.f (by decide) ?_)
      | (show GJ _ _ _ _ _ _ _; first | (apply GJ.and; exact rfl; intro hg) | (apply GJ.or; exact rfl; intro hg)))
    try rw [hu2]
    refine hS u _ _ _ ?_
    cases hs : S u with
    | true =>
      repeat (first
        | (show _ ∧ _; exact ⟨rfl, rfl, rfl⟩)
        | refine wkT ?_
        | refine Bs.all ?_
        | (show RetOk _ _ _ _ _ _; refine RetOk.of (T := T) (RL.row rfl rfl LdN.hasBlk (by rfl) (RL.tmp rfl (RL.tmp rfl RL.nil))) ?_)
        | (show QOk _ _ _ _ _ _ _; refine QOk.build rfl rfl Nf.auto ?_)
        | (show OpOk _ _ _ _ _ _ _; first | refine opB (fun b => ?_) | refine opA (fun a' c' hc1 hc2 => ?_))
        | (show GJ _ _ _ _ _ _ _; first | refine GJ.t (by decide) ?_ | refine GJ.f (by decide) ?_ | refine GJ.ft (by decide) ?_ | refine GJ.ff (by decide) ?_)
        | (show Br _ _ _; first | refine Br.t (by decide) ?_ | refine Br.f (by decide) ?_)
        | (show GJ _ _ _ _ _ _ _; first | (apply GJ.and; exact rfl; intro hg) | (apply GJ.or; exact rfl; intro hg)))
      refine Wk.id ⟨i + 1, ⟨rfl, ?_⟩, ?_, Sub.auto, Sup.auto⟩
      all_goals try dsimp only
      · have : i ≠ m := fun e => by have := hw.2 e; rw [hs] at this; cases this
        omega
      · have : i ≠ m := fun e => by have := hw.2 e; rw [hs] at this; cases this
        omega
    | false =>
      have him : i = m := by
        apply Classical.byContradiction
        intro e
        have := hw.1 (by omega)
        rw [hs] at this; cases this
      subst him
      repeat (first
        | (show _ ∧ _; exact ⟨rfl, rfl, rfl⟩)
        | refine wkT ?_
        | refine Bs.all ?_
        | (show RetOk _ _ _ _ _ _; refine RetOk.of (T := T) (RL.row rfl rfl LdN.hasBlk (by rfl) (RL.tmp rfl (RL.tmp rfl RL.nil))) ?_)
        | (show QOk _ _ _ _ _ _ _; refine QOk.build rfl rfl Nf.auto ?_)
        | (show OpOk _ _ _ _ _ _ _; first | refine opB (fun b => ?_) | refine opA (fun a' c' hc1 hc2 => ?_))
        | (show GJ _ _ _ _ _ _ _; first | refine GJ.t (by decide) ?_ | refine GJ.f (by decide) ?_ | refine GJ.ft (by decide) ?_ | refine GJ.ff (by decide) ?_)
        | (show Br _ _ _; first | refine Br.t (by decide) ?_ | refine Br.f (by decide) ?_)
        | (show GJ _ _ _ _ _ _ _; first | (apply GJ.and; exact rfl; intro hg) | (apply GJ.or; exact rfl; intro hg)))
      exact Wk.outV Sup.auto hk (congrArg str (cutW hm))
  · obtain rfl : i = m := by omega
    repeat (first
      | (show _ ∧ _; exact ⟨rfl, rfl, rfl⟩)
      | refine wkT ?_
      | refine Bs.all ?_
      | (show RetOk _ _ _ _ _ _; refine RetOk.of (T := T) (RL.row rfl rfl LdN.hasBlk (by rfl) (RL.tmp rfl (RL.tmp rfl RL.nil))) ?_)
      | (show QOk _ _ _ _ _ _ _; refine QOk.build rfl rfl Nf.auto ?_)
      | (show OpOk _ _ _ _ _ _ _; first | refine opB (fun b => ?_) | refine opA (fun a' c' hc1 hc2 => ?_))
      | (show GJ _ _ _ _ _ _ _; first | refine GJ.t (by decide) ?_ | refine GJ.f (by decide) ?_ | refine GJ.ft (by decide) ?_ | refine GJ.ff (by decide) ?_)
      | (show Br _ _ _; first | refine Br.t (by decide) ?_ | refine Br.f (by decide) ?_)
      | (show GJ _ _ _ _ _ _ _; first | (apply GJ.and; exact rfl; intro hg) | (apply GJ.or; exact rfl; intro hg)))
    exact Wk.outV Sup.auto hk (congrArg str (cutW hm))
end
end Go.Proofs.YtniofdklhlbphaaDoor
