/- code: a program that is put together. -/
import Derived.Test.YtniofdklhlbphaaDoorCdD
namespace Go.Proofs.YtniofdklhlbphaaDoor
open Go Go.E
set_option linter.unusedVariables false
set_option linter.unusedSimpArgs false
set_option maxRecDepth 10000
def zeros256 : List Nat := List.replicate 256 0
def bs1 : StepD := ⟨3, 1, 0, false, 0, 255, 0, 0, [], zeros256⟩
def bs2 : StepD := ⟨11, 0, 0, false, 0, 0, 0, 0, [], zeros256⟩
def bs2' : StepD := ⟨11, 3, 0, false, 0, 0, 0, 0, [], zeros256⟩
def bs3 : StepD := ⟨2, 0, 0, false, 0, 0, 0, 0, [], zeros256⟩
def bs4 : StepD := ⟨20, 0, 0, false, 0, 0, 0, 0, [], zeros256⟩
def pr0 : ProgD := ⟨[], 0, 0, 0⟩
def pr4 : ProgD := ⟨[bs1, bs2', bs3, bs4], 1, 0, 0⟩
theorem zero_in {k a b : Int} {f : Bool} {m x u v : Nat} (hm : m < 18446744073709551616) (hx : x < 18446744073709551616) : StepIn ⟨k, a, b, f, m, x, u, v, [], zeros256⟩ where
  bytes := List.length_replicate
  lt c hc := by rw [(List.mem_replicate.1 hc).2]; decide
  min := hm
  max := hx
theorem zero_ok {ro : Ro} {k a b : Int} {f : Bool} {m x u v : Nat} (hm : m < 18446744073709551616) (hx : x < 18446744073709551616) : StepOk ro ⟨k, a, b, f, m, x, u, v, [], zeros256⟩ (none, 0) := ⟨zero_in hm hx, Rs.nil _ _⟩
theorem zeros_make {ro : Ro} {l : List StepD} {z1 z2 z3 : Int} {a' : Option Addr} {c' : Nat} (h : ∀ s ∈ l, StepOk ro s (none, 0)) (h1 : l.length ≤ c') (h2 : c' ≤ maxLen) : MakeOk ro ⟨l, z1, z2, z3⟩ ⟨a', c', List.replicate l.length (none, 0)⟩ where
  len := List.length_replicate
  each i s x h1 h2 := by
    rw [(List.mem_replicate.1 (List.mem_of_getElem? h2)).2]
    exact h s (List.mem_of_getElem? h1)
  le := h1
  max := h2
theorem MakeOk.prog {ro ro' : Ro} {p : ProgD} {a : ProgA} (h : MakeOk ro p a) (hl : Le ro ro') (hr : Rs ro' a.sa p.steps.length a.sc 265 (stepsV p.steps a.xs)) : ProgOk ro' p a := ⟨h.len, hr, fun i s x h1 h2 => (h.each i s x h1 h2).le hl⟩
theorem reach4 {i : Nat} (h : Reach pr4 i) : i = 0 ∨ i = 1 ∨ i = 3 := by
  induction h with
  | first => exact .inl rfl
  | @next i k s h1 h2 h3 h4 ih =>
    rcases ih with rfl | rfl | rfl
    · have e : s = bs1 := (Option.some.inj h2).symm
      subst e
      rw [show followD bs1 0 = [1] by decide] at h3
      simp only [List.mem_singleton] at h3
      omega
    · have e : s = bs2' := (Option.some.inj h2).symm
      subst e
      rw [show followD bs2' 1 = [3] by decide] at h3
      simp only [List.mem_singleton] at h3
      omega
    · have e : s = bs4 := (Option.some.inj h2).symm
      subst e
      rw [show followD bs4 3 = [] by decide] at h3
      simp at h3
theorem reach43 : Reach pr4 3 := .next (i := 1) (s := bs2') (.next (i := 0) (s := bs1) .first rfl (by rw [show followD bs1 0 = [1] by decide]; decide) (by decide)) rfl (by rw [show followD bs2' 1 = [3] by decide]; decide) (by decide)
theorem itoa_digit {n : Nat} (h : n < 10) : Lib.itoa (n : Int) = [UInt8.ofNat (48 + n)] := by
  unfold Lib.itoa
  rw [if_neg (by omega), Int.toNat_natCast]
  unfold Lib.decDigits
  rw [dif_pos h]
theorem line1 : lineD 1 bs2' = [49, 32, 106, 117, 109, 112, 32, 51, 32, 48] := by
  show Lib.itoa ((1 : Nat) : Int) ++ [32] ++ kindD 11 ++ [32] ++ Lib.itoa ((3 : Nat) : Int) ++ [32] ++ Lib.itoa ((0 : Nat) : Int) = _
  rw [itoa_digit (by decide), itoa_digit (by decide), itoa_digit (by decide)]
  decide +kernel
section
variable {ro : Ro} {own r : Chs} {K : Value → Ro → Chs → Prop} {g : Chunk → Chs}
theorem madd_ok' {q : Nat} {p p' : ProgD} {a : ProgA} {xs' : List StepA} {s : StepD} {x : StepA} {v : Value} {n : Nat} (hv : v = .agg (stepV s x).toArray) (hm : MakeOk ro p a) (hs : StepOk ro s x) (hp : p.snoc s = p') (hx : a.xs ++ [x] = xs') (hl : p.steps.length = n) (hn : n < 65536)
    (hk : ∀ a' c', n + 1 ≤ c' → c' ≤ maxLen → K (.int .i64 (n : Int)) ro (makeC q p' ⟨a', c', xs'⟩ ++ own)) :
    CallOk Tryd.prog 19 #[ptr' q, v] ro (makeC q p a ++ own) K := by
  subst hv; subst hp; subst hx; subst hl
  exact madd_ok hm hs hn hk
set_option maxHeartbeats 4000000 in
theorem builds_ok (hk : ∀ ro', Le ro ro' → K (.bool true) ro' own) : CallOk Tryd.prog 12 #[] ro own K := by
  have z1 : StepOk ro bs1 (none, 0) := zero_ok (by decide) (by decide)
  have z2 : StepOk ro bs2 (none, 0) := zero_ok (by decide) (by decide)
  have z2' : StepOk ro bs2' (none, 0) := zero_ok (by decide) (by decide)
  have z3 : StepOk ro bs3 (none, 0) := zero_ok (by decide) (by decide)
  have z4 : StepOk ro bs4 (none, 0) := zero_ok (by decide) (by decide)
  refine CallOk.intro (args := []) (rs := [_]) T_ok Tryd.func12 Tryd.call12 rfl rfl (by kernel_rfl) rfl rfl ?_
  repeat (first
    | refine SeqOk.pass ?_
    | (show _ ∧ _; exact ⟨rfl, rfl, rfl⟩)
    | refine wkT ?_
    | refine Bs.all ?_
    | (show RetOk _ _ _ _ _ _; refine RetOk.of (T := T) (RL.row rfl rfl LdN.hasBlk (by rfl) (RL.tmp rfl (RL.tmp rfl RL.nil))) ?_)
    | (show QOk _ _ _ _ _ _ _; refine QOk.build rfl rfl Nf.auto ?_)
    | (show OpOk _ _ _ _ _ _ _; first | refine opB (fun b => ?_) | refine opA (fun a' c' hc1 hc2 => ?_))
    | (show GJ _ _ _ _ _ _ _; first | refine GJ.t (by decide) ?_ | refine GJ.f (by decide) ?_ | refine GJ.ft (by decide) ?_ | refine GJ.ff (by decide) ?_)
    | (show Br _ _ _; first | refine Br.t (by decide) ?_ | refine Br.f (by decide) ?_)
    | (show GJ _ _ _ _ _ _ _; first | (apply GJ.and; exact rfl; intro hg) | (apply GJ.or; exact rfl; intro hg)))
  refine slotM_ok (p := pr0) (a := ⟨none, 0, []⟩) ⟨by decide, by decide⟩ ?_
  repeat (first
    | refine SeqOk.pass ?_
    | (show _ ∧ _; exact ⟨rfl, rfl, rfl⟩)
    | refine wkT ?_
    | refine Bs.all ?_
    | (show RetOk _ _ _ _ _ _; refine RetOk.of (T := T) (RL.row rfl rfl LdN.hasBlk (by rfl) (RL.tmp rfl (RL.tmp rfl RL.nil))) ?_)
    | (show QOk _ _ _ _ _ _ _; refine QOk.build rfl rfl Nf.auto ?_)
    | (show OpOk _ _ _ _ _ _ _; first | refine opB (fun b => ?_) | refine opA (fun a' c' hc1 hc2 => ?_))
    | (show GJ _ _ _ _ _ _ _; first | refine GJ.t (by decide) ?_ | refine GJ.f (by decide) ?_ | refine GJ.ft (by decide) ?_ | refine GJ.ff (by decide) ?_)
    | (show Br _ _ _; first | refine Br.t (by decide) ?_ | refine Br.f (by decide) ?_)
    | (show GJ _ _ _ _ _ _ _; first | (apply GJ.and; exact rfl; intro hg) | (apply GJ.or; exact rfl; intro hg)))
  refine CallOk.sup (own0 := .blk b 47 (makerV ⟨[], 1, 0, 0⟩ ⟨none, 0, []⟩) :: .sl none 0 0 42 265 [] :: own) Sup.auto ?_
  refine madd_ok' (p := ⟨[], 1, 0, 0⟩) (p' := ⟨[bs1], 1, 0, 0⟩) (a := ⟨none, 0, []⟩) (xs' := List.replicate 1 (none, 0)) (s := bs1) (x := (none, 0)) (n := 0) (by kernel_rfl) (zeros_make (l := []) (by simp) (by decide) (by decide)) z1 rfl rfl rfl (by decide) (fun a1 c1 h1 h2 => ?_)
  repeat (first
    | refine SeqOk.pass ?_
    | (show _ ∧ _; exact ⟨rfl, rfl, rfl⟩)
    | refine wkT ?_
    | refine Bs.all ?_
    | (show RetOk _ _ _ _ _ _; refine RetOk.of (T := T) (RL.row rfl rfl LdN.hasBlk (by rfl) (RL.tmp rfl (RL.tmp rfl RL.nil))) ?_)
    | (show QOk _ _ _ _ _ _ _; refine QOk.build rfl rfl Nf.auto ?_)
    | (show OpOk _ _ _ _ _ _ _; first | refine opB (fun b => ?_) | refine opA (fun a' c' hc1 hc2 => ?_))
    | (show GJ _ _ _ _ _ _ _; first | refine GJ.t (by decide) ?_ | refine GJ.f (by decide) ?_ | refine GJ.ft (by decide) ?_ | refine GJ.ff (by decide) ?_)
    | (show Br _ _ _; first | refine Br.t (by decide) ?_ | refine Br.f (by decide) ?_)
    | (show GJ _ _ _ _ _ _ _; first | (apply GJ.and; exact rfl; intro hg) | (apply GJ.or; exact rfl; intro hg)))
  refine madd_ok' (p := ⟨[bs1], 1, 0, 0⟩) (p' := ⟨[bs1, bs2], 1, 0, 0⟩) (a := ⟨a1, c1, List.replicate 1 (none, 0)⟩) (xs' := List.replicate 2 (none, 0)) (s := bs2) (x := (none, 0)) (n := 1) (by kernel_rfl) (zeros_make (l := [bs1]) (by simp only [List.mem_cons, List.not_mem_nil, or_false, forall_eq_or_imp, forall_eq]; exact z1) h1 h2) z2 rfl rfl rfl (by decide) (fun a2 c2 h3 h4 => ?_)
  repeat (first
    | refine SeqOk.pass ?_
    | (show _ ∧ _; exact ⟨rfl, rfl, rfl⟩)
    | refine wkT ?_
    | refine Bs.all ?_
    | (show RetOk _ _ _ _ _ _; refine RetOk.of (T := T) (RL.row rfl rfl LdN.hasBlk (by rfl) (RL.tmp rfl (RL.tmp rfl RL.nil))) ?_)
    | (show QOk _ _ _ _ _ _ _; refine QOk.build rfl rfl Nf.auto ?_)
    | (show OpOk _ _ _ _ _ _ _; first | refine opB (fun b => ?_) | refine opA (fun a' c' hc1 hc2 => ?_))
    | (show GJ _ _ _ _ _ _ _; first | refine GJ.t (by decide) ?_ | refine GJ.f (by decide) ?_ | refine GJ.ft (by decide) ?_ | refine GJ.ff (by decide) ?_)
    | (show Br _ _ _; first | refine Br.t (by decide) ?_ | refine Br.f (by decide) ?_)
    | (show GJ _ _ _ _ _ _ _; first | (apply GJ.and; exact rfl; intro hg) | (apply GJ.or; exact rfl; intro hg)))
  refine madd_ok' (p := ⟨[bs1, bs2], 1, 0, 0⟩) (p' := ⟨[bs1, bs2, bs3], 1, 0, 0⟩) (a := ⟨a2, c2, List.replicate 2 (none, 0)⟩) (xs' := List.replicate 3 (none, 0)) (s := bs3) (x := (none, 0)) (n := 2) (by kernel_rfl) (zeros_make (l := [bs1, bs2]) (by simp only [List.mem_cons, List.not_mem_nil, or_false, forall_eq_or_imp, forall_eq]; exact ⟨z1, z2⟩) h3 h4) z3 rfl rfl rfl (by decide) (fun a3 c3 h5 h6 => ?_)
  repeat (first
    | refine SeqOk.pass ?_
    | (show _ ∧ _; exact ⟨rfl, rfl, rfl⟩)
    | refine wkT ?_
    | refine Bs.all ?_
    | (show RetOk _ _ _ _ _ _; refine RetOk.of (T := T) (RL.row rfl rfl LdN.hasBlk (by rfl) (RL.tmp rfl (RL.tmp rfl RL.nil))) ?_)
    | (show QOk _ _ _ _ _ _ _; refine QOk.build rfl rfl Nf.auto ?_)
    | (show OpOk _ _ _ _ _ _ _; first | refine opB (fun b => ?_) | refine opA (fun a' c' hc1 hc2 => ?_))
    | (show GJ _ _ _ _ _ _ _; first | refine GJ.t (by decide) ?_ | refine GJ.f (by decide) ?_ | refine GJ.ft (by decide) ?_ | refine GJ.ff (by decide) ?_)
    | (show Br _ _ _; first | refine Br.t (by decide) ?_ | refine Br.f (by decide) ?_)
    | (show GJ _ _ _ _ _ _ _; first | (apply GJ.and; exact rfl; intro hg) | (apply GJ.or; exact rfl; intro hg)))
  refine here_ok (p := ⟨[bs1, bs2, bs3], 1, 0, 0⟩) (a := ⟨a3, c3, List.replicate 3 (none, 0)⟩) ?_
  repeat (first
    | refine SeqOk.pass ?_
    | (show _ ∧ _; exact ⟨rfl, rfl, rfl⟩)
    | refine wkT ?_
    | refine Bs.all ?_
    | (show RetOk _ _ _ _ _ _; refine RetOk.of (T := T) (RL.row rfl rfl LdN.hasBlk (by rfl) (RL.tmp rfl (RL.tmp rfl RL.nil))) ?_)
    | (show QOk _ _ _ _ _ _ _; refine QOk.build rfl rfl Nf.auto ?_)
    | (show OpOk _ _ _ _ _ _ _; first | refine opB (fun b => ?_) | refine opA (fun a' c' hc1 hc2 => ?_))
    | (show GJ _ _ _ _ _ _ _; first | refine GJ.t (by decide) ?_ | refine GJ.f (by decide) ?_ | refine GJ.ft (by decide) ?_ | refine GJ.ff (by decide) ?_)
    | (show Br _ _ _; first | refine Br.t (by decide) ?_ | refine Br.f (by decide) ?_)
    | (show GJ _ _ _ _ _ _ _; first | (apply GJ.and; exact rfl; intro hg) | (apply GJ.or; exact rfl; intro hg)))
  refine aim_ok (q := b) (p := ⟨[bs1, bs2, bs3], 1, 0, 0⟩) (a := ⟨a3, c3, List.replicate 3 (none, 0)⟩) (i := 1) (s := bs2) (z := 3) (zeros_make (l := [bs1, bs2, bs3]) (by simp only [List.mem_cons, List.not_mem_nil, or_false, forall_eq_or_imp, forall_eq]; exact ⟨z1, z2, z3⟩) h5 h6) rfl ?_
  repeat (first
    | refine SeqOk.pass ?_
    | (show _ ∧ _; exact ⟨rfl, rfl, rfl⟩)
    | refine wkT ?_
    | refine Bs.all ?_
    | (show RetOk _ _ _ _ _ _; refine RetOk.of (T := T) (RL.row rfl rfl LdN.hasBlk (by rfl) (RL.tmp rfl (RL.tmp rfl RL.nil))) ?_)
    | (show QOk _ _ _ _ _ _ _; refine QOk.build rfl rfl Nf.auto ?_)
    | (show OpOk _ _ _ _ _ _ _; first | refine opB (fun b => ?_) | refine opA (fun a' c' hc1 hc2 => ?_))
    | (show GJ _ _ _ _ _ _ _; first | refine GJ.t (by decide) ?_ | refine GJ.f (by decide) ?_ | refine GJ.ft (by decide) ?_ | refine GJ.ff (by decide) ?_)
    | (show Br _ _ _; first | refine Br.t (by decide) ?_ | refine Br.f (by decide) ?_)
    | (show GJ _ _ _ _ _ _ _; first | (apply GJ.and; exact rfl; intro hg) | (apply GJ.or; exact rfl; intro hg)))
  refine madd_ok' (p := ⟨[bs1, bs2', bs3], 1, 0, 0⟩) (p' := pr4) (a := ⟨a3, c3, List.replicate 3 (none, 0)⟩) (xs' := List.replicate 4 (none, 0)) (s := bs4) (x := (none, 0)) (n := 3) (by kernel_rfl) (zeros_make (l := [bs1, bs2', bs3]) (by simp only [List.mem_cons, List.not_mem_nil, or_false, forall_eq_or_imp, forall_eq]; exact ⟨z1, z2', z3⟩) h5 h6) z4 rfl rfl rfl (by decide) (fun a4 c4 h7 h8 => ?_)
  have hM : MakeOk ro pr4 ⟨a4, c4, List.replicate 4 (none, 0)⟩ := zeros_make (l := [bs1, bs2', bs3, bs4]) (by simp only [List.mem_cons, List.not_mem_nil, or_false, forall_eq_or_imp, forall_eq]; exact ⟨z1, z2', z3, z4⟩) h7 h8
  have hW : ∀ s ∈ pr4.steps, s.ways.length ≤ 300 := by
    show ∀ s ∈ [bs1, bs2', bs3, bs4], s.ways.length ≤ 300
    simp only [List.mem_cons, List.not_mem_nil, or_false, forall_eq_or_imp, forall_eq]
    decide
  have hC : checkF pr4 = (0, 0) := by decide +kernel
  repeat (first
    | refine SeqOk.pass ?_
    | (show _ ∧ _; exact ⟨rfl, rfl, rfl⟩)
    | refine wkT ?_
    | refine Bs.all ?_
    | (show RetOk _ _ _ _ _ _; refine RetOk.of (T := T) (RL.row rfl rfl LdN.hasBlk (by rfl) (RL.tmp rfl (RL.tmp rfl RL.nil))) ?_)
    | (show QOk _ _ _ _ _ _ _; refine QOk.build rfl rfl Nf.auto ?_)
    | (show OpOk _ _ _ _ _ _ _; first | refine opB (fun b => ?_) | refine opA (fun a' c' hc1 hc2 => ?_))
    | (show GJ _ _ _ _ _ _ _; first | refine GJ.t (by decide) ?_ | refine GJ.f (by decide) ?_ | refine GJ.ft (by decide) ?_ | refine GJ.ff (by decide) ?_)
    | (show Br _ _ _; first | refine Br.t (by decide) ?_ | refine Br.f (by decide) ?_)
    | (show GJ _ _ _ _ _ _ _; first | (apply GJ.and; exact rfl; intro hg) | (apply GJ.or; exact rfl; intro hg)))
  refine CallOk.freeze (c := .sl a4 4 c4 42 265 (stepsV pr4.steps (List.replicate 4 (none, 0)))) (own' := .blk b 47 (makerV pr4 ⟨a4, c4, List.replicate 4 (none, 0)⟩) :: own) (.miss _ (.hit _ _)) (fun ro1 hl1 hc1 => ?_)
  refine mprog_ok (hM.prog hl1 (Rs.last hc1)) (by decide) hW (fun _ ro2 a5 hl2 hM2 => ?_) (fun h => absurd hC (fun h2 => h (by rw [h2])))
  repeat (first
    | refine SeqOk.pass ?_
    | (show _ ∧ _; exact ⟨rfl, rfl, rfl⟩)
    | refine wkT ?_
    | refine Bs.all ?_
    | (show RetOk _ _ _ _ _ _; refine RetOk.of (T := T) (RL.row rfl rfl LdN.hasBlk (by rfl) (RL.tmp rfl (RL.tmp rfl RL.nil))) ?_)
    | (show QOk _ _ _ _ _ _ _; refine QOk.build rfl rfl Nf.auto ?_)
    | (show OpOk _ _ _ _ _ _ _; first | refine opB (fun b => ?_) | refine opA (fun a' c' hc1 hc2 => ?_))
    | (show GJ _ _ _ _ _ _ _; first | refine GJ.t (by decide) ?_ | refine GJ.f (by decide) ?_ | refine GJ.ft (by decide) ?_ | refine GJ.ff (by decide) ?_)
    | (show Br _ _ _; first | refine Br.t (by decide) ?_ | refine Br.f (by decide) ?_)
    | (show GJ _ _ _ _ _ _ _; first | (apply GJ.and; exact rfl; intro hg) | (apply GJ.or; exact rfl; intro hg)))
  refine CallOk.freeze (c := .sl a5.sa _ _ _ _ _) Take.auto (fun ro3 hl3 hc3 => ?_)
  have hP := hM2.prog hl3 (Rs.last hc3)
  refine reached_ok hP (by decide) hW (fun ro4 a6 c6 o hl4 ho1 ho2 _ hro => ?_)
  have ho2 := ho2 hC
  have e3 : o[3]? = some true := (ho2 3).2 reach43
  have e2 : o[2]? = some false := by
    have hn : o[2]? ≠ some true := fun h => by have := reach4 ((ho2 2).1 h); omega
    have hl : 2 < o.length := by rw [ho1]; decide
    rw [List.getElem?_eq_getElem hl] at hn ⊢
    cases h : o[2] with
    | false => rfl
    | true => exact absurd (by rw [h]) hn
  repeat (first
    | refine SeqOk.pass ?_
    | (show _ ∧ _; exact ⟨rfl, rfl, rfl⟩)
    | refine wkT ?_
    | refine Bs.all ?_
    | (show RetOk _ _ _ _ _ _; refine RetOk.of (T := T) (RL.row rfl rfl LdN.hasBlk (by rfl) (RL.tmp rfl (RL.tmp rfl RL.nil))) ?_)
    | (show QOk _ _ _ _ _ _ _; refine QOk.build rfl rfl Nf.auto ?_)
    | (show OpOk _ _ _ _ _ _ _; first | refine opB (fun b => ?_) | refine opA (fun a' c' hc1 hc2 => ?_))
    | (show GJ _ _ _ _ _ _ _; first | refine GJ.t (by decide) ?_ | refine GJ.f (by decide) ?_ | refine GJ.ft (by decide) ?_ | refine GJ.ff (by decide) ?_)
    | (show Br _ _ _; first | refine Br.t (by decide) ?_ | refine Br.f (by decide) ?_)
    | (show GJ _ _ _ _ _ _ _; first | (apply GJ.and; exact rfl; intro hg) | (apply GJ.or; exact rfl; intro hg)))
  refine lines_ok (hP.le hl4) (by decide) ?_ (fun a7 c7 h9 h10 => ?_)
  · show ∀ s ∈ [bs1, bs2', bs3, bs4], s.ways.length = 0 ∧ (0 ≤ s.a ∧ s.a < 100) ∧ 0 ≤ s.b ∧ s.b < 100
    simp only [List.mem_cons, List.not_mem_nil, or_false, forall_eq_or_imp, forall_eq]
    decide
  have e4 : pr4.steps.length = 4 := rfl
  have hol : o.length = 4 := ho1
  have f3 : o[(3 : Int).toNat]! = true := by
    show o[3]! = true
    rw [List.getElem!_eq_getElem?_getD, e3]; rfl
  have f2 : o[(2 : Int).toNat]! = false := by
    show o[2]! = false
    rw [List.getElem!_eq_getElem?_getD, e2]; rfl
  repeat (first
    | (show _ ∧ _; exact ⟨rfl, rfl, rfl⟩)
    | refine wkT ?_
    | refine Bs.all ?_
    | (show QOk _ _ _ _ _ _ _; refine QOk.build rfl rfl Nf.auto ?_)
    | (show OpOk _ _ _ _ _ _ _; first | refine opB (fun b => ?_) | refine opA (fun a' c' hc1 hc2 => ?_))
    | (show GJ _ _ _ _ _ _ _; first | refine GJ.t (by decide) ?_ | refine GJ.t omAuto ?_))
  rw [f3]
  repeat (first
    | (show _ ∧ _; exact ⟨rfl, rfl, rfl⟩)
    | refine wkT ?_
    | refine Bs.all ?_
    | (show QOk _ _ _ _ _ _ _; refine QOk.build rfl rfl Nf.auto ?_)
    | (show OpOk _ _ _ _ _ _ _; first | refine opB (fun b => ?_) | refine opA (fun a' c' hc1 hc2 => ?_))
    | (show GJ _ _ _ _ _ _ _; first | refine GJ.t (by decide) ?_ | refine GJ.t omAuto ?_))
  rw [f2]
  repeat (first
    | (show _ ∧ _; exact ⟨rfl, rfl, rfl⟩)
    | refine wkT ?_
    | refine Bs.all ?_
    | (show QOk _ _ _ _ _ _ _; refine QOk.build rfl rfl Nf.auto ?_)
    | (show OpOk _ _ _ _ _ _ _; first | refine opB (fun b => ?_) | refine opA (fun a' c' hc1 hc2 => ?_))
    | (show GJ _ _ _ _ _ _ _; first | refine GJ.t (by decide) ?_ | refine GJ.t omAuto ?_))
  refine OpOk.load rfl rfl (Ld.slAt' (k := 1) rfl (v := str (lineD 1 bs2')) rfl) ?_
  rw [line1]
  repeat (first
    | (show _ ∧ _; exact ⟨rfl, rfl, rfl⟩)
    | refine wkT ?_
    | refine Bs.all ?_
    | (show QOk _ _ _ _ _ _ _; refine QOk.build rfl rfl Nf.auto ?_)
    | (show OpOk _ _ _ _ _ _ _; first | refine opB (fun b => ?_) | refine opA (fun a' c' hc1 hc2 => ?_))
    | (show GJ _ _ _ _ _ _ _; first | refine GJ.t (by decide) ?_ | refine GJ.t omAuto ?_))
  refine kname_ok ?_
  rw [show kindD 20 = [101, 110, 100] by decide +kernel]
  repeat (first
    | (show _ ∧ _; exact ⟨rfl, rfl, rfl⟩)
    | refine wkT ?_
    | refine Bs.all ?_
    | (show QOk _ _ _ _ _ _ _; refine QOk.build rfl rfl Nf.auto ?_)
    | (show OpOk _ _ _ _ _ _ _; first | refine opB (fun b => ?_) | refine opA (fun a' c' hc1 hc2 => ?_))
    | (show GJ _ _ _ _ _ _ _; first | refine GJ.t (by decide) ?_ | refine GJ.t omAuto ?_))
  refine kname_ok ?_
  rw [show kindD 0 = [] by decide +kernel]
  repeat (first
    | (show _ ∧ _; exact ⟨rfl, rfl, rfl⟩)
    | refine wkT ?_
    | refine Bs.all ?_
    | (show QOk _ _ _ _ _ _ _; refine QOk.build rfl rfl Nf.auto ?_)
    | (show OpOk _ _ _ _ _ _ _; first | refine opB (fun b => ?_) | refine opA (fun a' c' hc1 hc2 => ?_))
    | (show GJ _ _ _ _ _ _ _; first | refine GJ.t (by decide) ?_ | refine GJ.t omAuto ?_))
  refine ccheck_ok (p := pr0) (a := ⟨none, 0, []⟩) ⟨rfl, Rs.nil _ _, fun i s x h1 h2 => by simp [pr0] at h1⟩ ?_
  rw [show checkF pr0 = (2, 0) by decide +kernel]
  repeat (first
    | (show _ ∧ _; exact ⟨rfl, rfl, rfl⟩)
    | refine wkT ?_
    | refine Bs.all ?_
    | (show QOk _ _ _ _ _ _ _; refine QOk.build rfl rfl Nf.auto ?_)
    | (show OpOk _ _ _ _ _ _ _; first | refine opB (fun b => ?_) | refine opA (fun a' c' hc1 hc2 => ?_))
    | (show GJ _ _ _ _ _ _ _; first | refine GJ.t (by decide) ?_ | refine GJ.t omAuto ?_))
  exact Wk.outS Sup.auto (.refl _) (hk _ (hl1.trans (hl2.trans (hl3.trans hl4))))
end
end Go.Proofs.YtniofdklhlbphaaDoor
