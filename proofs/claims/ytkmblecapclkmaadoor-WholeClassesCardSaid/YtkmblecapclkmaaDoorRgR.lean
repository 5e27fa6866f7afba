/- The law WholeClasses. -/
import Derived.Test.YtkmblecapclkmaaDoorRgS
import Derived.Test.YtkmblecapclkmaaDoorRxA
import Derived.Test.YtkmblecapclkmaaDoorEn5
namespace Go.Proofs.YtkmblecapclkmaaDoor
open Go Go.E
set_option linter.unusedVariables false
set_option linter.unusedSimpArgs false
set_option maxRecDepth 10000
theorem abc_len : (rangeD 97 99).len = 3 := by kernel_rfl
theorem a_text : textR (oneD (ofD 97)) = [97] := by kernel_rfl
theorem a_wrong : wrongD (oneD (ofD 97)) = 0 := by kernel_rfl
theorem a_size : sizeD (oneD (ofD 97)) ≤ 4000 := by rw [size_one]; decide
theorem four_eq' (z : SetD) : decide ((z.a : Int) = z.a ∧ (z.b : Int) = z.b ∧ (z.c : Int) = z.c ∧ (z.d : Int) = z.d) = true := decide_eq_true ⟨rfl, rfl, rfl, rfl⟩
theorem four_ne {z y : SetD} (h : z ≠ y) : decide ((z.a : Int) = y.a ∧ (z.b : Int) = y.b ∧ (z.c : Int) = y.c ∧ (z.d : Int) = y.d) = false := decide_eq_false fun h2 => h (by
  obtain ⟨a, b, c, d⟩ := z
  obtain ⟨a', b', c', d'⟩ := y
  simp only [SetD.mk.injEq] at h2 ⊢; omega)
/-- Two that lie in a slice. -/
theorem RgOk.two {ro : Ro} {k : Int} {n m : RgD} {v : List Value} (h : RgOk ro (.mk k zeroS [n, m] 0 0) v) : ∃ a c w u, v = nodeV k zeroS a 2 c 0 0 ∧ Rs ro a 2 c 8 (w ++ u) ∧ RgOk ro n w ∧ RgOk ro m u := by
  rw [RgOk] at h
  obtain ⟨a, c, cs, h1, _, h2, h3⟩ := h
  rw [RgsOk] at h3
  obtain ⟨w, r1, rfl, h4, h3⟩ := h3
  rw [RgsOk] at h3
  obtain ⟨u, r2, rfl, h5, h3⟩ := h3
  rw [RgsOk] at h3; subst h3
  rw [List.append_nil] at h2
  exact ⟨a, c, w, u, h1, h2, h4, h5⟩
/-- The cells of a record. -/
def aggL : Value → List Value
  | .agg a => a.toList
  | _ => []
section
variable {ro : Ro} {own r : Chs} {K : Value → Ro → Chs → Prop} {g : Chunk → Chs}
set_option maxHeartbeats 16000000 in
theorem wclasses_law {s : SetD} {c : Nat} (ht : TabOk ro) (hs : SetIn s) (hc : c < 256) (hk : K (.bool true) ro own) : CallOk Tryd.prog 6 #[.agg (setV s).toArray, .int .u8 (c : Int)] ro own K := by
  refine CallOk.back ?_
  have hcu : c = (UInt8.ofNat c).toNat := (UInt8.toNat_ofNat_of_lt' hc).symm
  have hnl := (nameD_len c).2
  have htl := text_len s
  have htl2 := text_len s.not
  refine CallOk.intro (args := [_, _]) (rs := [_]) T_ok Tryd.func6 Tryd.call6 rfl rfl (by kernel_rfl) rfl rfl ?_
  repeat (first
    | refine SeqOk.pass ?_
    | (show _ ∧ _; exact ⟨rfl, rfl, rfl⟩)
    | refine wkT ?_
    | refine Bs.all ?_
    | (show RetOk _ _ _ _ _ _; refine RetOk.of (T := T) (RL.row rfl rfl LdN.hasBlk (by rfl) (RL.tmp rfl (RL.tmp rfl RL.nil))) ?_)
    | (show QOk _ _ _ _ _ _ _; refine QOk.build rfl rfl Nf.auto ?_)
    | (show OpOk _ _ _ _ _ _ _; first | refine opB (fun b => ?_) | refine opA (fun a' c' hc1 hc2 => ?_))
    | (show GJ _ _ _ _ _ _ _; first | refine GJ.t (by decide) ?_ | refine GJ.f (by decide) ?_ | refine GJ.ft (by decide) ?_ | refine GJ.ff (by decide) ?_)
    | (show Br _ _ _; first | refine Br.t (by decide) ?_ | refine Br.f (by decide) ?_)
    | (show GJ _ _ _ _ _ _ _; first | (apply GJ.and; exact rfl; intro hg) | (apply GJ.or; exact rfl; intro hg)))
  obtain ⟨bp, hbp⟩ : ∃ x : Nat, x = b := ⟨_, rfl⟩
  subst hbp
  refine rangeD_ok (x := 97) (y := 99) (by decide) (by decide) ?_
  repeat (first
    | refine SeqOk.pass ?_
    | (show _ ∧ _; exact ⟨rfl, rfl, rfl⟩)
    | refine wkT ?_
    | refine Bs.all ?_
    | (show RetOk _ _ _ _ _ _; refine RetOk.of (T := T) (RL.row rfl rfl LdN.hasBlk (by rfl) (RL.tmp rfl (RL.tmp rfl RL.nil))) ?_)
    | (show QOk _ _ _ _ _ _ _; refine QOk.build rfl rfl Nf.auto ?_)
    | (show OpOk _ _ _ _ _ _ _; first | refine opB (fun b => ?_) | refine opA (fun a' c' hc1 hc2 => ?_))
    | (show GJ _ _ _ _ _ _ _; first | refine GJ.t (by decide) ?_ | refine GJ.f (by decide) ?_ | refine GJ.ft (by decide) ?_ | refine GJ.ff (by decide) ?_)
    | (show Br _ _ _; first | refine Br.t (by decide) ?_ | refine Br.f (by decide) ?_)
    | (show GJ _ _ _ _ _ _ _; first | (apply GJ.and; exact rfl; intro hg) | (apply GJ.or; exact rfl; intro hg)))
  refine len_ok (range_in 97 99) ?_
  rw [abc_len]
  repeat (first
    | refine SeqOk.pass ?_
    | (show _ ∧ _; exact ⟨rfl, rfl, rfl⟩)
    | refine wkT ?_
    | refine Bs.all ?_
    | (show RetOk _ _ _ _ _ _; refine RetOk.of (T := T) (RL.row rfl rfl LdN.hasBlk (by rfl) (RL.tmp rfl (RL.tmp rfl RL.nil))) ?_)
    | (show QOk _ _ _ _ _ _ _; refine QOk.build rfl rfl Nf.auto ?_)
    | (show OpOk _ _ _ _ _ _ _; first | refine opB (fun b => ?_) | refine opA (fun a' c' hc1 hc2 => ?_))
    | (show GJ _ _ _ _ _ _ _; first | refine GJ.t (by decide) ?_ | refine GJ.f (by decide) ?_ | refine GJ.ft (by decide) ?_ | refine GJ.ff (by decide) ?_)
    | (show Br _ _ _; first | refine Br.t (by decide) ?_ | refine Br.f (by decide) ?_)
    | (show GJ _ _ _ _ _ _ _; first | (apply GJ.and; exact rfl; intro hg) | (apply GJ.or; exact rfl; intro hg)))
  refine ofD_ok (x := 97) (by decide) (fun ro1 hl1 => ?_)
  repeat (first
    | refine SeqOk.pass ?_
    | (show _ ∧ _; exact ⟨rfl, rfl, rfl⟩)
    | refine wkT ?_
    | refine Bs.all ?_
    | (show RetOk _ _ _ _ _ _; refine RetOk.of (T := T) (RL.row rfl rfl LdN.hasBlk (by rfl) (RL.tmp rfl (RL.tmp rfl RL.nil))) ?_)
    | (show QOk _ _ _ _ _ _ _; refine QOk.build rfl rfl Nf.auto ?_)
    | (show OpOk _ _ _ _ _ _ _; first | refine opB (fun b => ?_) | refine opA (fun a' c' hc1 hc2 => ?_))
    | (show GJ _ _ _ _ _ _ _; first | refine GJ.t (by decide) ?_ | refine GJ.f (by decide) ?_ | refine GJ.ft (by decide) ?_ | refine GJ.ff (by decide) ?_)
    | (show Br _ _ _; first | refine Br.t (by decide) ?_ | refine Br.f (by decide) ?_)
    | (show GJ _ _ _ _ _ _ _; first | (apply GJ.and; exact rfl; intro hg) | (apply GJ.or; exact rfl; intro hg)))
  refine rtext_ok (n := oneD (ofD 97)) (v := nodeV 2 (ofD 97) none 0 0 0 0) (ht.le hl1) a_wrong (RgOk.leaf (of_in (by decide))) a_size ?_
  rw [a_text]
  repeat (first
    | refine SeqOk.pass ?_
    | (show _ ∧ _; exact ⟨rfl, rfl, rfl⟩)
    | refine wkT ?_
    | refine Bs.all ?_
    | (show RetOk _ _ _ _ _ _; refine RetOk.of (T := T) (RL.row rfl rfl LdN.hasBlk (by rfl) (RL.tmp rfl (RL.tmp rfl RL.nil))) ?_)
    | (show QOk _ _ _ _ _ _ _; refine QOk.build rfl rfl Nf.auto ?_)
    | (show OpOk _ _ _ _ _ _ _; first | refine opB (fun b => ?_) | refine opA (fun a' c' hc1 hc2 => ?_))
    | (show GJ _ _ _ _ _ _ _; first | refine GJ.t (by decide) ?_ | refine GJ.f (by decide) ?_ | refine GJ.ft (by decide) ?_ | refine GJ.ff (by decide) ?_)
    | (show Br _ _ _; first | refine Br.t (by decide) ?_ | refine Br.f (by decide) ?_)
    | (show GJ _ _ _ _ _ _ _; first | (apply GJ.and; exact rfl; intro hg) | (apply GJ.or; exact rfl; intro hg)))
  by_cases h0 : s = zeroS
  · refine empty_ok ?_
    rw [decide_eq_true (show s = ⟨0, 0, 0, 0⟩ from h0)]
    repeat (first
      | refine SeqOk.pass ?_
      | (show _ ∧ _; exact ⟨rfl, rfl, rfl⟩)
      | refine wkT ?_
      | refine Bs.all ?_
      | (show RetOk _ _ _ _ _ _; refine RetOk.of (T := T) (RL.row rfl rfl LdN.hasBlk (by rfl) (RL.tmp rfl (RL.tmp rfl RL.nil))) ?_)
      | (show QOk _ _ _ _ _ _ _; refine QOk.build rfl rfl Nf.auto ?_)
      | (show OpOk _ _ _ _ _ _ _; first | refine opB (fun b => ?_) | refine opA (fun a' c' hc1 hc2 => ?_))
      | (show GJ _ _ _ _ _ _ _; first | refine GJ.t (by decide) ?_ | refine GJ.f (by decide) ?_ | refine GJ.ft (by decide) ?_ | refine GJ.ff (by decide) ?_)
      | (show Br _ _ _; first | refine Br.t (by decide) ?_ | refine Br.f (by decide) ?_)
      | (show GJ _ _ _ _ _ _ _; first | (apply GJ.and; exact rfl; intro hg) | (apply GJ.or; exact rfl; intro hg)))
    exact Wk.back1 Sup.auto (.refl _) hk
  refine empty_ok ?_
  rw [decide_eq_false (show ¬ s = ⟨0, 0, 0, 0⟩ from h0)]
  repeat (first
    | refine SeqOk.pass ?_
    | (show _ ∧ _; exact ⟨rfl, rfl, rfl⟩)
    | refine wkT ?_
    | refine Bs.all ?_
    | (show RetOk _ _ _ _ _ _; refine RetOk.of (T := T) (RL.row rfl rfl LdN.hasBlk (by rfl) (RL.tmp rfl (RL.tmp rfl RL.nil))) ?_)
    | (show QOk _ _ _ _ _ _ _; refine QOk.build rfl rfl Nf.auto ?_)
    | (show OpOk _ _ _ _ _ _ _; first | refine opB (fun b => ?_) | refine opA (fun a' c' hc1 hc2 => ?_))
    | (show GJ _ _ _ _ _ _ _; first | refine GJ.t (by decide) ?_ | refine GJ.f (by decide) ?_ | refine GJ.ft (by decide) ?_ | refine GJ.ff (by decide) ?_)
    | (show Br _ _ _; first | refine Br.t (by decide) ?_ | refine Br.f (by decide) ?_)
    | (show GJ _ _ _ _ _ _ _; first | (apply GJ.and; exact rfl; intro hg) | (apply GJ.or; exact rfl; intro hg)))
  refine all_ok ?_
  repeat (first
    | refine SeqOk.pass ?_
    | (show _ ∧ _; exact ⟨rfl, rfl, rfl⟩)
    | refine wkT ?_
    | refine Bs.all ?_
    | (show RetOk _ _ _ _ _ _; refine RetOk.of (T := T) (RL.row rfl rfl LdN.hasBlk (by rfl) (RL.tmp rfl (RL.tmp rfl RL.nil))) ?_)
    | (show QOk _ _ _ _ _ _ _; refine QOk.build rfl rfl Nf.auto ?_)
    | (show OpOk _ _ _ _ _ _ _; first | refine opB (fun b => ?_) | refine opA (fun a' c' hc1 hc2 => ?_))
    | (show GJ _ _ _ _ _ _ _; first | refine GJ.t (by decide) ?_ | refine GJ.f (by decide) ?_ | refine GJ.ft (by decide) ?_ | refine GJ.ff (by decide) ?_)
    | (show Br _ _ _; first | refine Br.t (by decide) ?_ | refine Br.f (by decide) ?_)
    | (show GJ _ _ _ _ _ _ _; first | (apply GJ.and; exact rfl; intro hg) | (apply GJ.or; exact rfl; intro hg)))
  refine QOk.eqlArr4 (e := 33) rfl rfl (by kernel_rfl) (by kernel_rfl) (by kernel_rfl) (by kernel_rfl) ?_
  by_cases h1 : s = allD
  · subst h1
    rw [four_eq']
    repeat (first
      | refine SeqOk.pass ?_
      | (show _ ∧ _; exact ⟨rfl, rfl, rfl⟩)
      | refine wkT ?_
      | refine Bs.all ?_
      | (show RetOk _ _ _ _ _ _; refine RetOk.of (T := T) (RL.row rfl rfl LdN.hasBlk (by rfl) (RL.tmp rfl (RL.tmp rfl RL.nil))) ?_)
      | (show QOk _ _ _ _ _ _ _; refine QOk.build rfl rfl Nf.auto ?_)
      | (show OpOk _ _ _ _ _ _ _; first | refine opB (fun b => ?_) | refine opA (fun a' c' hc1 hc2 => ?_))
      | (show GJ _ _ _ _ _ _ _; first | refine GJ.t (by decide) ?_ | refine GJ.f (by decide) ?_ | refine GJ.ft (by decide) ?_ | refine GJ.ff (by decide) ?_)
      | (show Br _ _ _; first | refine Br.t (by decide) ?_ | refine Br.f (by decide) ?_)
      | (show GJ _ _ _ _ _ _ _; first | (apply GJ.and; exact rfl; intro hg) | (apply GJ.or; exact rfl; intro hg)))
    exact Wk.back1 Sup.auto (.refl _) hk
  rw [four_ne h1]
  repeat (first
    | refine SeqOk.pass ?_
    | (show _ ∧ _; exact ⟨rfl, rfl, rfl⟩)
    | refine wkT ?_
    | refine Bs.all ?_
    | (show RetOk _ _ _ _ _ _; refine RetOk.of (T := T) (RL.row rfl rfl LdN.hasBlk (by rfl) (RL.tmp rfl (RL.tmp rfl RL.nil))) ?_)
    | (show QOk _ _ _ _ _ _ _; refine QOk.build rfl rfl Nf.auto ?_)
    | (show OpOk _ _ _ _ _ _ _; first | refine opB (fun b => ?_) | refine opA (fun a' c' hc1 hc2 => ?_))
    | (show GJ _ _ _ _ _ _ _; first | refine GJ.t (by decide) ?_ | refine GJ.f (by decide) ?_ | refine GJ.ft (by decide) ?_ | refine GJ.ff (by decide) ?_)
    | (show Br _ _ _; first | refine Br.t (by decide) ?_ | refine Br.f (by decide) ?_)
    | (show GJ _ _ _ _ _ _ _; first | (apply GJ.and; exact rfl; intro hg) | (apply GJ.or; exact rfl; intro hg)))
  refine text_ok (ht.le hl1) hs ?_
  by_cases l1 : 200 < (textD s).length
  · repeat (first
      | refine SeqOk.pass ?_
      | (show _ ∧ _; exact ⟨rfl, rfl, rfl⟩)
      | refine wkT ?_
      | refine Bs.all ?_
      | (show RetOk _ _ _ _ _ _; refine RetOk.of (T := T) (RL.row rfl rfl LdN.hasBlk (by rfl) (RL.tmp rfl (RL.tmp rfl RL.nil))) ?_)
      | (show QOk _ _ _ _ _ _ _; refine QOk.build rfl rfl Nf.auto ?_)
      | (show OpOk _ _ _ _ _ _ _; first | refine opB (fun b => ?_) | refine opA (fun a' c' hc1 hc2 => ?_))
      | (show GJ _ _ _ _ _ _ _; first | refine GJ.t (by decide) ?_ | refine GJ.f (by decide) ?_ | refine GJ.ft (by decide) ?_ | refine GJ.ff (by decide) ?_)
      | (show Br _ _ _; first | refine Br.t (by decide) ?_ | refine Br.f (by decide) ?_)
      | (show GJ _ _ _ _ _ _ _; first | (apply GJ.and; exact rfl; intro hg) | (apply GJ.or; exact rfl; intro hg)))
    exact Wk.back1 Sup.auto (.refl _) hk
  repeat (first
    | refine SeqOk.pass ?_
    | (show _ ∧ _; exact ⟨rfl, rfl, rfl⟩)
    | refine wkT ?_
    | refine Bs.all ?_
    | (show RetOk _ _ _ _ _ _; refine RetOk.of (T := T) (RL.row rfl rfl LdN.hasBlk (by rfl) (RL.tmp rfl (RL.tmp rfl RL.nil))) ?_)
    | (show QOk _ _ _ _ _ _ _; refine QOk.build rfl rfl Nf.auto ?_)
    | (show OpOk _ _ _ _ _ _ _; first | refine opB (fun b => ?_) | refine opA (fun a' c' hc1 hc2 => ?_))
    | (show GJ _ _ _ _ _ _ _; first | refine GJ.t (by decide) ?_ | refine GJ.f (by decide) ?_ | refine GJ.ft (by decide) ?_ | refine GJ.ff (by decide) ?_)
    | (show Br _ _ _; first | refine Br.t (by decide) ?_ | refine Br.f (by decide) ?_)
    | (show GJ _ _ _ _ _ _ _; first | (apply GJ.and; exact rfl; intro hg) | (apply GJ.or; exact rfl; intro hg)))
  refine not_ok hs ?_
  repeat (first
    | refine SeqOk.pass ?_
    | (show _ ∧ _; exact ⟨rfl, rfl, rfl⟩)
    | refine wkT ?_
    | refine Bs.all ?_
    | (show RetOk _ _ _ _ _ _; refine RetOk.of (T := T) (RL.row rfl rfl LdN.hasBlk (by rfl) (RL.tmp rfl (RL.tmp rfl RL.nil))) ?_)
    | (show QOk _ _ _ _ _ _ _; refine QOk.build rfl rfl Nf.auto ?_)
    | (show OpOk _ _ _ _ _ _ _; first | refine opB (fun b => ?_) | refine opA (fun a' c' hc1 hc2 => ?_))
    | (show GJ _ _ _ _ _ _ _; first | refine GJ.t (by decide) ?_ | refine GJ.f (by decide) ?_ | refine GJ.ft (by decide) ?_ | refine GJ.ff (by decide) ?_)
    | (show Br _ _ _; first | refine Br.t (by decide) ?_ | refine Br.f (by decide) ?_)
    | (show GJ _ _ _ _ _ _ _; first | (apply GJ.and; exact rfl; intro hg) | (apply GJ.or; exact rfl; intro hg)))
  refine text_ok (ht.le hl1) (SetIn.not s) ?_
  by_cases l2 : 200 < (textD s.not).length
  · repeat (first
      | refine SeqOk.pass ?_
      | (show _ ∧ _; exact ⟨rfl, rfl, rfl⟩)
      | refine wkT ?_
      | refine Bs.all ?_
      | (show RetOk _ _ _ _ _ _; refine RetOk.of (T := T) (RL.row rfl rfl LdN.hasBlk (by rfl) (RL.tmp rfl (RL.tmp rfl RL.nil))) ?_)
      | (show QOk _ _ _ _ _ _ _; refine QOk.build rfl rfl Nf.auto ?_)
      | (show OpOk _ _ _ _ _ _ _; first | refine opB (fun b => ?_) | refine opA (fun a' c' hc1 hc2 => ?_))
      | (show GJ _ _ _ _ _ _ _; first | refine GJ.t (by decide) ?_ | refine GJ.f (by decide) ?_ | refine GJ.ft (by decide) ?_ | refine GJ.ff (by decide) ?_)
      | (show Br _ _ _; first | refine Br.t (by decide) ?_ | refine Br.f (by decide) ?_)
      | (show GJ _ _ _ _ _ _ _; first | (apply GJ.and; exact rfl; intro hg) | (apply GJ.or; exact rfl; intro hg)))
    exact Wk.back1 Sup.auto (.refl _) hk
  have epar : parseD (textD s ++ [124] ++ textD s.not) = (altD' [oneD s, oneD s.not], (0, 0)) := by
    rw [List.append_assoc]; exact parse_both hs h0 h1 (by omega) (by omega)
  repeat (first
    | (show _ ∧ _; exact ⟨rfl, rfl, rfl⟩)
    | refine wkN ?_
    | refine Bs.all ?_
    | (show QOk _ _ _ _ _ _ _; refine QOk.build rfl rfl Nf.auto ?_)
    | (show OpOk _ _ _ _ _ _ _; first | refine opB (fun b => ?_) | refine opA (fun a' c' hc1 hc2 => ?_))
    | (show GJ _ _ _ _ _ _ _; first | refine GJ.t (by decide) ?_ | refine GJ.f (by decide) ?_ | refine GJ.ft (by decide) ?_ | refine GJ.ff (by decide) ?_)
    | (show Br _ _ _; first | refine Br.t (by decide) ?_ | refine Br.f (by decide) ?_)
    | (show GJ _ _ _ _ _ _ _; first | (apply GJ.and; exact rfl; intro hg) | (apply GJ.or; exact rfl; intro hg)))
  refine FR.free [FR.Th.val 40 (.agg (setV s).toArray), FR.Th.val 41 (str (textD s)), FR.Th.val 42 (str (textD s ++ [124])), FR.Th.val 43 (.agg (setV s).toArray), FR.Th.val 44 (.agg (setV s.not).toArray), FR.Th.val 45 (str (textD s.not)), FR.Th.val 46 (str (textD s ++ [124] ++ textD s.not)), FR.Th.any 47 (fun r v => ∃ w, RgOk r (altD' [oneD s, oneD s.not]) w ∧ v = .tuple #[.agg w.toArray, .agg (faultV (0, 0)).toArray]) (fun _ _ _ hl ⟨w, h, e⟩ => ⟨w, h.le hl, e⟩), FR.Th.any 39 (fun r v => ∃ w, RgOk r (altD' [oneD s, oneD s.not]) w ∧ v = .tuple #[.agg w.toArray, .agg (faultV (0, 0)).toArray]) (fun _ _ _ hl ⟨w, h, e⟩ => ⟨w, h.le hl, e⟩), FR.Th.any 48 (fun r v => ∃ w, RgOk r (altD' [oneD s, oneD s.not]) w ∧ v = .agg w.toArray) (fun _ _ _ hl ⟨w, h, e⟩ => ⟨w, h.le hl, e⟩), FR.Th.val 49 (.agg (faultV (0, 0)).toArray), FR.Th.new 5 0 (fun b => [.blk b 53 [.int .i64 0, .int .u64 0, .int .u64 0, .int .u64 0, .int .u64 0, .slice none 0 0, .int .i64 0, .int .i64 0]]), FR.Th.new 6 1 (fun b => [.blk b 31 [.int .i64 0, .int .i64 0]]), FR.Th.put 5 0 48 (fun b v => [.blk b 53 (aggL v)]), FR.Th.set 6 1 (fun b => [.blk b 31 [.int .i64 0, .int .i64 0]])] 2 (fun _ => []) _ Keep.auto (Sup.all _) rfl rfl (by rfl) (by kernel_rfl) ?_ ?_
  · refine ⟨?_, ?_, ?_, ?_, ?_, ?_, ?_, ?_, ?_, ?_, ?_, ?_, ?_, ?_, ?_, trivial⟩
    · intro rc env c F hle h0 hp hb
      subst hb
      refine ⟨_, h0, ?_⟩
      dsimp only [List.cons_append, List.nil_append]
      repeat (first | (show _ ∧ _; exact ⟨rfl, rfl, rfl⟩) | refine wkN ?_ | (show OpOk _ _ _ _ _ _ _; refine opB (fun b => ?_)))
      exact ⟨Le.refl _, rfl, [], rfl, Sup.all _⟩
    · intro rc env c F hle h0 hp hb
      subst hb
      have h40 : E.look env 40 = some (.agg (setV s).toArray) := (by first | exact hp.1 | exact hp.2.1 | exact hp.2.2.1 | exact hp.2.2.2.1 | exact hp.2.2.2.2.1 | exact hp.2.2.2.2.2.1 | exact hp.2.2.2.2.2.2.1 | exact hp.2.2.2.2.2.2.2.1 | exact hp.2.2.2.2.2.2.2.2.1 | exact hp.2.2.2.2.2.2.2.2.2.1 | exact hp.2.2.2.2.2.2.2.2.2.2.1 | exact hp.2.2.2.2.2.2.2.2.2.2.2.1)
      refine ⟨_, (Sub2.cons h40 h0), ?_⟩
      dsimp only [List.cons_append, List.nil_append]
      repeat (first | (show _ ∧ _; exact ⟨rfl, rfl, rfl⟩) | refine wkN ?_ | (show OpOk _ _ _ _ _ _ _; refine opB (fun b => ?_)))
      refine text_ok ((ht.le hl1).le hle) hs ?_
      repeat (first | (show _ ∧ _; exact ⟨rfl, rfl, rfl⟩) | refine wkN ?_ | (show OpOk _ _ _ _ _ _ _; refine opB (fun b => ?_)))
      exact ⟨Le.refl _, rfl, [], rfl, Sup.all _⟩
    · intro rc env c F hle h0 hp hb
      subst hb
      have h41 : E.look env 41 = some (str (textD s)) := (by first | exact hp.1 | exact hp.2.1 | exact hp.2.2.1 | exact hp.2.2.2.1 | exact hp.2.2.2.2.1 | exact hp.2.2.2.2.2.1 | exact hp.2.2.2.2.2.2.1 | exact hp.2.2.2.2.2.2.2.1 | exact hp.2.2.2.2.2.2.2.2.1 | exact hp.2.2.2.2.2.2.2.2.2.1 | exact hp.2.2.2.2.2.2.2.2.2.2.1 | exact hp.2.2.2.2.2.2.2.2.2.2.2.1)
      refine ⟨_, (Sub2.cons h41 h0), ?_⟩
      dsimp only [List.cons_append, List.nil_append]
      repeat (first | (show _ ∧ _; exact ⟨rfl, rfl, rfl⟩) | refine wkN ?_ | (show OpOk _ _ _ _ _ _ _; refine opB (fun b => ?_)))
      exact ⟨by have e1 : ([124] : List UInt8).length = 1 := rfl; omega, Le.refl _, rfl, [], rfl, Sup.all _⟩
    · intro rc env c F hle h0 hp hb
      subst hb
      refine ⟨_, h0, ?_⟩
      dsimp only [List.cons_append, List.nil_append]
      repeat (first | (show _ ∧ _; exact ⟨rfl, rfl, rfl⟩) | refine wkN ?_ | (show OpOk _ _ _ _ _ _ _; refine opB (fun b => ?_)))
      exact ⟨Le.refl _, rfl, [], rfl, Sup.all _⟩
    · intro rc env c F hle h0 hp hb
      subst hb
      have h43 : E.look env 43 = some (.agg (setV s).toArray) := (by first | exact hp.1 | exact hp.2.1 | exact hp.2.2.1 | exact hp.2.2.2.1 | exact hp.2.2.2.2.1 | exact hp.2.2.2.2.2.1 | exact hp.2.2.2.2.2.2.1 | exact hp.2.2.2.2.2.2.2.1 | exact hp.2.2.2.2.2.2.2.2.1 | exact hp.2.2.2.2.2.2.2.2.2.1 | exact hp.2.2.2.2.2.2.2.2.2.2.1 | exact hp.2.2.2.2.2.2.2.2.2.2.2.1)
      refine ⟨_, (Sub2.cons h43 h0), ?_⟩
      dsimp only [List.cons_append, List.nil_append]
      repeat (first | (show _ ∧ _; exact ⟨rfl, rfl, rfl⟩) | refine wkN ?_ | (show OpOk _ _ _ _ _ _ _; refine opB (fun b => ?_)))
      refine not_ok hs ?_
      repeat (first | (show _ ∧ _; exact ⟨rfl, rfl, rfl⟩) | refine wkN ?_ | (show OpOk _ _ _ _ _ _ _; refine opB (fun b => ?_)))
      exact ⟨Le.refl _, rfl, [], rfl, Sup.all _⟩
    · intro rc env c F hle h0 hp hb
      subst hb
      have h44 : E.look env 44 = some (.agg (setV s.not).toArray) := (by first | exact hp.1 | exact hp.2.1 | exact hp.2.2.1 | exact hp.2.2.2.1 | exact hp.2.2.2.2.1 | exact hp.2.2.2.2.2.1 | exact hp.2.2.2.2.2.2.1 | exact hp.2.2.2.2.2.2.2.1 | exact hp.2.2.2.2.2.2.2.2.1 | exact hp.2.2.2.2.2.2.2.2.2.1 | exact hp.2.2.2.2.2.2.2.2.2.2.1 | exact hp.2.2.2.2.2.2.2.2.2.2.2.1)
      refine ⟨_, (Sub2.cons h44 h0), ?_⟩
      dsimp only [List.cons_append, List.nil_append]
      repeat (first | (show _ ∧ _; exact ⟨rfl, rfl, rfl⟩) | refine wkN ?_ | (show OpOk _ _ _ _ _ _ _; refine opB (fun b => ?_)))
      refine text_ok ((ht.le hl1).le hle) (SetIn.not s) ?_
      repeat (first | (show _ ∧ _; exact ⟨rfl, rfl, rfl⟩) | refine wkN ?_ | (show OpOk _ _ _ _ _ _ _; refine opB (fun b => ?_)))
      exact ⟨Le.refl _, rfl, [], rfl, Sup.all _⟩
    · intro rc env c F hle h0 hp hb
      subst hb
      have h42 : E.look env 42 = some (str (textD s ++ [124])) := (by first | exact hp.1 | exact hp.2.1 | exact hp.2.2.1 | exact hp.2.2.2.1 | exact hp.2.2.2.2.1 | exact hp.2.2.2.2.2.1 | exact hp.2.2.2.2.2.2.1 | exact hp.2.2.2.2.2.2.2.1 | exact hp.2.2.2.2.2.2.2.2.1 | exact hp.2.2.2.2.2.2.2.2.2.1 | exact hp.2.2.2.2.2.2.2.2.2.2.1 | exact hp.2.2.2.2.2.2.2.2.2.2.2.1)
      have h45 : E.look env 45 = some (str (textD s.not)) := (by first | exact hp.1 | exact hp.2.1 | exact hp.2.2.1 | exact hp.2.2.2.1 | exact hp.2.2.2.2.1 | exact hp.2.2.2.2.2.1 | exact hp.2.2.2.2.2.2.1 | exact hp.2.2.2.2.2.2.2.1 | exact hp.2.2.2.2.2.2.2.2.1 | exact hp.2.2.2.2.2.2.2.2.2.1 | exact hp.2.2.2.2.2.2.2.2.2.2.1 | exact hp.2.2.2.2.2.2.2.2.2.2.2.1)
      refine ⟨_, (Sub2.cons h42 (Sub2.cons h45 h0)), ?_⟩
      dsimp only [List.cons_append, List.nil_append]
      repeat (first | (show _ ∧ _; exact ⟨rfl, rfl, rfl⟩) | refine wkN ?_ | (show OpOk _ _ _ _ _ _ _; refine opB (fun b => ?_)))
      exact ⟨by rw [List.length_append]; have e1 : ([124] : List UInt8).length = 1 := rfl; omega, Le.refl _, rfl, [], rfl, Sup.all _⟩
    · intro rc env c F hle h0 hp hb
      subst hb
      have h46 : E.look env 46 = some (str (textD s ++ [124] ++ textD s.not)) := (by first | exact hp.1 | exact hp.2.1 | exact hp.2.2.1 | exact hp.2.2.2.1 | exact hp.2.2.2.2.1 | exact hp.2.2.2.2.2.1 | exact hp.2.2.2.2.2.2.1 | exact hp.2.2.2.2.2.2.2.1 | exact hp.2.2.2.2.2.2.2.2.1 | exact hp.2.2.2.2.2.2.2.2.2.1 | exact hp.2.2.2.2.2.2.2.2.2.2.1 | exact hp.2.2.2.2.2.2.2.2.2.2.2.1)
      refine ⟨_, (Sub2.cons h46 h0), ?_⟩
      dsimp only [List.cons_append, List.nil_append]
      repeat (first | (show _ ∧ _; exact ⟨rfl, rfl, rfl⟩) | refine wkN ?_ | (show OpOk _ _ _ _ _ _ _; refine opB (fun b => ?_)))
      refine rparse_ok (by rw [List.length_append, List.length_append]; have e1 : ([124] : List UInt8).length = 1 := rfl; omega) (fun ro2 v hl2 hv => ?_)
      rw [epar] at hv ⊢
      repeat (first | (show _ ∧ _; exact ⟨rfl, rfl, rfl⟩) | refine wkN ?_ | (show OpOk _ _ _ _ _ _ _; refine opB (fun b => ?_)))
      exact ⟨⟨_, rfl, _, hv, rfl⟩, [], rfl, Sup.all _⟩
    · intro rc env c F hle h0 hp hb
      subst hb
      obtain ⟨_, h47, w, hw, rfl⟩ : ∃ v, E.look env 47 = some v ∧ ∃ w, RgOk rc (altD' [oneD s, oneD s.not]) w ∧ v = .tuple #[.agg w.toArray, .agg (faultV (0, 0)).toArray] := (by first | exact hp.1 | exact hp.2.1 | exact hp.2.2.1 | exact hp.2.2.2.1 | exact hp.2.2.2.2.1 | exact hp.2.2.2.2.2.1 | exact hp.2.2.2.2.2.2.1 | exact hp.2.2.2.2.2.2.2.1 | exact hp.2.2.2.2.2.2.2.2.1 | exact hp.2.2.2.2.2.2.2.2.2.1 | exact hp.2.2.2.2.2.2.2.2.2.2.1 | exact hp.2.2.2.2.2.2.2.2.2.2.2.1)
      refine ⟨_, (Sub2.cons h47 h0), ?_⟩
      dsimp only [List.cons_append, List.nil_append]
      repeat (first | (show _ ∧ _; exact ⟨rfl, rfl, rfl⟩) | refine wkN ?_ | (show OpOk _ _ _ _ _ _ _; refine opB (fun b => ?_)))
      exact ⟨Le.refl _, ⟨_, rfl, _, hw, rfl⟩, [], rfl, Sup.all _⟩
    · intro rc env c F hle h0 hp hb
      subst hb
      obtain ⟨_, h39, w, hw, rfl⟩ : ∃ v, E.look env 39 = some v ∧ ∃ w, RgOk rc (altD' [oneD s, oneD s.not]) w ∧ v = .tuple #[.agg w.toArray, .agg (faultV (0, 0)).toArray] := (by first | exact hp.1 | exact hp.2.1 | exact hp.2.2.1 | exact hp.2.2.2.1 | exact hp.2.2.2.2.1 | exact hp.2.2.2.2.2.1 | exact hp.2.2.2.2.2.2.1 | exact hp.2.2.2.2.2.2.2.1 | exact hp.2.2.2.2.2.2.2.2.1 | exact hp.2.2.2.2.2.2.2.2.2.1 | exact hp.2.2.2.2.2.2.2.2.2.2.1 | exact hp.2.2.2.2.2.2.2.2.2.2.2.1)
      refine ⟨_, (Sub2.cons h39 h0), ?_⟩
      dsimp only [List.cons_append, List.nil_append]
      repeat (first | (show _ ∧ _; exact ⟨rfl, rfl, rfl⟩) | refine wkN ?_ | (show OpOk _ _ _ _ _ _ _; refine opB (fun b => ?_)))
      exact ⟨Le.refl _, ⟨_, rfl, _, hw, rfl⟩, [], rfl, Sup.all _⟩
    · intro rc env c F hle h0 hp hb
      subst hb
      obtain ⟨_, h39, w, hw, rfl⟩ : ∃ v, E.look env 39 = some v ∧ ∃ w, RgOk rc (altD' [oneD s, oneD s.not]) w ∧ v = .tuple #[.agg w.toArray, .agg (faultV (0, 0)).toArray] := (by first | exact hp.1 | exact hp.2.1 | exact hp.2.2.1 | exact hp.2.2.2.1 | exact hp.2.2.2.2.1 | exact hp.2.2.2.2.2.1 | exact hp.2.2.2.2.2.2.1 | exact hp.2.2.2.2.2.2.2.1 | exact hp.2.2.2.2.2.2.2.2.1 | exact hp.2.2.2.2.2.2.2.2.2.1 | exact hp.2.2.2.2.2.2.2.2.2.2.1 | exact hp.2.2.2.2.2.2.2.2.2.2.2.1)
      refine ⟨_, (Sub2.cons h39 h0), ?_⟩
      dsimp only [List.cons_append, List.nil_append]
      repeat (first | (show _ ∧ _; exact ⟨rfl, rfl, rfl⟩) | refine wkN ?_ | (show OpOk _ _ _ _ _ _ _; refine opB (fun b => ?_)))
      exact ⟨Le.refl _, rfl, [], rfl, Sup.all _⟩
    · intro rc env c F hle h0 hp hb
      obtain rfl : c = [] := hb
      refine ⟨_, h0, ?_⟩
      dsimp only [List.cons_append, List.nil_append]
      repeat (first | (show _ ∧ _; exact ⟨rfl, rfl, rfl⟩) | refine wkN ?_ | (show OpOk _ _ _ _ _ _ _; refine opB (fun b => ?_)))
      exact ⟨Le.refl _, ⟨_, rfl⟩, [.blk b 53 [.int .i64 0, .int .u64 0, .int .u64 0, .int .u64 0, .int .u64 0, .slice none 0 0, .int .i64 0, .int .i64 0]], ⟨_, rfl, rfl⟩, Sup.all _⟩
    · intro rc env c F hle h0 hp hb
      obtain rfl : c = [] := hb
      refine ⟨_, h0, ?_⟩
      dsimp only [List.cons_append, List.nil_append]
      repeat (first | (show _ ∧ _; exact ⟨rfl, rfl, rfl⟩) | refine wkN ?_ | (show OpOk _ _ _ _ _ _ _; refine opB (fun b => ?_)))
      exact ⟨Le.refl _, ⟨_, rfl⟩, [.blk b 31 [.int .i64 0, .int .i64 0]], ⟨_, rfl, rfl⟩, Sup.all _⟩
    · intro rc env c F hle h0 hp hb
      obtain ⟨b, hb1, rfl⟩ : ∃ b, E.look env 5 = some (ptr' b) ∧ c = [.blk b 53 [.int .i64 0, .int .u64 0, .int .u64 0, .int .u64 0, .int .u64 0, .slice none 0 0, .int .i64 0, .int .i64 0]] := hb
      obtain ⟨_, h48, w, hw, rfl⟩ : ∃ v, E.look env 48 = some v ∧ ∃ w, RgOk rc (altD' [oneD s, oneD s.not]) w ∧ v = .agg w.toArray := (by first | exact hp.1 | exact hp.2.1 | exact hp.2.2.1 | exact hp.2.2.2.1 | exact hp.2.2.2.2.1 | exact hp.2.2.2.2.2.1 | exact hp.2.2.2.2.2.2.1 | exact hp.2.2.2.2.2.2.2.1 | exact hp.2.2.2.2.2.2.2.2.1 | exact hp.2.2.2.2.2.2.2.2.2.1 | exact hp.2.2.2.2.2.2.2.2.2.2.1 | exact hp.2.2.2.2.2.2.2.2.2.2.2.1)
      obtain ⟨aw, cw, rfl⟩ := hw.cells
      refine ⟨_, (Sub2.cons hb1 (Sub2.cons h48 h0)), ?_⟩
      dsimp only [List.cons_append, List.nil_append]
      repeat (first | (show _ ∧ _; exact ⟨rfl, rfl, rfl⟩) | refine wkN ?_ | (show OpOk _ _ _ _ _ _ _; refine opB (fun b => ?_)))
      exact ⟨Le.refl _, trivial, _, ⟨_, _, rfl, rfl, rfl⟩, Sup.all _⟩
    · intro rc env c F hle h0 hp hb
      obtain ⟨b, hb1, rfl⟩ : ∃ b, E.look env 6 = some (ptr' b) ∧ c = [.blk b 31 [.int .i64 0, .int .i64 0]] := hb
      have h49 : E.look env 49 = some (.agg (faultV (0, 0)).toArray) := (by first | exact hp.1 | exact hp.2.1 | exact hp.2.2.1 | exact hp.2.2.2.1 | exact hp.2.2.2.2.1 | exact hp.2.2.2.2.2.1 | exact hp.2.2.2.2.2.2.1 | exact hp.2.2.2.2.2.2.2.1 | exact hp.2.2.2.2.2.2.2.2.1 | exact hp.2.2.2.2.2.2.2.2.2.1 | exact hp.2.2.2.2.2.2.2.2.2.2.1 | exact hp.2.2.2.2.2.2.2.2.2.2.2.1)
      refine ⟨_, (Sub2.cons hb1 (Sub2.cons h49 h0)), ?_⟩
      dsimp only [List.cons_append, List.nil_append]
      repeat (first | (show _ ∧ _; exact ⟨rfl, rfl, rfl⟩) | refine wkN ?_ | (show OpOk _ _ _ _ _ _ _; refine opB (fun b => ?_)))
      exact ⟨Le.refl _, trivial, [.blk b 31 [.int .i64 0, .int .i64 0]], ⟨_, rfl, rfl⟩, Sup.all _⟩
  · intro ro2 env cs hle h0 hp hf
    obtain ⟨⟨b5, v, e5, e48, c0⟩, ⟨b6, e6, c1⟩, _⟩ : (∃ b v, E.look env 5 = some (ptr' b) ∧ E.look env 48 = some v ∧ cs 0 = [.blk b 53 (aggL v)]) ∧ (∃ b, E.look env 6 = some (ptr' b) ∧ cs 1 = [.blk b 31 [.int .i64 0, .int .i64 0]]) ∧ True := hf
    obtain ⟨v', e48', w, hw, rfl⟩ : ∃ v, E.look env 48 = some v ∧ ∃ w, RgOk ro2 (altD' [oneD s, oneD s.not]) w ∧ v = .agg w.toArray := (by first | exact hp.1 | exact hp.2.1 | exact hp.2.2.1 | exact hp.2.2.2.1 | exact hp.2.2.2.2.1 | exact hp.2.2.2.2.2.1 | exact hp.2.2.2.2.2.2.1 | exact hp.2.2.2.2.2.2.2.1 | exact hp.2.2.2.2.2.2.2.2.1 | exact hp.2.2.2.2.2.2.2.2.2.1 | exact hp.2.2.2.2.2.2.2.2.2.2.1 | exact hp.2.2.2.2.2.2.2.2.2.2.2.1)
    rw [e48] at e48'
    cases e48'
    refine ⟨_, Sub2.cons e5 (Sub2.cons e6 h0), ?_⟩
    have hcat : catN cs 0 2 = [.blk b5 53 w, .blk b6 31 [.int .i64 0, .int .i64 0]] := by
      show cs 0 ++ (cs 1 ++ []) = _
      rw [c0, c1]; rfl
    rw [hcat]
    clear hcat hp h0 e5 e6 e48 c0 c1
    obtain ⟨a1, c1, w1, u1, rfl, hrs, hw1, hu1⟩ := RgOk.two hw
    obtain ⟨a2, c2, rfl⟩ := hw1.cells
    obtain ⟨a3, c3, rfl⟩ := hu1.cells
    have hrd := hrs
    dsimp only [List.cons_append, List.nil_append, oneD, RgD.kind, RgD.set, RgD.min, RgD.max, RgD.kids, nodeV] at hrs ⊢
    repeat (first
      | refine SeqOk.pass ?_
      | (show _ ∧ _; exact ⟨rfl, rfl, rfl⟩)
      | refine wkT ?_
      | refine Bs.all ?_
      | (show RetOk _ _ _ _ _ _; refine RetOk.of (T := T) (RL.row rfl rfl LdN.hasBlk (by rfl) (RL.tmp rfl (RL.tmp rfl RL.nil))) ?_)
      | (show QOk _ _ _ _ _ _ _; refine QOk.build rfl rfl Nf.auto ?_)
      | (show OpOk _ _ _ _ _ _ _; first | refine opB (fun b => ?_) | refine opA (fun a' c' hc1 hc2 => ?_))
      | (show GJ _ _ _ _ _ _ _; first | refine GJ.t (by decide) ?_ | refine GJ.f (by decide) ?_ | refine GJ.ft (by decide) ?_ | refine GJ.ff (by decide) ?_)
      | (show Br _ _ _; first | refine Br.t (by decide) ?_ | refine Br.f (by decide) ?_)
      | (show GJ _ _ _ _ _ _ _; first | (apply GJ.and; exact rfl; intro hg) | (apply GJ.or; exact rfl; intro hg)))
    refine QOk.loadRow rfl rfl (LdN.at (k := 1) (z := 4) (vs := setV s) hrs rfl) rfl ?_
    repeat (first
      | refine SeqOk.pass ?_
      | (show _ ∧ _; exact ⟨rfl, rfl, rfl⟩)
      | refine wkT ?_
      | refine Bs.all ?_
      | (show RetOk _ _ _ _ _ _; refine RetOk.of (T := T) (RL.row rfl rfl LdN.hasBlk (by rfl) (RL.tmp rfl (RL.tmp rfl RL.nil))) ?_)
      | (show QOk _ _ _ _ _ _ _; refine QOk.build rfl rfl Nf.auto ?_)
      | (show OpOk _ _ _ _ _ _ _; first | refine opB (fun b => ?_) | refine opA (fun a' c' hc1 hc2 => ?_))
      | (show GJ _ _ _ _ _ _ _; first | refine GJ.t (by decide) ?_ | refine GJ.f (by decide) ?_ | refine GJ.ft (by decide) ?_ | refine GJ.ff (by decide) ?_)
      | (show Br _ _ _; first | refine Br.t (by decide) ?_ | refine Br.f (by decide) ?_)
      | (show GJ _ _ _ _ _ _ _; first | (apply GJ.and; exact rfl; intro hg) | (apply GJ.or; exact rfl; intro hg)))
    refine QOk.neqArr4 (e := 33) rfl rfl (by kernel_rfl) (by kernel_rfl) (by kernel_rfl) (by kernel_rfl) ?_
    rw [four_eq']
    repeat (first
      | refine SeqOk.pass ?_
      | (show _ ∧ _; exact ⟨rfl, rfl, rfl⟩)
      | refine wkT ?_
      | refine Bs.all ?_
      | (show RetOk _ _ _ _ _ _; refine RetOk.of (T := T) (RL.row rfl rfl LdN.hasBlk (by rfl) (RL.tmp rfl (RL.tmp rfl RL.nil))) ?_)
      | (show QOk _ _ _ _ _ _ _; refine QOk.build rfl rfl Nf.auto ?_)
      | (show OpOk _ _ _ _ _ _ _; first | refine opB (fun b => ?_) | refine opA (fun a' c' hc1 hc2 => ?_))
      | (show GJ _ _ _ _ _ _ _; first | refine GJ.t (by decide) ?_ | refine GJ.f (by decide) ?_ | refine GJ.ft (by decide) ?_ | refine GJ.ff (by decide) ?_)
      | (show Br _ _ _; first | refine Br.t (by decide) ?_ | refine Br.f (by decide) ?_)
      | (show GJ _ _ _ _ _ _ _; first | (apply GJ.and; exact rfl; intro hg) | (apply GJ.or; exact rfl; intro hg)))
    refine QOk.loadRow rfl rfl (LdN.at (k := 9) (z := 4) (vs := setV s.not) hrs rfl) rfl ?_
    repeat (first
      | refine SeqOk.pass ?_
      | (show _ ∧ _; exact ⟨rfl, rfl, rfl⟩)
      | refine wkT ?_
      | refine Bs.all ?_
      | (show RetOk _ _ _ _ _ _; refine RetOk.of (T := T) (RL.row rfl rfl LdN.hasBlk (by rfl) (RL.tmp rfl (RL.tmp rfl RL.nil))) ?_)
      | (show QOk _ _ _ _ _ _ _; refine QOk.build rfl rfl Nf.auto ?_)
      | (show OpOk _ _ _ _ _ _ _; first | refine opB (fun b => ?_) | refine opA (fun a' c' hc1 hc2 => ?_))
      | (show GJ _ _ _ _ _ _ _; first | refine GJ.t (by decide) ?_ | refine GJ.f (by decide) ?_ | refine GJ.ft (by decide) ?_ | refine GJ.ff (by decide) ?_)
      | (show Br _ _ _; first | refine Br.t (by decide) ?_ | refine Br.f (by decide) ?_)
      | (show GJ _ _ _ _ _ _ _; first | (apply GJ.and; exact rfl; intro hg) | (apply GJ.or; exact rfl; intro hg)))
    refine not_ok hs ?_
    repeat (first
      | refine SeqOk.pass ?_
      | (show _ ∧ _; exact ⟨rfl, rfl, rfl⟩)
      | refine wkT ?_
      | refine Bs.all ?_
      | (show RetOk _ _ _ _ _ _; refine RetOk.of (T := T) (RL.row rfl rfl LdN.hasBlk (by rfl) (RL.tmp rfl (RL.tmp rfl RL.nil))) ?_)
      | (show QOk _ _ _ _ _ _ _; refine QOk.build rfl rfl Nf.auto ?_)
      | (show OpOk _ _ _ _ _ _ _; first | refine opB (fun b => ?_) | refine opA (fun a' c' hc1 hc2 => ?_))
      | (show GJ _ _ _ _ _ _ _; first | refine GJ.t (by decide) ?_ | refine GJ.f (by decide) ?_ | refine GJ.ft (by decide) ?_ | refine GJ.ff (by decide) ?_)
      | (show Br _ _ _; first | refine Br.t (by decide) ?_ | refine Br.f (by decide) ?_)
      | (show GJ _ _ _ _ _ _ _; first | (apply GJ.and; exact rfl; intro hg) | (apply GJ.or; exact rfl; intro hg)))
    refine QOk.neqArr4 (e := 33) rfl rfl (by kernel_rfl) (by kernel_rfl) (by kernel_rfl) (by kernel_rfl) ?_
    rw [four_eq']
    repeat (first
      | refine SeqOk.pass ?_
      | (show _ ∧ _; exact ⟨rfl, rfl, rfl⟩)
      | refine wkT ?_
      | refine Bs.all ?_
      | (show RetOk _ _ _ _ _ _; refine RetOk.of (T := T) (RL.row rfl rfl LdN.hasBlk (by rfl) (RL.tmp rfl (RL.tmp rfl RL.nil))) ?_)
      | (show QOk _ _ _ _ _ _ _; refine QOk.build rfl rfl Nf.auto ?_)
      | (show OpOk _ _ _ _ _ _ _; first | refine opB (fun b => ?_) | refine opA (fun a' c' hc1 hc2 => ?_))
      | (show GJ _ _ _ _ _ _ _; first | refine GJ.t (by decide) ?_ | refine GJ.f (by decide) ?_ | refine GJ.ft (by decide) ?_ | refine GJ.ff (by decide) ?_)
      | (show Br _ _ _; first | refine Br.t (by decide) ?_ | refine Br.f (by decide) ?_)
      | (show GJ _ _ _ _ _ _ _; first | (apply GJ.and; exact rfl; intro hg) | (apply GJ.or; exact rfl; intro hg)))
    have ht2 : TabOk ro2 := (ht.le hl1).le hle
    refine text_ok ht2 hs ?_
    repeat (first
      | refine SeqOk.pass ?_
      | (show _ ∧ _; exact ⟨rfl, rfl, rfl⟩)
      | refine wkT ?_
      | refine Bs.all ?_
      | (show RetOk _ _ _ _ _ _; refine RetOk.of (T := T) (RL.row rfl rfl LdN.hasBlk (by rfl) (RL.tmp rfl (RL.tmp rfl RL.nil))) ?_)
      | (show QOk _ _ _ _ _ _ _; refine QOk.build rfl rfl Nf.auto ?_)
      | (show OpOk _ _ _ _ _ _ _; first | refine opB (fun b => ?_) | refine opA (fun a' c' hc1 hc2 => ?_))
      | (show GJ _ _ _ _ _ _ _; first | refine GJ.t (by decide) ?_ | refine GJ.f (by decide) ?_ | refine GJ.ft (by decide) ?_ | refine GJ.ff (by decide) ?_)
      | (show Br _ _ _; first | refine Br.t (by decide) ?_ | refine Br.f (by decide) ?_)
      | (show GJ _ _ _ _ _ _ _; first | (apply GJ.and; exact rfl; intro hg) | (apply GJ.or; exact rfl; intro hg)))
    refine ⟨by have e1 : ([123, 51, 125] : List UInt8).length = 3 := rfl; omega, ?_⟩
    repeat (first
      | refine SeqOk.pass ?_
      | (show _ ∧ _; exact ⟨rfl, rfl, rfl⟩)
      | refine wkT ?_
      | refine Bs.all ?_
      | (show RetOk _ _ _ _ _ _; refine RetOk.of (T := T) (RL.row rfl rfl LdN.hasBlk (by rfl) (RL.tmp rfl (RL.tmp rfl RL.nil))) ?_)
      | (show QOk _ _ _ _ _ _ _; refine QOk.build rfl rfl Nf.auto ?_)
      | (show OpOk _ _ _ _ _ _ _; first | refine opB (fun b => ?_) | refine opA (fun a' c' hc1 hc2 => ?_))
      | (show GJ _ _ _ _ _ _ _; first | refine GJ.t (by decide) ?_ | refine GJ.f (by decide) ?_ | refine GJ.ft (by decide) ?_ | refine GJ.ff (by decide) ?_)
      | (show Br _ _ _; first | refine Br.t (by decide) ?_ | refine Br.f (by decide) ?_)
      | (show GJ _ _ _ _ _ _ _; first | (apply GJ.and; exact rfl; intro hg) | (apply GJ.or; exact rfl; intro hg)))
    refine name_ok hcu ?_
    repeat (first
      | refine SeqOk.pass ?_
      | (show _ ∧ _; exact ⟨rfl, rfl, rfl⟩)
      | refine wkT ?_
      | refine Bs.all ?_
      | (show RetOk _ _ _ _ _ _; refine RetOk.of (T := T) (RL.row rfl rfl LdN.hasBlk (by rfl) (RL.tmp rfl (RL.tmp rfl RL.nil))) ?_)
      | (show QOk _ _ _ _ _ _ _; refine QOk.build rfl rfl Nf.auto ?_)
      | (show OpOk _ _ _ _ _ _ _; first | refine opB (fun b => ?_) | refine opA (fun a' c' hc1 hc2 => ?_))
      | (show GJ _ _ _ _ _ _ _; first | refine GJ.t (by decide) ?_ | refine GJ.f (by decide) ?_ | refine GJ.ft (by decide) ?_ | refine GJ.ff (by decide) ?_)
      | (show Br _ _ _; first | refine Br.t (by decide) ?_ | refine Br.f (by decide) ?_)
      | (show GJ _ _ _ _ _ _ _; first | (apply GJ.and; exact rfl; intro hg) | (apply GJ.or; exact rfl; intro hg)))
    refine ⟨by rw [List.length_append]; have e1 : ([123, 51, 125] : List UInt8).length = 3 := rfl; omega, ?_⟩
    repeat (first
      | refine SeqOk.pass ?_
      | (show _ ∧ _; exact ⟨rfl, rfl, rfl⟩)
      | refine wkT ?_
      | refine Bs.all ?_
      | (show RetOk _ _ _ _ _ _; refine RetOk.of (T := T) (RL.row rfl rfl LdN.hasBlk (by rfl) (RL.tmp rfl (RL.tmp rfl RL.nil))) ?_)
      | (show QOk _ _ _ _ _ _ _; refine QOk.build rfl rfl Nf.auto ?_)
      | (show OpOk _ _ _ _ _ _ _; first | refine opB (fun b => ?_) | refine opA (fun a' c' hc1 hc2 => ?_))
      | (show GJ _ _ _ _ _ _ _; first | refine GJ.t (by decide) ?_ | refine GJ.f (by decide) ?_ | refine GJ.ft (by decide) ?_ | refine GJ.ff (by decide) ?_)
      | (show Br _ _ _; first | refine Br.t (by decide) ?_ | refine Br.f (by decide) ?_)
      | (show GJ _ _ _ _ _ _ _; first | (apply GJ.and; exact rfl; intro hg) | (apply GJ.or; exact rfl; intro hg)))
    have epar2 : parseD (textD s ++ [123, 51, 125] ++ nameD c) = (threeD s c, (0, 0)) := by
      rw [List.append_assoc]; exact parse_three hc hs h0 (by omega)
    refine rparse_ok (by rw [List.length_append, List.length_append]; have e1 : ([123, 51, 125] : List UInt8).length = 3 := rfl; omega) (fun ro3 v hl3 hv => ?_)
    rw [epar2] at hv ⊢
    obtain ⟨a4, c4, w4, u4, rfl, hrt, hw4, hu4⟩ := RgOk.two hv
    have hv4 := hv
    obtain ⟨a5, c5, rfl⟩ := hw4.cells
    obtain ⟨a6, c6, rfl⟩ := hu4.cells
    dsimp only [List.cons_append, List.nil_append, oneD, repD, RgD.kind, RgD.set, RgD.min, RgD.max, RgD.kids, nodeV] at hrt ⊢
    repeat (first
      | refine SeqOk.pass ?_
      | (show _ ∧ _; exact ⟨rfl, rfl, rfl⟩)
      | refine wkT ?_
      | refine Bs.all ?_
      | (show RetOk _ _ _ _ _ _; refine RetOk.of (T := T) (RL.row rfl rfl LdN.hasBlk (by rfl) (RL.tmp rfl (RL.tmp rfl RL.nil))) ?_)
      | (show QOk _ _ _ _ _ _ _; refine QOk.build rfl rfl Nf.auto ?_)
      | (show OpOk _ _ _ _ _ _ _; first | refine opB (fun b => ?_) | refine opA (fun a' c' hc1 hc2 => ?_))
      | (show GJ _ _ _ _ _ _ _; first | refine GJ.t (by decide) ?_ | refine GJ.f (by decide) ?_ | refine GJ.ft (by decide) ?_ | refine GJ.ff (by decide) ?_)
      | (show Br _ _ _; first | refine Br.t (by decide) ?_ | refine Br.f (by decide) ?_)
      | (show GJ _ _ _ _ _ _ _; first | (apply GJ.and; exact rfl; intro hg) | (apply GJ.or; exact rfl; intro hg)))
    refine QOk.load rfl rfl (Ld.rs (k := 6) hrt rfl) ?_
    repeat (first
      | refine SeqOk.pass ?_
      | (show _ ∧ _; exact ⟨rfl, rfl, rfl⟩)
      | refine wkT ?_
      | refine Bs.all ?_
      | (show RetOk _ _ _ _ _ _; refine RetOk.of (T := T) (RL.row rfl rfl LdN.hasBlk (by rfl) (RL.tmp rfl (RL.tmp rfl RL.nil))) ?_)
      | (show QOk _ _ _ _ _ _ _; refine QOk.build rfl rfl Nf.auto ?_)
      | (show OpOk _ _ _ _ _ _ _; first | refine opB (fun b => ?_) | refine opA (fun a' c' hc1 hc2 => ?_))
      | (show GJ _ _ _ _ _ _ _; first | refine GJ.t (by decide) ?_ | refine GJ.f (by decide) ?_ | refine GJ.ft (by decide) ?_ | refine GJ.ff (by decide) ?_)
      | (show Br _ _ _; first | refine Br.t (by decide) ?_ | refine Br.f (by decide) ?_)
      | (show GJ _ _ _ _ _ _ _; first | (apply GJ.and; exact rfl; intro hg) | (apply GJ.or; exact rfl; intro hg)))
    refine QOk.loadRow rfl rfl (LdN.at (k := 9) (z := 4) (vs := setV (ofD c)) hrt rfl) rfl ?_
    repeat (first
      | refine SeqOk.pass ?_
      | (show _ ∧ _; exact ⟨rfl, rfl, rfl⟩)
      | refine wkT ?_
      | refine Bs.all ?_
      | (show RetOk _ _ _ _ _ _; refine RetOk.of (T := T) (RL.row rfl rfl LdN.hasBlk (by rfl) (RL.tmp rfl (RL.tmp rfl RL.nil))) ?_)
      | (show QOk _ _ _ _ _ _ _; refine QOk.build rfl rfl Nf.auto ?_)
      | (show OpOk _ _ _ _ _ _ _; first | refine opB (fun b => ?_) | refine opA (fun a' c' hc1 hc2 => ?_))
      | (show GJ _ _ _ _ _ _ _; first | refine GJ.t (by decide) ?_ | refine GJ.f (by decide) ?_ | refine GJ.ft (by decide) ?_ | refine GJ.ff (by decide) ?_)
      | (show Br _ _ _; first | refine Br.t (by decide) ?_ | refine Br.f (by decide) ?_)
      | (show GJ _ _ _ _ _ _ _; first | (apply GJ.and; exact rfl; intro hg) | (apply GJ.or; exact rfl; intro hg)))
    refine ofB_ok hc ?_
    repeat (first
      | refine SeqOk.pass ?_
      | (show _ ∧ _; exact ⟨rfl, rfl, rfl⟩)
      | refine wkT ?_
      | refine Bs.all ?_
      | (show RetOk _ _ _ _ _ _; refine RetOk.of (T := T) (RL.row rfl rfl LdN.hasBlk (by rfl) (RL.tmp rfl (RL.tmp rfl RL.nil))) ?_)
      | (show QOk _ _ _ _ _ _ _; refine QOk.build rfl rfl Nf.auto ?_)
      | (show OpOk _ _ _ _ _ _ _; first | refine opB (fun b => ?_) | refine opA (fun a' c' hc1 hc2 => ?_))
      | (show GJ _ _ _ _ _ _ _; first | refine GJ.t (by decide) ?_ | refine GJ.f (by decide) ?_ | refine GJ.ft (by decide) ?_ | refine GJ.ff (by decide) ?_)
      | (show Br _ _ _; first | refine Br.t (by decide) ?_ | refine Br.f (by decide) ?_)
      | (show GJ _ _ _ _ _ _ _; first | (apply GJ.and; exact rfl; intro hg) | (apply GJ.or; exact rfl; intro hg)))
    refine QOk.neqArr4 (e := 33) rfl rfl (by kernel_rfl) (by kernel_rfl) (by kernel_rfl) (by kernel_rfl) ?_
    rw [four_eq']
    repeat (first
      | refine SeqOk.pass ?_
      | (show _ ∧ _; exact ⟨rfl, rfl, rfl⟩)
      | refine wkT ?_
      | refine Bs.all ?_
      | (show RetOk _ _ _ _ _ _; refine RetOk.of (T := T) (RL.row rfl rfl LdN.hasBlk (by rfl) (RL.tmp rfl (RL.tmp rfl RL.nil))) ?_)
      | (show QOk _ _ _ _ _ _ _; refine QOk.build rfl rfl Nf.auto ?_)
      | (show OpOk _ _ _ _ _ _ _; first | refine opB (fun b => ?_) | refine opA (fun a' c' hc1 hc2 => ?_))
      | (show GJ _ _ _ _ _ _ _; first | refine GJ.t (by decide) ?_ | refine GJ.f (by decide) ?_ | refine GJ.ft (by decide) ?_ | refine GJ.ff (by decide) ?_)
      | (show Br _ _ _; first | refine Br.t (by decide) ?_ | refine Br.f (by decide) ?_)
      | (show GJ _ _ _ _ _ _ _; first | (apply GJ.and; exact rfl; intro hg) | (apply GJ.or; exact rfl; intro hg)))
    refine QOk.loadRow rfl rfl (LdN.at (k := 1) (z := 4) (vs := setV s) hrs rfl) rfl ?_
    repeat (first
      | refine SeqOk.pass ?_
      | (show _ ∧ _; exact ⟨rfl, rfl, rfl⟩)
      | refine wkT ?_
      | refine Bs.all ?_
      | (show RetOk _ _ _ _ _ _; refine RetOk.of (T := T) (RL.row rfl rfl LdN.hasBlk (by rfl) (RL.tmp rfl (RL.tmp rfl RL.nil))) ?_)
      | (show QOk _ _ _ _ _ _ _; refine QOk.build rfl rfl Nf.auto ?_)
      | (show OpOk _ _ _ _ _ _ _; first | refine opB (fun b => ?_) | refine opA (fun a' c' hc1 hc2 => ?_))
      | (show GJ _ _ _ _ _ _ _; first | refine GJ.t (by decide) ?_ | refine GJ.f (by decide) ?_ | refine GJ.ft (by decide) ?_ | refine GJ.ff (by decide) ?_)
      | (show Br _ _ _; first | refine Br.t (by decide) ?_ | refine Br.f (by decide) ?_)
      | (show GJ _ _ _ _ _ _ _; first | (apply GJ.and; exact rfl; intro hg) | (apply GJ.or; exact rfl; intro hg)))
    refine QOk.loadRow rfl rfl (LdN.at (k := 9) (z := 4) (vs := setV s.not) hrs rfl) rfl ?_
    repeat (first
      | refine SeqOk.pass ?_
      | (show _ ∧ _; exact ⟨rfl, rfl, rfl⟩)
      | refine wkT ?_
      | refine Bs.all ?_
      | (show RetOk _ _ _ _ _ _; refine RetOk.of (T := T) (RL.row rfl rfl LdN.hasBlk (by rfl) (RL.tmp rfl (RL.tmp rfl RL.nil))) ?_)
      | (show QOk _ _ _ _ _ _ _; refine QOk.build rfl rfl Nf.auto ?_)
      | (show OpOk _ _ _ _ _ _ _; first | refine opB (fun b => ?_) | refine opA (fun a' c' hc1 hc2 => ?_))
      | (show GJ _ _ _ _ _ _ _; first | refine GJ.t (by decide) ?_ | refine GJ.f (by decide) ?_ | refine GJ.ft (by decide) ?_ | refine GJ.ff (by decide) ?_)
      | (show Br _ _ _; first | refine Br.t (by decide) ?_ | refine Br.f (by decide) ?_)
      | (show GJ _ _ _ _ _ _ _; first | (apply GJ.and; exact rfl; intro hg) | (apply GJ.or; exact rfl; intro hg)))
    refine or_ok hs (SetIn.not s) ?_
    rw [or_not hs]
    repeat (first
      | refine SeqOk.pass ?_
      | (show _ ∧ _; exact ⟨rfl, rfl, rfl⟩)
      | refine wkT ?_
      | refine Bs.all ?_
      | (show RetOk _ _ _ _ _ _; refine RetOk.of (T := T) (RL.row rfl rfl LdN.hasBlk (by rfl) (RL.tmp rfl (RL.tmp rfl RL.nil))) ?_)
      | (show QOk _ _ _ _ _ _ _; refine QOk.build rfl rfl Nf.auto ?_)
      | (show OpOk _ _ _ _ _ _ _; first | refine opB (fun b => ?_) | refine opA (fun a' c' hc1 hc2 => ?_))
      | (show GJ _ _ _ _ _ _ _; first | refine GJ.t (by decide) ?_ | refine GJ.f (by decide) ?_ | refine GJ.ft (by decide) ?_ | refine GJ.ff (by decide) ?_)
      | (show Br _ _ _; first | refine Br.t (by decide) ?_ | refine Br.f (by decide) ?_)
      | (show GJ _ _ _ _ _ _ _; first | (apply GJ.and; exact rfl; intro hg) | (apply GJ.or; exact rfl; intro hg)))
    refine all_ok ?_
    repeat (first
      | refine SeqOk.pass ?_
      | (show _ ∧ _; exact ⟨rfl, rfl, rfl⟩)
      | refine wkT ?_
      | refine Bs.all ?_
      | (show RetOk _ _ _ _ _ _; refine RetOk.of (T := T) (RL.row rfl rfl LdN.hasBlk (by rfl) (RL.tmp rfl (RL.tmp rfl RL.nil))) ?_)
      | (show QOk _ _ _ _ _ _ _; refine QOk.build rfl rfl Nf.auto ?_)
      | (show OpOk _ _ _ _ _ _ _; first | refine opB (fun b => ?_) | refine opA (fun a' c' hc1 hc2 => ?_))
      | (show GJ _ _ _ _ _ _ _; first | refine GJ.t (by decide) ?_ | refine GJ.f (by decide) ?_ | refine GJ.ft (by decide) ?_ | refine GJ.ff (by decide) ?_)
      | (show Br _ _ _; first | refine Br.t (by decide) ?_ | refine Br.f (by decide) ?_)
      | (show GJ _ _ _ _ _ _ _; first | (apply GJ.and; exact rfl; intro hg) | (apply GJ.or; exact rfl; intro hg)))
    refine QOk.eqlArr4 (e := 33) rfl rfl (by kernel_rfl) (by kernel_rfl) (by kernel_rfl) (by kernel_rfl) ?_
    rw [four_eq']
    repeat (first
      | refine SeqOk.pass ?_
      | (show _ ∧ _; exact ⟨rfl, rfl, rfl⟩)
      | refine wkT ?_
      | refine Bs.all ?_
      | (show RetOk _ _ _ _ _ _; refine RetOk.of (T := T) (RL.row rfl rfl LdN.hasBlk (by rfl) (RL.tmp rfl (RL.tmp rfl RL.nil))) ?_)
      | (show QOk _ _ _ _ _ _ _; refine QOk.build rfl rfl Nf.auto ?_)
      | (show OpOk _ _ _ _ _ _ _; first | refine opB (fun b => ?_) | refine opA (fun a' c' hc1 hc2 => ?_))
      | (show GJ _ _ _ _ _ _ _; first | refine GJ.t (by decide) ?_ | refine GJ.f (by decide) ?_ | refine GJ.ft (by decide) ?_ | refine GJ.ff (by decide) ?_)
      | (show Br _ _ _; first | refine Br.t (by decide) ?_ | refine Br.f (by decide) ?_)
      | (show GJ _ _ _ _ _ _ _; first | (apply GJ.and; exact rfl; intro hg) | (apply GJ.or; exact rfl; intro hg)))
    refine rcheck_ok (n := threeD s c) (v := nodeV 3 zeroS a4 2 c4 0 0) hv4 ?_
    rw [show (checkD (threeD s c) 512).1 = 0 by rw [three_check hc h0]]
    repeat (first
      | refine SeqOk.pass ?_
      | (show _ ∧ _; exact ⟨rfl, rfl, rfl⟩)
      | refine wkT ?_
      | refine Bs.all ?_
      | (show RetOk _ _ _ _ _ _; refine RetOk.of (T := T) (RL.row rfl rfl LdN.hasBlk (by rfl) (RL.tmp rfl (RL.tmp rfl RL.nil))) ?_)
      | (show QOk _ _ _ _ _ _ _; refine QOk.build rfl rfl Nf.auto ?_)
      | (show OpOk _ _ _ _ _ _ _; first | refine opB (fun b => ?_) | refine opA (fun a' c' hc1 hc2 => ?_))
      | (show GJ _ _ _ _ _ _ _; first | refine GJ.t (by decide) ?_ | refine GJ.f (by decide) ?_ | refine GJ.ft (by decide) ?_ | refine GJ.ff (by decide) ?_)
      | (show Br _ _ _; first | refine Br.t (by decide) ?_ | refine Br.f (by decide) ?_)
      | (show GJ _ _ _ _ _ _ _; first | (apply GJ.and; exact rfl; intro hg) | (apply GJ.or; exact rfl; intro hg)))
    exact Wk.back1 Sup.auto (.refl _) hk
theorem wclasses_row {s : SetD} {z : Int} (ht : TabOk ro) (hs : SetIn s) (hz : 0 ≤ z ∧ z < 256) (hk : K (.bool true) ro own) : CallOk Tryd.prog 6 #[.agg (setV s).toArray, .int .u8 z] ro own K := by
  obtain ⟨c, rfl⟩ : ∃ c : Nat, z = (c : Int) := ⟨z.toNat, by omega⟩
  exact wclasses_law ht hs (by omega) hk
end
end Go.Proofs.YtkmblecapclkmaaDoor
