/- The law ClassLists. -/
import Derived.Test.YtknfebfdehdapaaDoorCD
import Derived.Test.YtknfebfdehdapaaDoorCM
import Derived.Test.YtknfebfdehdapaaDoorCF
namespace Go.Proofs.YtknfebfdehdapaaDoor
open Go Go.E
set_option linter.unusedVariables false
set_option linter.unusedSimpArgs false
set_option maxRecDepth 10000
def inV (l : List UInt8) : List Value := (List.range 256).map fun c => .bool (decide (UInt8.ofNat c ∈ l))
theorem inV_get {l : List UInt8} {c : Nat} (h : c < 256) : (inV l)[c]? = some (.bool (decide (UInt8.ofNat c ∈ l))) := by
  simp [inV, List.getElem?_map, List.getElem?_range h]
theorem inV_nil : inV [] = List.replicate 256 (.bool false) := by
  unfold inV
  rw [List.eq_replicate_iff]
  refine ⟨by simp, fun v hv => ?_⟩
  obtain ⟨c, _, rfl⟩ := List.mem_map.1 hv
  simp
theorem inV_set {l : List UInt8} (x : UInt8) : (inV l).set x.toNat (.bool true) = inV (l ++ [x]) := by
  refine List.ext_getElem? fun c => ?_
  have hx := x.toNat_lt
  by_cases h : c < 256
  · by_cases e : x.toNat = c
    · subst e
      rw [List.getElem?_set_self (by simp [inV]; omega), inV_get h]
      simp
    · rw [List.getElem?_set_ne e, inV_get h, inV_get h]
      have : ¬ UInt8.ofNat c = x := fun e2 => e (by rw [← e2]; simp; omega)
      simp [this]
  · rw [List.getElem?_eq_none (by simp [inV]; omega), List.getElem?_eq_none (by simp [inV]; omega)]
def hasV (s : SetD) : List Value := (List.range 256).map fun c => .bool (s.has c)
theorem hasV_get {s : SetD} {c : Nat} (h : c < 256) : (hasV s)[c]? = some (.bool (s.has c)) := by
  simp [hasV, List.getElem?_map, List.getElem?_range h]
theorem inV_has {l : List UInt8} {s : SetD} (h : ∀ c : UInt8, s.has c.toNat = decide (c ∈ l)) : inV l = hasV s := by
  unfold inV hasV
  refine List.map_congr_left fun c hc => ?_
  have hc := List.mem_range.1 hc
  have := h (UInt8.ofNat c)
  rw [show (UInt8.ofNat c).toNat = c by simp; omega] at this
  rw [this]
def cntTo (s : SetD) (c : Nat) : Nat := ((List.range c).filter s.has).length
theorem cntTo_succ (s : SetD) (c : Nat) : cntTo s (c + 1) = cntTo s c + if s.has c = true then 1 else 0 := by
  unfold cntTo
  rw [List.range_succ, List.filter_append, List.length_append]
  by_cases e : s.has c = true <;> simp [e]
theorem bytesD_at {s : SetD} {c : Nat} (hc : c < 256) (h : s.has c = true) : (bytesD s)[cntTo s c]? = some c := by
  have e : List.range 256 = List.range c ++ c :: List.range' (c + 1) (255 - c) := by
    rw [List.range_eq_range', List.range_eq_range', show (256 : Nat) = c + (1 + (255 - c)) by omega, ← List.range'_append_1]
    rw [Nat.zero_add, show 1 + (255 - c) = (255 - c) + 1 by omega, List.range'_succ]
  unfold bytesD cntTo
  rw [e, List.filter_append, List.filter_cons, if_pos h, List.getElem?_append_right (Nat.le_refl _), Nat.sub_self]
  rfl
theorem cntTo_lt {s : SetD} {c : Nat} (hc : c < 256) (h : s.has c = true) : cntTo s c < (bytesD s).length := (List.getElem?_eq_some_iff.1 (bytesD_at hc h)).1
theorem nbV_at {l : List Nat} {k c : Nat} (h : l[k]? = some c) : (nbV l)[k]? = some (.int .u8 (c : Int)) := by simp [nbV, h]
theorem cntTo_all (s : SetD) : cntTo s 256 = (bytesD s).length := rfl
theorem cntTo_le (s : SetD) (c : Nat) : cntTo s c ≤ c := Nat.le_trans (List.length_filter_le _ _) (by simp)
section
variable {ro : Ro} {own r : Chs} {K : Value → Ro → Chs → Prop} {g : Chunk → Chs}
set_option maxHeartbeats 2000000 in
theorem clists_ok {al : Option Addr} {cl : Nat} {l : List UInt8} {x y : Nat} (ht : TabOk ro) (hl : Bys ro al l.length cl l) (hx : x < 256) (hy : y < 256) (hk : K (.bool true) ro own) : CallOk Tryd.prog 3 #[.slice al l.length cl, .int .u8 (x : Int), .int .u8 (y : Int)] ro own K := by
  refine CallOk.introM (args := [_, _, _]) (rs := [_]) T_ok Tryd.func3 Tryd.call3 rfl rfl (by kernel_rfl) rfl ?_
  repeat (first
    | (show _ ∧ _; exact ⟨rfl, rfl, rfl⟩)
    | refine wkT ?_
    | (show OpOk _ _ _ _ _ _ _; first | refine opB (fun b => ?_) | refine opA (fun a' c' hc1 hc2 => ?_))
    | (show GJ _ _ _ _ _ _ _; first | (apply GJ.and; exact rfl; intro hg) | (apply GJ.or; exact rfl; intro hg)))
  refine sets_ok ht ?_
  by_cases hlen : l.length > 300
  · repeat (first
      | (show _ ∧ _; exact ⟨rfl, rfl, rfl⟩)
      | refine wkT ?_
      | (show OpOk _ _ _ _ _ _ _; first | refine opB (fun b => ?_) | refine opA (fun a' c' hc1 hc2 => ?_))
      | (show GJ _ _ _ _ _ _ _; first | (apply GJ.and; exact rfl; intro hg) | (apply GJ.or; exact rfl; intro hg)))
    exact Wk.own own Sup.auto (Wk.id hk)
  repeat (first
    | (show _ ∧ _; exact ⟨rfl, rfl, rfl⟩)
    | refine wkT ?_
    | (show OpOk _ _ _ _ _ _ _; first | refine opB (fun b => ?_) | refine opA (fun a' c' hc1 hc2 => ?_))
    | (show GJ _ _ _ _ _ _ _; first | (apply GJ.and; exact rfl; intro hg) | (apply GJ.or; exact rfl; intro hg)))
  refine of_ok hl (by omega) (fun s hs hhas => ?_)
  repeat (first
    | (show _ ∧ _; exact ⟨rfl, rfl, rfl⟩)
    | refine wkT ?_
    | (show OpOk _ _ _ _ _ _ _; first | refine opB (fun b => ?_) | refine opA (fun a' c' hc1 hc2 => ?_))
    | (show GJ _ _ _ _ _ _ _; first | (apply GJ.and; exact rfl; intro hg) | (apply GJ.or; exact rfl; intro hg)))
  rename_i b7
  rw [← inV_nil]
  refine LoopOk.at (ι := Nat) Keep.auto (fun i => [(26, .int .i64 (i : Int))]) (fun i => .blk b 28 (inV (l.take i)) :: .blk b7 26 (setV s) :: own) (fun i => i ≤ l.length) (fun i => l.length - i) 0 ?_ Sub.auto Sup.auto ?_
  · exact Nat.zero_le _
  rintro i i1
  dsimp only [List.cons_append, List.nil_append] at i1 ⊢
  repeat (first
    | (show _ ∧ _; exact ⟨rfl, rfl, rfl⟩)
    | refine wkT ?_
    | (show OpOk _ _ _ _ _ _ _; first | refine opB (fun b => ?_) | refine opA (fun a' c' hc1 hc2 => ?_))
    | (show GJ _ _ _ _ _ _ _; first | (apply GJ.and; exact rfl; intro hg) | (apply GJ.or; exact rfl; intro hg)))
  refine Br.cases (fun hg => ?_) (fun hg => ?_)
  · obtain ⟨u, hu⟩ : ∃ u, l[i]? = some u := ⟨_, List.getElem?_eq_getElem (by omega)⟩
    have hu2 : l[((i : Nat) : Int).toNat]! = u := by rw [Int.toNat_natCast, List.getElem!_eq_getElem?_getD, hu]; rfl
    have hul := u.toNat_lt
    have htk : l.take (i + 1) = l.take i ++ [u] := by rw [List.take_add_one, hu]; rfl
    repeat (first
      | (show _ ∧ _; exact ⟨rfl, rfl, rfl⟩)
      | refine wkT ?_
      | (show OpOk _ _ _ _ _ _ _; first | refine opB (fun b => ?_) | refine opA (fun a' c' hc1 hc2 => ?_))
      | (show GJ _ _ _ _ _ _ _; first | (apply GJ.and; exact rfl; intro hg) | (apply GJ.or; exact rfl; intro hg)))
    rw [hu2]
    refine OpOk.idxA (k := .u8) (i := (u.toNat : Int)) rfl rfl rfl ⟨by omega, by omega⟩ ?_
    repeat (first
      | (show _ ∧ _; exact ⟨rfl, rfl, rfl⟩)
      | refine wkT ?_
      | (show OpOk _ _ _ _ _ _ _; first | refine opB (fun b => ?_) | refine opA (fun a' c' hc1 hc2 => ?_))
      | (show GJ _ _ _ _ _ _ _; first | (apply GJ.and; exact rfl; intro hg) | (apply GJ.or; exact rfl; intro hg)))
    refine OpOk.storeAt rfl rfl rfl rfl (by simp [inV]; omega) ?_
    rw [show 0 + ((u.toNat : Nat) : Int).toNat * 1 = u.toNat by rw [Int.toNat_natCast]; omega, inV_set, ← htk]
    repeat (first
      | (show _ ∧ _; exact ⟨rfl, rfl, rfl⟩)
      | refine wkT ?_
      | (show OpOk _ _ _ _ _ _ _; first | refine opB (fun b => ?_) | refine opA (fun a' c' hc1 hc2 => ?_))
      | (show GJ _ _ _ _ _ _ _; first | (apply GJ.and; exact rfl; intro hg) | (apply GJ.or; exact rfl; intro hg)))
    refine Wk.id ⟨i + 1, ⟨rfl, ?_⟩, ?_, Sub.auto, Sup.auto⟩
    all_goals try dsimp only
    · omega
    · omega
  obtain rfl : i = l.length := by omega
  rw [List.take_length, inV_has hhas]
  clear hg i1 hl hhas
  repeat (first
    | (show _ ∧ _; exact ⟨rfl, rfl, rfl⟩)
    | refine wkT ?_
    | (show OpOk _ _ _ _ _ _ _; first | refine opB (fun b => ?_) | refine opA (fun a' c' hc1 hc2 => ?_))
    | (show GJ _ _ _ _ _ _ _; first | (apply GJ.and; exact rfl; intro hg) | (apply GJ.or; exact rfl; intro hg)))
  refine bytes_ok hs (fun a1 c1 q1 q2 => ?_)
  have hbl := bytesD_len s
  repeat (first
    | (show _ ∧ _; exact ⟨rfl, rfl, rfl⟩)
    | refine wkT ?_
    | (show OpOk _ _ _ _ _ _ _; first | refine opB (fun b => ?_) | refine opA (fun a' c' hc1 hc2 => ?_))
    | (show GJ _ _ _ _ _ _ _; first | (apply GJ.and; exact rfl; intro hg) | (apply GJ.or; exact rfl; intro hg)))
  refine LoopOk.at (ι := Nat) Keep.auto (fun c => [(35, .int .i64 (c : Int)), (12, .int .i64 (cntTo s c : Int))]) (fun c => .sl a1 (bytesD s).length c1 5 1 (nbV (bytesD s)) :: .blk b 28 (hasV s) :: .blk b7 26 (setV s) :: own) (fun c => c ≤ 256) (fun c => 256 - c) 0 ?_ Sub.auto Sup.auto ?_
  · exact Nat.zero_le _
  rintro c i1
  dsimp only [List.cons_append, List.nil_append] at i1 ⊢
  repeat (first
    | (show _ ∧ _; exact ⟨rfl, rfl, rfl⟩)
    | refine wkT ?_
    | (show OpOk _ _ _ _ _ _ _; first | refine opB (fun b => ?_) | refine opA (fun a' c' hc1 hc2 => ?_))
    | (show GJ _ _ _ _ _ _ _; first | (apply GJ.and; exact rfl; intro hg) | (apply GJ.or; exact rfl; intro hg)))
  refine Br.cases (fun hg => ?_) (fun hg => ?_)
  · have hc : c < 256 := by omega
    have hle := cntTo_le s c
    have hsu := cntTo_succ s c
    have e1 : (c : Int) % 256 = (c : Int) := by omega
    repeat (first
      | (show _ ∧ _; exact ⟨rfl, rfl, rfl⟩)
      | refine wkT ?_
      | (show OpOk _ _ _ _ _ _ _; first | refine opB (fun b => ?_) | refine opA (fun a' c' hc1 hc2 => ?_))
      | (show GJ _ _ _ _ _ _ _; first | (apply GJ.and; exact rfl; intro hg) | (apply GJ.or; exact rfl; intro hg)))
    refine SeqOk.pass ?_
    repeat (first
      | (show _ ∧ _; exact ⟨rfl, rfl, rfl⟩)
      | refine wkT ?_
      | refine Bs.all ?_
      | (show RetOk _ _ _ _ _ _; refine RetOk.of (T := T) (RL.row rfl rfl LdN.hasBlk (by rfl) (RL.tmp rfl (RL.tmp rfl RL.nil))) ?_)
      | (show QOk _ _ _ _ _ _ _; refine QOk.build rfl rfl Nf.auto ?_)
      | (show OpOk _ _ _ _ _ _ _; first | refine opB (fun b => ?_) | refine opA (fun a' c' hc1 hc2 => ?_))
      | (show GJ _ _ _ _ _ _ _; first | refine GJ.t (by decide) ?_ | refine GJ.f (by decide) ?_ | refine GJ.ft (by decide) ?_ | refine GJ.ff (by decide) ?_)
      | (show Br _ _ _; first | refine Br.t (by decide) ?_ | refine Br.f (by decide) ?_)
      | (show GJ _ _ _ _ _ _ _; first | (apply GJ.and; exact rfl; intro hg) | (apply GJ.or; exact rfl; intro hg)))
    rw [e1]
    rw [show 0 + ((c : Nat) : Int).toNat * 1 = c by rw [Int.toNat_natCast]; omega]
    refine QOk.load rfl rfl (Ld.hasBlkAt (hasV_get hc)) ?_
    repeat (first
      | (show _ ∧ _; exact ⟨rfl, rfl, rfl⟩)
      | refine wkT ?_
      | refine Bs.all ?_
      | (show RetOk _ _ _ _ _ _; refine RetOk.of (T := T) (RL.row rfl rfl LdN.hasBlk (by rfl) (RL.tmp rfl (RL.tmp rfl RL.nil))) ?_)
      | (show QOk _ _ _ _ _ _ _; refine QOk.build rfl rfl Nf.auto ?_)
      | (show OpOk _ _ _ _ _ _ _; first | refine opB (fun b => ?_) | refine opA (fun a' c' hc1 hc2 => ?_))
      | (show GJ _ _ _ _ _ _ _; first | refine GJ.t (by decide) ?_ | refine GJ.f (by decide) ?_ | refine GJ.ft (by decide) ?_ | refine GJ.ff (by decide) ?_)
      | (show Br _ _ _; first | refine Br.t (by decide) ?_ | refine Br.f (by decide) ?_)
      | (show GJ _ _ _ _ _ _ _; first | (apply GJ.and; exact rfl; intro hg) | (apply GJ.or; exact rfl; intro hg)))
    refine has_ok hs hc ?_
    cases hh : s.has c with
    | false =>
      rw [hh] at hsu
      simp only [Bool.false_eq_true, if_false, Nat.add_zero] at hsu
      have hv := hasV_get (s := s) hc
      rw [hh] at hv
      repeat (first
        | (show _ ∧ _; exact ⟨rfl, rfl, rfl⟩)
        | refine wkT ?_
        | refine Bs.all ?_
        | (show RetOk _ _ _ _ _ _; refine RetOk.of (T := T) (RL.row rfl rfl LdN.hasBlk (by rfl) (RL.tmp rfl (RL.tmp rfl RL.nil))) ?_)
        | (show QOk _ _ _ _ _ _ _; refine QOk.build rfl rfl Nf.auto ?_)
        | (show OpOk _ _ _ _ _ _ _; first | refine opB (fun b => ?_) | refine opA (fun a' c' hc1 hc2 => ?_))
        | (show GJ _ _ _ _ _ _ _; first | refine GJ.t (by decide) ?_ | refine GJ.f (by decide) ?_ | refine GJ.ft (by decide) ?_ | refine GJ.ff (by decide) ?_)
        | (show Br _ _ _; first | refine Br.t (by decide) ?_ | refine Br.f (by decide) ?_)
        | (show GJ _ _ _ _ _ _ _; first | (apply GJ.and; exact rfl; intro hg) | (apply GJ.or; exact rfl; intro hg)))
      rw [show 0 + ((c : Nat) : Int).toNat * 1 = c by rw [Int.toNat_natCast]; omega]
      refine OpOk.load rfl rfl (Ld.hasBlkAt hv) ?_
      rw [← hsu]
      repeat (first
        | (show _ ∧ _; exact ⟨rfl, rfl, rfl⟩)
        | refine wkT ?_
        | refine Bs.all ?_
        | (show RetOk _ _ _ _ _ _; refine RetOk.of (T := T) (RL.row rfl rfl LdN.hasBlk (by rfl) (RL.tmp rfl (RL.tmp rfl RL.nil))) ?_)
        | (show QOk _ _ _ _ _ _ _; refine QOk.build rfl rfl Nf.auto ?_)
        | (show OpOk _ _ _ _ _ _ _; first | refine opB (fun b => ?_) | refine opA (fun a' c' hc1 hc2 => ?_))
        | (show GJ _ _ _ _ _ _ _; first | refine GJ.t (by decide) ?_ | refine GJ.f (by decide) ?_ | refine GJ.ft (by decide) ?_ | refine GJ.ff (by decide) ?_)
        | (show Br _ _ _; first | refine Br.t (by decide) ?_ | refine Br.f (by decide) ?_)
        | (show GJ _ _ _ _ _ _ _; first | (apply GJ.and; exact rfl; intro hg) | (apply GJ.or; exact rfl; intro hg)))
      refine Wk.id ⟨c + 1, ⟨rfl, ?_⟩, ?_, Sub.auto, Sup.auto⟩
      all_goals try dsimp only
      · omega
      · omega
    | true =>
      rw [hh] at hsu
      simp only [if_true] at hsu
      have hv := hasV_get (s := s) hc
      rw [hh] at hv
      have hlt := cntTo_lt hc hh
      repeat (first
        | (show _ ∧ _; exact ⟨rfl, rfl, rfl⟩)
        | refine wkT ?_
        | refine Bs.all ?_
        | (show RetOk _ _ _ _ _ _; refine RetOk.of (T := T) (RL.row rfl rfl LdN.hasBlk (by rfl) (RL.tmp rfl (RL.tmp rfl RL.nil))) ?_)
        | (show QOk _ _ _ _ _ _ _; refine QOk.build rfl rfl Nf.auto ?_)
        | (show OpOk _ _ _ _ _ _ _; first | refine opB (fun b => ?_) | refine opA (fun a' c' hc1 hc2 => ?_))
        | (show GJ _ _ _ _ _ _ _; first | refine GJ.t (by decide) ?_ | refine GJ.f (by decide) ?_ | refine GJ.ft (by decide) ?_ | refine GJ.ff (by decide) ?_)
        | (show Br _ _ _; first | refine Br.t (by decide) ?_ | refine Br.f (by decide) ?_)
        | (show GJ _ _ _ _ _ _ _; first | (apply GJ.and; exact rfl; intro hg) | (apply GJ.or; exact rfl; intro hg)))
      rw [show 0 + ((c : Nat) : Int).toNat * 1 = c by rw [Int.toNat_natCast]; omega]
      refine OpOk.load rfl rfl (Ld.hasBlkAt hv) ?_
      repeat (first
        | (show _ ∧ _; exact ⟨rfl, rfl, rfl⟩)
        | refine wkT ?_
        | refine Bs.all ?_
        | (show RetOk _ _ _ _ _ _; refine RetOk.of (T := T) (RL.row rfl rfl LdN.hasBlk (by rfl) (RL.tmp rfl (RL.tmp rfl RL.nil))) ?_)
        | (show QOk _ _ _ _ _ _ _; refine QOk.build rfl rfl Nf.auto ?_)
        | (show OpOk _ _ _ _ _ _ _; first | refine opB (fun b => ?_) | refine opA (fun a' c' hc1 hc2 => ?_))
        | (show GJ _ _ _ _ _ _ _; first | refine GJ.t (by decide) ?_ | refine GJ.f (by decide) ?_ | refine GJ.ft (by decide) ?_ | refine GJ.ff (by decide) ?_)
        | (show Br _ _ _; first | refine Br.t (by decide) ?_ | refine Br.f (by decide) ?_)
        | (show GJ _ _ _ _ _ _ _; first | (apply GJ.and; exact rfl; intro hg) | (apply GJ.or; exact rfl; intro hg)))
      have hb2 : (bytesD s)[((cntTo s c : Nat) : Int).toNat]! = c := by rw [Int.toNat_natCast, List.getElem!_eq_getElem?_getD, bytesD_at hc hh]; rfl
      rw [hb2, e1]
      refine Br.f (by simp) ?_
      repeat (first
        | (show _ ∧ _; exact ⟨rfl, rfl, rfl⟩)
        | refine wkT ?_
        | refine Bs.all ?_
        | (show RetOk _ _ _ _ _ _; refine RetOk.of (T := T) (RL.row rfl rfl LdN.hasBlk (by rfl) (RL.tmp rfl (RL.tmp rfl RL.nil))) ?_)
        | (show QOk _ _ _ _ _ _ _; refine QOk.build rfl rfl Nf.auto ?_)
        | (show OpOk _ _ _ _ _ _ _; first | refine opB (fun b => ?_) | refine opA (fun a' c' hc1 hc2 => ?_))
        | (show GJ _ _ _ _ _ _ _; first | refine GJ.t (by decide) ?_ | refine GJ.f (by decide) ?_ | refine GJ.ft (by decide) ?_ | refine GJ.ff (by decide) ?_)
        | (show Br _ _ _; first | refine Br.t (by decide) ?_ | refine Br.f (by decide) ?_)
        | (show GJ _ _ _ _ _ _ _; first | (apply GJ.and; exact rfl; intro hg) | (apply GJ.or; exact rfl; intro hg)))
      rw [show ((cntTo s c : Nat) : Int) + 1 = ((cntTo s (c + 1) : Nat) : Int) by omega]
      refine Wk.id ⟨c + 1, ⟨rfl, ?_⟩, ?_, Sub.auto, Sup.auto⟩
      all_goals try dsimp only
      · omega
      · omega
  obtain rfl : c = 256 := by omega
  rw [cntTo_all]
  clear hg i1
  repeat (first
    | (show _ ∧ _; exact ⟨rfl, rfl, rfl⟩)
    | refine wkT ?_
    | (show OpOk _ _ _ _ _ _ _; first | refine opB (fun b => ?_) | refine opA (fun a' c' hc1 hc2 => ?_))
    | (show GJ _ _ _ _ _ _ _; first | (apply GJ.and; exact rfl; intro hg) | (apply GJ.or; exact rfl; intro hg)))
  refine range_ok hx hy (fun t ht2 hthas => ?_)
  repeat (first
    | (show _ ∧ _; exact ⟨rfl, rfl, rfl⟩)
    | refine wkT ?_
    | (show OpOk _ _ _ _ _ _ _; first | refine opB (fun b => ?_) | refine opA (fun a' c' hc1 hc2 => ?_))
    | (show GJ _ _ _ _ _ _ _; first | (apply GJ.and; exact rfl; intro hg) | (apply GJ.or; exact rfl; intro hg)))
  rename_i b8
  refine LoopOk.at (ι := Nat) Keep.auto (fun c => [(68, .int .i64 (c : Int))]) (fun c => .blk b 26 (setV t) :: .sl a1 (bytesD s).length c1 5 1 (nbV (bytesD s)) :: .blk b8 28 (hasV s) :: .blk b7 26 (setV s) :: own) (fun c => c ≤ 256) (fun c => 256 - c) 0 ?_ Sub.auto Sup.auto ?_
  · exact Nat.zero_le _
  rintro c i1
  dsimp only [List.cons_append, List.nil_append] at i1 ⊢
  repeat (first
    | (show _ ∧ _; exact ⟨rfl, rfl, rfl⟩)
    | refine wkT ?_
    | (show OpOk _ _ _ _ _ _ _; first | refine opB (fun b => ?_) | refine opA (fun a' c' hc1 hc2 => ?_))
    | (show GJ _ _ _ _ _ _ _; first | (apply GJ.and; exact rfl; intro hg) | (apply GJ.or; exact rfl; intro hg)))
  refine Br.cases (fun hg => ?_) (fun hg => ?_)
  · have hc : c < 256 := by omega
    have e1 : (c : Int) % 256 = (c : Int) := by omega
    repeat (first
      | (show _ ∧ _; exact ⟨rfl, rfl, rfl⟩)
      | refine wkT ?_
      | (show OpOk _ _ _ _ _ _ _; first | refine opB (fun b => ?_) | refine opA (fun a' c' hc1 hc2 => ?_))
      | (show GJ _ _ _ _ _ _ _; first | (apply GJ.and; exact rfl; intro hg) | (apply GJ.or; exact rfl; intro hg)))
    rw [e1]
    refine has_ok ht2 hc ?_
    rw [hthas c hc]
    repeat (first
      | (show _ ∧ _; exact ⟨rfl, rfl, rfl⟩)
      | refine wkT ?_
      | (show OpOk _ _ _ _ _ _ _; first | refine opB (fun b => ?_) | refine opA (fun a' c' hc1 hc2 => ?_))
      | (show GJ _ _ _ _ _ _ _; first | (apply GJ.and; exact rfl; intro hg) | (apply GJ.or; exact rfl; intro hg)))
    refine Br.f ?_ ?_
    · have : decide (x ≤ c ∧ c ≤ y) = (decide ((c : Int) ≥ (x : Int)) && decide ((c : Int) ≤ (y : Int))) := by
        rw [Bool.eq_iff_iff]
        simp only [Bool.and_eq_true, decide_eq_true_iff]
        omega
      rw [this]; simp
    repeat (first
      | (show _ ∧ _; exact ⟨rfl, rfl, rfl⟩)
      | refine wkT ?_
      | (show OpOk _ _ _ _ _ _ _; first | refine opB (fun b => ?_) | refine opA (fun a' c' hc1 hc2 => ?_))
      | (show GJ _ _ _ _ _ _ _; first | (apply GJ.and; exact rfl; intro hg) | (apply GJ.or; exact rfl; intro hg)))
    refine Wk.id ⟨c + 1, ⟨rfl, ?_⟩, ?_, Sub.auto, Sup.auto⟩
    all_goals try dsimp only
    · omega
    · omega
  clear hg i1
  repeat (first
    | (show _ ∧ _; exact ⟨rfl, rfl, rfl⟩)
    | refine wkT ?_
    | (show OpOk _ _ _ _ _ _ _; first | refine opB (fun b => ?_) | refine opA (fun a' c' hc1 hc2 => ?_))
    | (show GJ _ _ _ _ _ _ _; first | (apply GJ.and; exact rfl; intro hg) | (apply GJ.or; exact rfl; intro hg)))
  refine SeqOk.pass ?_
  repeat (first
    | (show _ ∧ _; exact ⟨rfl, rfl, rfl⟩)
    | refine wkT ?_
    | (show OpOk _ _ _ _ _ _ _; first | refine opB (fun b => ?_) | refine opA (fun a' c' hc1 hc2 => ?_))
    | (show GJ _ _ _ _ _ _ _; first | (apply GJ.and; exact rfl; intro hg) | (apply GJ.or; exact rfl; intro hg)))
  refine CodeOk.rangeFunc (T := T) (α := Nat) (ps := [_]) (bs := [_]) (encs := fun c => [.int .u8 (c : Int)]) rfl Tryd.call20 (each_iter hs) (fun _ => rfl) rfl (ι := Nat) (κ := Unit)
    (fun n => .blk b 3 [.int .i64 (n : Int)] :: .sl a1 (bytesD s).length c1 5 1 (nbV (bytesD s)) :: own) (fun pre n => n = pre.length ∧ n ≤ 1) (fun _ => .blk b 3 [.int .i64 2] :: .sl a1 (bytesD s).length c1 5 1 (nbV (bytesD s)) :: own) (fun e _ => e = .exit 6 ∧ 2 ≤ (bytesD s).length) (fun x => [(16, .pointer (some ⟨b, 0, none⟩))]) 0 ⟨rfl, Nat.zero_le _⟩ Sup.auto ?_ ?_ ?_ ?_
  · intro x own' ro' hl
    exact ⟨(by repeat (first | exact trivial | refine Sub.cons rfl ?_)), Sup.all _⟩
  · rintro pre z rest n ro' hl hz ⟨rfl, i1⟩
    have hzl := congrArg List.length hz
    rw [List.length_append, List.length_cons] at hzl
    repeat (first
      | (show _ ∧ _; exact ⟨rfl, rfl, rfl⟩)
      | refine wkT ?_
      | (show OpOk _ _ _ _ _ _ _; first | refine opB (fun b => ?_) | refine opA (fun a' c' hc1 hc2 => ?_))
      | (show GJ _ _ _ _ _ _ _; first | (apply GJ.and; exact rfl; intro hg) | (apply GJ.or; exact rfl; intro hg)))
    refine Br.cases (fun hg => ?_) (fun hg => ?_)
    · repeat (first
        | (show _ ∧ _; exact ⟨rfl, rfl, rfl⟩)
        | refine wkT ?_
        | (show OpOk _ _ _ _ _ _ _; first | refine opB (fun b => ?_) | refine opA (fun a' c' hc1 hc2 => ?_))
        | (show GJ _ _ _ _ _ _ _; first | (apply GJ.and; exact rfl; intro hg) | (apply GJ.or; exact rfl; intro hg)))
      rw [hg]
      exact Wk.id ⟨(), ⟨rfl, by omega⟩, Sup.auto⟩
    · repeat (first
        | (show _ ∧ _; exact ⟨rfl, rfl, rfl⟩)
        | refine wkT ?_
        | (show OpOk _ _ _ _ _ _ _; first | refine opB (fun b => ?_) | refine opA (fun a' c' hc1 hc2 => ?_))
        | (show GJ _ _ _ _ _ _ _; first | (apply GJ.and; exact rfl; intro hg) | (apply GJ.or; exact rfl; intro hg)))
      rw [show (pre.length : Int) + 1 = ((pre.length + 1 : Nat) : Int) by omega]
      exact Wk.id ⟨pre.length + 1, ⟨by simp, by omega⟩, Sup.auto⟩
  · rintro n ro' hl ⟨rfl, i1⟩
    have hm : min 2 ((bytesD s).length : Int) = ((bytesD s).length : Int) := by omega
    repeat (first
      | (show _ ∧ _; exact ⟨rfl, rfl, rfl⟩)
      | refine wkT ?_
      | (show OpOk _ _ _ _ _ _ _; first | refine opB (fun b => ?_) | refine opA (fun a' c' hc1 hc2 => ?_))
      | (show GJ _ _ _ _ _ _ _; first | (apply GJ.and; exact rfl; intro hg) | (apply GJ.or; exact rfl; intro hg)))
    rw [hm, decide_eq_true rfl]
    exact Wk.own own Sup.auto (Wk.id hk)
  · rintro e _ ro' hl ⟨rfl, i1⟩
    have hm : min 2 ((bytesD s).length : Int) = 2 := by omega
    repeat (first
      | (show _ ∧ _; exact ⟨rfl, rfl, rfl⟩)
      | refine wkT ?_
      | (show OpOk _ _ _ _ _ _ _; first | refine opB (fun b => ?_) | refine opA (fun a' c' hc1 hc2 => ?_))
      | (show GJ _ _ _ _ _ _ _; first | (apply GJ.and; exact rfl; intro hg) | (apply GJ.or; exact rfl; intro hg)))
    rw [hm, decide_eq_true rfl]
    exact Wk.own own Sup.auto (Wk.id hk)
theorem clists_law {al : Option Addr} {n cl : Nat} {l : List UInt8} {x y : Int} (ht : TabOk ro) (hl : Bys ro al n cl l) (hx : 0 ≤ x ∧ x < 256) (hy : 0 ≤ y ∧ y < 256) (hk : K (.bool true) ro own) : CallOk Tryd.prog 3 #[.slice al n cl, .int .u8 x, .int .u8 y] ro own K := by
  obtain ⟨c, rfl⟩ := Int.eq_ofNat_of_zero_le hx.1
  obtain ⟨d, rfl⟩ := Int.eq_ofNat_of_zero_le hy.1
  obtain rfl := hl.n
  exact clists_ok ht hl (by omega) (by omega) hk
end
end Go.Proofs.YtknfebfdehdapaaDoor
