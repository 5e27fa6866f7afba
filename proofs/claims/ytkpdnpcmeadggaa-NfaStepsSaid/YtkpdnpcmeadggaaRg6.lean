/- Expressions in memory; contracts of regex: atom. -/
import Derived.Test.YtkpdnpcmeadggaaRg3
import Derived.Test.YtkpdnpcmeadggaaRg5
import Derived.Test.YtkpdnpcmeadggaaRxx
namespace Go.Proofs.Ytkpdnpcmeadggaa
open Go Go.E
set_option linter.unusedVariables false
set_option linter.unusedSimpArgs false
set_option maxRecDepth 10000
mutual
def RgOk (ro : Ro) : RgD → List Value → Prop
  | .mk k z l x y, v => ∃ a c cs, v = nodeV k z a l.length c x y ∧ SetIn z ∧ Rs ro a l.length c 8 cs ∧ RgsOk ro l cs
def RgsOk (ro : Ro) : List RgD → List Value → Prop
  | [], cs => cs = []
  | n :: l, cs => ∃ v r, cs = v ++ r ∧ RgOk ro n v ∧ RgsOk ro l r
end

theorem RgOk.cells {ro : Ro} {n : RgD} {v : List Value} (h : RgOk ro n v) : ∃ a c, v = nodeV n.kind n.set a n.kids.length c n.min n.max := by
  obtain ⟨k, z, l, x, y⟩ := n
  rw [RgOk] at h
  obtain ⟨a, c, cs, h1, _⟩ := h
  exact ⟨a, c, h1⟩
theorem RgOk.len {ro : Ro} {n : RgD} {v : List Value} (h : RgOk ro n v) : v.length = 8 := by obtain ⟨a, c, rfl⟩ := h.cells; rfl
theorem RgOk.one {ro : Ro} {n : RgD} {v : List Value} (h : RgOk ro n v) : v.all (fun u => u.oneCell') = true := by obtain ⟨a, c, rfl⟩ := h.cells; rfl
theorem RgsOk.len {ro : Ro} : ∀ {l : List RgD} {cs : List Value}, RgsOk ro l cs → cs.length = l.length * 8
  | [], cs, h => by rw [RgsOk] at h; subst h; rfl
  | n :: l, cs, h => by
    rw [RgsOk] at h
    obtain ⟨v, r, rfl, h1, h2⟩ := h
    rw [List.length_append, h1.len, RgsOk.len h2, List.length_cons]; omega
theorem RgsOk.snoc {ro : Ro} {n : RgD} {v : List Value} (hv : RgOk ro n v) : ∀ {l : List RgD} {cs : List Value}, RgsOk ro l cs → RgsOk ro (l ++ [n]) (cs ++ v)
  | [], cs, h => by
    rw [RgsOk] at h; subst h
    rw [List.nil_append, List.nil_append, RgsOk]
    exact ⟨v, [], by simp, hv, by rw [RgsOk]⟩
  | m :: l, cs, h => by
    rw [RgsOk] at h
    obtain ⟨u, r, rfl, h1, h2⟩ := h
    rw [List.cons_append, RgsOk]
    exact ⟨u, r ++ v, by rw [List.append_assoc], h1, RgsOk.snoc hv h2⟩
theorem RgsOk.get {ro : Ro} : ∀ {l : List RgD} {cs : List Value} {i : Nat} {n : RgD}, RgsOk ro l cs → l[i]? = some n → RgOk ro n ((cs.drop (i * 8)).take 8)
  | [], _, _, _, _, h => by simp at h
  | m :: l, cs, 0, n, h, hi => by
    rw [RgsOk] at h
    obtain ⟨u, r, rfl, h1, h2⟩ := h
    simp at hi; subst hi
    have := h1.len
    simpa [← this] using h1
  | m :: l, cs, i + 1, n, h, hi => by
    rw [RgsOk] at h
    obtain ⟨u, r, rfl, h1, h2⟩ := h
    have := RgsOk.get h2 (i := i) (by simpa using hi)
    rw [show (i + 1) * 8 = u.length + i * 8 by rw [h1.len]; omega, ← List.drop_drop]
    simpa using this
def LeOk (n : RgD) : Prop := ∀ {ro ro' : Ro} {v : List Value}, Le ro ro' → RgOk ro n v → RgOk ro' n v
theorem RgsOk.le' : ∀ {l : List RgD}, (∀ x ∈ l, LeOk x) → ∀ {ro ro' : Ro} {cs : List Value}, Le ro ro' → RgsOk ro l cs → RgsOk ro' l cs
  | [], _, _, _, _, _, h => by rw [RgsOk] at h ⊢; exact h
  | n :: l, hx, ro, ro', cs, hl, h => by
    rw [RgsOk] at h ⊢
    obtain ⟨v, r, rfl, h1, h2⟩ := h
    exact ⟨v, r, rfl, hx n (by simp) hl h1, RgsOk.le' (fun y hy => hx y (by simp [hy])) hl h2⟩
theorem leOk : ∀ n, LeOk n := RgD.ind fun k z l x y ih {ro ro' v} hl h => by
  rw [RgOk] at h ⊢
  obtain ⟨a, c, cs, h1, h2, h3, h4⟩ := h
  exact ⟨a, c, cs, h1, h2, h3.up, RgsOk.le' ih hl h4⟩
theorem RgOk.le {ro ro' : Ro} {n : RgD} {v : List Value} (h : RgOk ro n v) (hl : Le ro ro') : RgOk ro' n v := leOk n hl h
theorem RgsOk.le {ro ro' : Ro} {l : List RgD} {cs : List Value} (h : RgsOk ro l cs) (hl : Le ro ro') : RgsOk ro' l cs := RgsOk.le' (fun x _ => leOk x) hl h
theorem RgOk.leaf {ro : Ro} {k : Int} {z : SetD} {x y : Int} (hz : SetIn z) : RgOk ro (.mk k z [] x y) (nodeV k z none 0 0 x y) := by
  rw [RgOk]; exact ⟨none, 0, [], rfl, hz, Rs.nil ro 8, by rw [RgsOk]⟩
theorem setD_in {t : List UInt8} {a : Nat} {s : RS} : SetIn (setD t a s).1 := by
  unfold setD
  dsimp only
  unfold turnD
  split
  · exact SetIn.not _
  · exact setL_in zeroS_in
/-- What is asked of the reading of brackets. -/
def AltC (t : List UInt8) (d : Nat) : Prop := ∀ {ro : Ro} {own : Chs} {g : Chunk → Chs} {q : Nat} {s : RS} {K : Value → Ro → Chs → Prop}, HasBlk own q 71 (rsV t s) g → Inv t s → s.e = 0 → s.n ≤ 512 →
  (∀ ro' v, Le ro ro' → RgOk ro' (altD t d s).1 v → K (.agg v.toArray) ro' (g (.blk q 71 (rsV t (altD t d s).2)))) → CallOk Try.prog 27 #[ptr' q, .int .i64 (33 - (d : Int))] ro own K
section
variable {ro : Ro} {own r : Chs} {K : Value → Ro → Chs → Prop} {g : Chunk → Chs} {q : Nat} {t : List UInt8}
theorem ofD_ok {b : Nat} {x : Nat} (hx : x < 256) (hk : ∀ ro', Le ro ro' → K (.agg (setV (ofD x)).toArray) ro' r) : CallOk Try.prog 64 #[.slice (some ⟨b, 0, none⟩) 1 1] ro (.sl (some ⟨b, 0, none⟩) 1 1 5 1 [.int .u8 (x : Int)] :: r) K := by
  have hu : (UInt8.ofNat x).toNat = x := UInt8.toNat_ofNat_of_lt' hx
  refine CallOk.freeze (c := .sl (some ⟨b, 0, none⟩) _ _ _ _ _) Take.auto (fun ro1 hl1 hc1 => ?_)
  have hB : Bys ro1 (some ⟨b, 0, none⟩) [UInt8.ofNat x].length 1 [UInt8.ofNat x] := by
    have := Rs.last hc1
    show Rs ro1 _ 1 1 1 [.int .u8 ((UInt8.ofNat x).toNat : Int)]
    rw [hu]; exact this
  refine of_ok (l := [UInt8.ofNat x]) hB (by simp) (fun s h1 h2 => ?_)
  have : s = ofD x := SetD.ext h1 (of_in hx) fun d hd => by
    have e := h2 (UInt8.ofNat d)
    rw [UInt8.toNat_ofNat_of_lt' hd] at e
    rw [e, of_has hx hd, decide_eq_decide, List.mem_singleton]
    constructor
    · intro h; have := congrArg UInt8.toNat h; rwa [UInt8.toNat_ofNat_of_lt' hd, hu] at this
    · intro h; rw [h]
  rw [this]
  exact hk ro1 hl1
set_option maxHeartbeats 8000000 in
theorem atom_ok {s : RS} [hb : HasBlk own q 71 (rsV t s) g] {d : Nat} {x : Int} (ha : AltC t d) (hx : x = 32 - (d : Int)) (hd : d ≤ 32) (hi : Inv t s) (h0 : s.e = 0) (hn : s.n ≤ 512) (hl : t.length ≤ 10000)
    (hk : ∀ ro' v, Le ro ro' → RgOk ro' (atomD t (altD t d) s).1 v → K (.agg v.toArray) ro' (g (.blk q 71 (rsV t (atomD t (altD t d) s).2)))) :
    CallOk Try.prog 58 #[ptr' q, .int .i64 x] ro own K := by
  subst hx
  obtain ⟨r, p1, p2⟩ := hb.split
  refine CallOk.perm p1 ?_
  have hp := hi.p0 h0
  unfold atomD at hk
  refine CallOk.intro (args := [_, _]) (rs := [_]) T_ok Try.func58 Try.call58 rfl rfl (by kernel_rfl) rfl rfl ?_
  repeat (first
    | (show _ ∧ _; exact ⟨rfl, rfl, rfl⟩)
    | refine wkP ?_
    | (show OpOk _ _ _ _ _ _ _; first | refine opB (fun b => ?_) | refine opA (fun a' c' hc1 hc2 => ?_))
    | (show GJ _ _ _ _ _ _ _; first | (apply GJ.and; exact rfl; intro hg) | (apply GJ.or; exact rfl; intro hg)))
  obtain ⟨b4, hb4⟩ : ∃ z : Nat, z = b := ⟨_, rfl⟩
  subst hb4
  refine eat_ok (t := t) (s := s) 40 rfl (by decide) (by omega) ?_
  by_cases h40 : peekD t s = 40
  · rw [if_pos h40] at hk
    rw [decide_eq_true h40, eatS, if_pos h40]
    have hia := hi.adv (by rw [h40]; decide)
    repeat (first
      | (show _ ∧ _; exact ⟨rfl, rfl, rfl⟩)
      | refine wkP ?_
      | (show OpOk _ _ _ _ _ _ _; first | refine opB (fun b => ?_) | refine opA (fun a' c' hc1 hc2 => ?_))
      | (show GJ _ _ _ _ _ _ _; first | (apply GJ.and; exact rfl; intro hg) | (apply GJ.or; exact rfl; intro hg)))
    rw [show (32 : Int) - (d : Int) + 1 = 33 - (d : Int) by omega]
    refine ha inferInstance hia h0 hn (fun ro1 v hl1 hv => ?_)
    obtain ⟨a1, c1, hvc⟩ := hv.cells
    have hib : Inv t (altD t d s.adv).2 := Inv.alt hia
    have hpb := hib.p
    subst hvc
    repeat (first
      | (show _ ∧ _; exact ⟨rfl, rfl, rfl⟩)
      | refine wkP ?_
      | (show OpOk _ _ _ _ _ _ _; first | refine opB (fun b => ?_) | refine opA (fun a' c' hc1 hc2 => ?_))
      | (show GJ _ _ _ _ _ _ _; first | (apply GJ.and; exact rfl; intro hg) | (apply GJ.or; exact rfl; intro hg)))
    refine must_ok (t := t) (s := (altD t d s.adv).2) 41 rfl (by decide) (by omega) ?_
    repeat (first
      | (show _ ∧ _; exact ⟨rfl, rfl, rfl⟩)
      | refine wkP ?_
      | (show OpOk _ _ _ _ _ _ _; first | refine opB (fun b => ?_) | refine opA (fun a' c' hc1 hc2 => ?_))
      | (show GJ _ _ _ _ _ _ _; first | (apply GJ.and; exact rfl; intro hg) | (apply GJ.or; exact rfl; intro hg)))
    exact Wk.outS Sup.auto (p2 _) (hk ro1 _ hl1 hv)
  rw [if_neg h40] at hk
  rw [decide_eq_false h40, eatS, if_neg h40]
  repeat (first
    | (show _ ∧ _; exact ⟨rfl, rfl, rfl⟩)
    | refine wkP ?_
    | (show OpOk _ _ _ _ _ _ _; first | refine opB (fun b => ?_) | refine opA (fun a' c' hc1 hc2 => ?_))
    | (show GJ _ _ _ _ _ _ _; first | (apply GJ.and; exact rfl; intro hg) | (apply GJ.or; exact rfl; intro hg)))
  refine eat_ok (t := t) (s := s) 46 rfl (by decide) (by omega) ?_
  by_cases h46 : peekD t s = 46
  · rw [if_pos h46] at hk
    rw [decide_eq_true h46, eatS, if_pos h46]
    repeat (first
      | (show _ ∧ _; exact ⟨rfl, rfl, rfl⟩)
      | refine wkP ?_
      | (show OpOk _ _ _ _ _ _ _; first | refine opB (fun b => ?_) | refine opA (fun a' c' hc1 hc2 => ?_))
      | (show GJ _ _ _ _ _ _ _; first | (apply GJ.and; exact rfl; intro hg) | (apply GJ.or; exact rfl; intro hg)))
    refine all_ok ?_
    repeat (first
      | (show _ ∧ _; exact ⟨rfl, rfl, rfl⟩)
      | refine wkP ?_
      | (show OpOk _ _ _ _ _ _ _; first | refine opB (fun b => ?_) | refine opA (fun a' c' hc1 hc2 => ?_))
      | (show GJ _ _ _ _ _ _ _; first | (apply GJ.and; exact rfl; intro hg) | (apply GJ.or; exact rfl; intro hg)))
    refine node_ok (t := t) (s := s.adv) (k := 2) (z := allD) (a := none) (m := 0) (c := 0) (x := 0) (y := 0) (by show s.n ≤ _; omega) ?_
    repeat (first
      | (show _ ∧ _; exact ⟨rfl, rfl, rfl⟩)
      | refine wkP ?_
      | (show OpOk _ _ _ _ _ _ _; first | refine opB (fun b => ?_) | refine opA (fun a' c' hc1 hc2 => ?_))
      | (show GJ _ _ _ _ _ _ _; first | (apply GJ.and; exact rfl; intro hg) | (apply GJ.or; exact rfl; intro hg)))
    exact Wk.outS Sup.auto (p2 _) (hk ro _ (.refl _) (RgOk.leaf SetIn.all))
  rw [if_neg h46] at hk
  rw [decide_eq_false h46, eatS, if_neg h46]
  repeat (first
    | (show _ ∧ _; exact ⟨rfl, rfl, rfl⟩)
    | refine wkP ?_
    | (show OpOk _ _ _ _ _ _ _; first | refine opB (fun b => ?_) | refine opA (fun a' c' hc1 hc2 => ?_))
    | (show GJ _ _ _ _ _ _ _; first | (apply GJ.and; exact rfl; intro hg) | (apply GJ.or; exact rfl; intro hg)))
  refine eat_ok (t := t) (s := s) 91 rfl (by decide) (by omega) ?_
  by_cases h91 : peekD t s = 91
  · rw [if_pos h91] at hk
    rw [decide_eq_true h91, eatS, if_pos h91]
    repeat (first
      | (show _ ∧ _; exact ⟨rfl, rfl, rfl⟩)
      | refine wkP ?_
      | (show OpOk _ _ _ _ _ _ _; first | refine opB (fun b => ?_) | refine opA (fun a' c' hc1 hc2 => ?_))
      | (show GJ _ _ _ _ _ _ _; first | (apply GJ.and; exact rfl; intro hg) | (apply GJ.or; exact rfl; intro hg)))
    refine set_ok (t := t) (s := s.adv) s.p rfl hp (hi.adv (by rw [h91]; decide)) h0 hl ?_
    have hsn := set_n (t := t) (a := s.p) (s := s.adv)
    have hsi := setD_in (t := t) (a := s.p) (s := s.adv)
    have hsn : (setD t s.p s.adv).2.n = s.n := hsn
    generalize (setD t s.p s.adv).1 = z at hk hsi ⊢
    generalize (setD t s.p s.adv).2 = s2 at hk hsn ⊢
    repeat (first
      | (show _ ∧ _; exact ⟨rfl, rfl, rfl⟩)
      | refine wkP ?_
      | (show OpOk _ _ _ _ _ _ _; first | refine opB (fun b => ?_) | refine opA (fun a' c' hc1 hc2 => ?_))
      | (show GJ _ _ _ _ _ _ _; first | (apply GJ.and; exact rfl; intro hg) | (apply GJ.or; exact rfl; intro hg)))
    refine node_ok (t := t) (s := s2) (k := 2) (z := z) (a := none) (m := 0) (c := 0) (x := 0) (y := 0) (by omega) ?_
    repeat (first
      | (show _ ∧ _; exact ⟨rfl, rfl, rfl⟩)
      | refine wkP ?_
      | (show OpOk _ _ _ _ _ _ _; first | refine opB (fun b => ?_) | refine opA (fun a' c' hc1 hc2 => ?_))
      | (show GJ _ _ _ _ _ _ _; first | (apply GJ.and; exact rfl; intro hg) | (apply GJ.or; exact rfl; intro hg)))
    exact Wk.outS Sup.auto (p2 _) (hk ro _ (.refl _) (RgOk.leaf hsi))
  rw [if_neg h91] at hk
  rw [decide_eq_false h91, eatS, if_neg h91]
  repeat (first
    | (show _ ∧ _; exact ⟨rfl, rfl, rfl⟩)
    | refine wkP ?_
    | (show OpOk _ _ _ _ _ _ _; first | refine opB (fun b => ?_) | refine opA (fun a' c' hc1 hc2 => ?_))
    | (show GJ _ _ _ _ _ _ _; first | (apply GJ.and; exact rfl; intro hg) | (apply GJ.or; exact rfl; intro hg)))
  refine byte_ok (t := t) (s := s) (by omega) ?_
  have hbn := byte_n (t := t) (s := s)
  have hbl := byteD_lt (t := t) (s := s)
  generalize (byteD t s).1 = c at hk hbl ⊢
  generalize (byteD t s).2 = s2 at hk hbn ⊢
  repeat (first
    | (show _ ∧ _; exact ⟨rfl, rfl, rfl⟩)
    | refine wkP ?_
    | (show OpOk _ _ _ _ _ _ _; first | refine opB (fun b => ?_) | refine opA (fun a' c' hc1 hc2 => ?_))
    | (show GJ _ _ _ _ _ _ _; first | (apply GJ.and; exact rfl; intro hg) | (apply GJ.or; exact rfl; intro hg)))
  refine ofD_ok hbl (fun ro1 hl1 => ?_)
  have hoi := of_in hbl
  generalize ofD c = z at hk hoi ⊢
  repeat (first
    | (show _ ∧ _; exact ⟨rfl, rfl, rfl⟩)
    | refine wkP ?_
    | (show OpOk _ _ _ _ _ _ _; first | refine opB (fun b => ?_) | refine opA (fun a' c' hc1 hc2 => ?_))
    | (show GJ _ _ _ _ _ _ _; first | (apply GJ.and; exact rfl; intro hg) | (apply GJ.or; exact rfl; intro hg)))
  refine node_ok (t := t) (s := s2) (k := 2) (z := z) (a := none) (m := 0) (c := 0) (x := 0) (y := 0) (by omega) ?_
  repeat (first
    | (show _ ∧ _; exact ⟨rfl, rfl, rfl⟩)
    | refine wkP ?_
    | (show OpOk _ _ _ _ _ _ _; first | refine opB (fun b => ?_) | refine opA (fun a' c' hc1 hc2 => ?_))
    | (show GJ _ _ _ _ _ _ _; first | (apply GJ.and; exact rfl; intro hg) | (apply GJ.or; exact rfl; intro hg)))
  exact Wk.outS Sup.auto (p2 _) (hk ro1 _ hl1 (RgOk.leaf hoi))
end
end Go.Proofs.Ytkpdnpcmeadggaa
