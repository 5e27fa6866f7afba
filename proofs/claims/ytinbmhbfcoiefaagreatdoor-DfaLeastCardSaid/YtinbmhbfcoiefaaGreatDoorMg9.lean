/- Texts of a walk, one behind the other. -/
import Derived.ChangeKeysEq
import Derived.Test.YtinbmhbfcoiefaaGreatDoorMg3
import Derived.Test.YtinbmhbfcoiefaaGreatDoorMg4
import Derived.Test.YtinbmhbfcoiefaaGreatDoorMg6
import Derived.Test.YtinbmhbfcoiefaaGreatDoorMg8
section
/- Contracts of dfa: groups. -/
namespace Go.Proofs.YtinbmhbfcoiefaaGreatDoor
open Go Go.E
set_option linter.unusedVariables false
set_option linter.unusedSimpArgs false
set_option maxRecDepth 10000
def nV (k : Nat) : Value := .int .i64 (k : Int)
def intV (l : List Int) : List Value := l.map (Value.int .i64)
theorem intV_len (l : List Int) : (intV l).length = l.length := by simp [intV]
theorem intV_set (l : List Int) (k : Nat) (z : Int) : (intV l).set k (.int .i64 z) = intV (l.set k z) := by simp [intV, List.map_set]
theorem intV_zero (n : Nat) : List.replicate n (Value.int .i64 0) = intV (List.replicate n 0) := by simp [intV]
theorem fill_set {α : Type} {L : List α} {n i : Nat} {v z : α} (hL : L.length = n) (hv : L[i]? = some v) : (L.take i ++ List.replicate (n - i) z).set i v = L.take (i + 1) ++ List.replicate (n - (i + 1)) z := by
  have hi := (List.getElem?_eq_some_iff.1 hv).1
  have hl : (L.take i).length = i := by simp; omega
  rw [List.set_append_right _ _ (by omega), hl, Nat.sub_self, show n - i = (n - (i + 1)) + 1 by omega, List.replicate_succ, List.set_cons_zero, List.take_add_one, hv]
  simp
theorem fill_same {α : Type} {L : List α} {n i : Nat} {z : α} (hL : L.length = n) (hv : L[i]? = some z) : L.take i ++ List.replicate (n - i) z = L.take (i + 1) ++ List.replicate (n - (i + 1)) z := by
  have hi := (List.getElem?_eq_some_iff.1 hv).1
  rw [show n - i = (n - (i + 1)) + 1 by omega, List.replicate_succ, List.take_add_one, hv]
  simp
theorem fill_len {α : Type} {L : List α} {n i : Nat} {z : α} (hL : L.length = n) (hi : i ≤ n) : (L.take i ++ List.replicate (n - i) z).length = n := by simp; omega
theorem snoc_set {α : Type} {out : List α} {i n : Nat} {v z : α} (hl : out.length = i) (hi : i < n) : (out ++ List.replicate (n - i) z).set i v = (out ++ [v]) ++ List.replicate (n - (i + 1)) z := by
  rw [List.set_append_right _ _ (by omega), hl, Nat.sub_self, show n - i = (n - (i + 1)) + 1 by omega, List.replicate_succ, List.set_cons_zero]
  simp
theorem full_le {d : DfaA} {m : Nat} {g : List Int} (hl : g.length = d.next.length) (hm : FullG d m g) : m ≤ d.next.length := by
  have h1 : ∀ x ∈ (List.range m).map (fun k : Nat => (k : Int)), x ∈ g := fun x hx => by
    obtain ⟨k, hk, rfl⟩ := List.mem_map.1 hx
    obtain ⟨s, h1, _, h2⟩ := hm.all k (List.mem_range.1 hk)
    unfold getI' at h2
    rw [List.getElem?_eq_getElem (by rw [hl]; exact h1), Option.getD_some] at h2
    exact h2 ▸ List.getElem_mem _
  have h3 : ((List.range m).map (fun k : Nat => (k : Int))).Nodup := List.pairwise_map.2 (List.nodup_range.imp fun {x y} h e => h (by omega))
  have := nodup_le h3 h1
  rw [List.length_map, List.length_range, hl] at this; exact this
theorem bang {α : Type} [Inhabited α] {l : List α} {i : Nat} {x : α} (h : l[i]? = some x) : l[((i : Nat) : Int).toNat]! = x := by
  rw [Int.toNat_natCast, List.getElem!_eq_getElem?_getD, h]; rfl
/-- What holds ahead of each round. -/
structure GrpI (d : DfaA) (f m : Nat) (g : List Int) : Prop where
  ok : GrpOk d g
  full : m = 0 ∨ FullG d m g
  fuel : d.next.length < f + m
  fin : grpL d f m g = grpA d
  hi : ∀ s, s < d.next.length → getI' g s ≤ 4096
theorem GrpI.start {w : Nat} {d : DfaA} (h : DfaOk w d) (hs : SurA w d) : GrpI d (d.next.length + 1) 0 (grp0 d) := by
  refine ⟨grp0_ok h hs, .inl rfl, by omega, rfl, fun s hs1 => ?_⟩
  unfold getI' grp0
  rw [List.getElem?_map, List.getElem?_range hs1]
  show (if _ then (if _ then (1 : Int) else 0) else -1) ≤ 4096
  split
  · split <;> omega
  · omega
theorem GrpI.pos {d : DfaA} {f m : Nat} {g : List Int} (h : GrpI d f m g) : ∃ k, f = k + 1 := by
  have hm : m ≤ d.next.length := h.full.elim (fun e => by omega) (full_le h.ok.len)
  have := h.fuel
  exact ⟨f - 1, by omega⟩
theorem GrpI.done {d : DfaA} {f m : Nat} {g : List Int} (h : GrpI d (f + 1) m g) (he : (refA d g d.next.length 0 [] []).1.length = m) : (refA d g d.next.length 0 [] []).2 = grpA d := by
  have := h.fin
  rwa [grpL, if_pos he] at this
theorem GrpI.next {w : Nat} {d : DfaA} {f m : Nat} {g : List Int} (ho : DfaOk w d) (hs : SurA w d) (hn4 : d.next.length ≤ 4096) (h : GrpI d (f + 1) m g) (he : ¬ (refA d g d.next.length 0 [] []).1.length = m) : GrpI d f (refA d g d.next.length 0 [] []).1.length (refA d g d.next.length 0 [] []).2 := by
  have hf := h.fin
  rw [grpL, if_neg he] at hf
  have hn := ref_all d g
  generalize refA d g d.next.length 0 [] [] = r at *
  obtain ⟨o1, o2, o3⟩ := h.ok.ref ho hs hn
  have hfu := h.fuel
  have hle := full_le o1.len o2
  refine ⟨o1, .inr o2, ?_, hf, fun s hs1 => by have := o2.lt s hs1; omega⟩
  rcases h.full with hm | hm
  · omega
  · have := (stable_round h.ok hm hn).1; omega
theorem getI_some {g : List Int} {s : Nat} {z : Int} (h : g[s]? = some z) : getI' g s = z := by unfold getI'; rw [h]; rfl
theorem keyA_adm {w : Nat} {d : DfaA} {f m : Nat} {g : List Int} (ho : DfaOk w d) (h : GrpI d f m g) {i : Nat} (hi : i < d.next.length) : AdmK (keyA d g i) ∧ (keyA d g i).length = w + 1 := by
  have hr := List.getElem?_eq_getElem hi
  have hat : ∀ z : Int, (z = -1 ∨ (0 ≤ z ∧ z < d.next.length)) → -1 ≤ grpAt g z ∧ grpAt g z ≤ 4096 := fun z hz => by
    unfold grpAt
    split
    · exact ⟨h.ok.low _ (by omega), h.hi _ (by omega)⟩
    · omega
  refine ⟨fun z hz => ?_, ?_⟩
  · unfold keyA at hz
    rw [hr, Option.getD_some] at hz
    rcases List.mem_cons.1 hz with rfl | hz
    · have := h.ok.low i hi; have := h.hi i hi; omega
    · obtain ⟨y, hy, rfl⟩ := List.mem_map.1 hz
      have := hat y (ho.to _ (List.getElem_mem hi) y hy)
      omega
  · unfold keyA
    rw [hr, Option.getD_some, List.length_cons, List.length_map, ho.row _ (List.getElem_mem hi)]
section
variable {ro : Ro} {own r : Chs} {K : Value → Ro → Chs → Prop} {g : Chunk → Chs}
set_option maxHeartbeats 8000000 in
theorem dgroups_ok {q w : Nat} {d : DfaA} (hD : DAt ro q d) (ho : DfaOk w d) (hs : SurA w d) (hn : d.next.length ≤ 4096) (hw : w ≤ 256)
    (hk : ∀ a c, d.next.length ≤ c → c ≤ maxLen → K (.slice a d.next.length c) ro (.sl a d.next.length c 3 1 (intV (grpA d)) :: own)) : CallOk Tryz.prog 32 #[ptr' q] ro own K := by
  obtain ⟨an, cn, aa, ca, hsv, hd⟩ := hD.rd
  have hN := hd.ldN
  have hA := hd.ldA
  have hrs := hd.rs
  have hra := hd.ra
  have hal := ho.acc
  have hll := liveA_len ho
  have hg0 : (grp0 d).length = d.next.length := by simp [grp0]
  have hcm := hrs.max
  have hcl := hrs.le
  unfold maxLen at hcm
  refine CallOk.intro (args := [_]) (rs := [_]) T_ok Tryz.func32 Tryz.call32 rfl rfl (by kernel_rfl) rfl rfl ?_
  repeat (first | exact endA | refine wkP ?_ | refine opB (fun b => ?_) | refine opA (fun a' c' hc1 hc2 => ?_) | (apply GJ.and; exact rfl; intro hg) | (apply GJ.or; exact rfl; intro hg))
  refine dalive_ok hD ho hn (fun al cl l1 l2 => ?_)
  repeat (first | exact endA | refine wkP ?_ | refine opB (fun b => ?_) | refine opA (fun a' c' hc1 hc2 => ?_) | (apply GJ.and; exact rfl; intro hg) | (apply GJ.or; exact rfl; intro hg))
  refine dlen_ok hD ?_
  repeat (first | exact endA | refine wkP ?_ | refine opB (fun b => ?_) | refine opA (fun a' c' hc1 hc2 => ?_) | (apply GJ.and; exact rfl; intro hg) | (apply GJ.or; exact rfl; intro hg))
  rw [Int.toNat_natCast, intV_zero]
  refine LoopOk.at (ι := Nat) Keep.auto (fun i => [(23, .int .i64 (i : Int))]) (fun i => .sl (some ⟨b, 0, none⟩) d.next.length d.next.length 3 1 (intV ((grp0 d).take i ++ List.replicate (d.next.length - i) 0)) :: .sl al d.next.length cl 4 1 (boolsV (liveA d)) :: own) (fun i => i ≤ d.next.length) (fun i => d.next.length - i) 0 ?_ Sub.auto Sup.auto ?_
  · exact Nat.zero_le _
  rintro i i1
  dsimp only [List.cons_append, List.nil_append] at i1 ⊢
  have hfl := fill_len (z := (0 : Int)) hg0 i1
  have hfv := intV_len ((grp0 d).take i ++ List.replicate (d.next.length - i) 0)
  by_cases hi : i < d.next.length
  · obtain ⟨p, hp⟩ : ∃ p, (liveA d)[i]? = some p := ⟨_, List.getElem?_eq_getElem (by omega)⟩
    obtain ⟨e, he⟩ : ∃ p, d.acc[i]? = some p := ⟨_, List.getElem?_eq_getElem (by omega)⟩
    have hgp : (boolsV (liveA d))[i]? = some (.bool p) := by simp [boolsV, hp]
    have hge : (d.acc.map Value.bool)[i]? = some (.bool e) := by simp [he]
    have hgv : (grp0 d)[i]? = some (if p then (if e then 1 else 0) else -1) := by
      unfold grp0
      rw [List.getElem?_map, List.getElem?_range hi, Option.map_some, getB_some hp, getB_some he]
    cases p with
    | false =>
      have hfs := fill_set (z := (0 : Int)) hg0 hgv
      repeat (first | exact endA | refine wkP ?_ | refine opB (fun b => ?_) | refine opA (fun a' c' hc1 hc2 => ?_) | (apply GJ.and; exact rfl; intro hg) | (apply GJ.or; exact rfl; intro hg))
      rw [bang hp]
      repeat (first | exact endA | refine wkP ?_ | refine opB (fun b => ?_) | refine opA (fun a' c' hc1 hc2 => ?_) | (apply GJ.and; exact rfl; intro hg) | (apply GJ.or; exact rfl; intro hg))
      refine OpOk.storeSlAt' (k := i) rfl rfl rfl rfl (by rw [Int.toNat_natCast]) (by omega) ?_
      rw [intV_set, show (-1 : Int) = (if false = true then (if e = true then 1 else 0) else -1) from rfl, hfs]
      repeat (first | exact endA | refine wkP ?_ | refine opB (fun b => ?_) | refine opA (fun a' c' hc1 hc2 => ?_) | (apply GJ.and; exact rfl; intro hg) | (apply GJ.or; exact rfl; intro hg))
      repeat (first | exact endA | refine wkP ?_ | refine opB (fun b => ?_) | refine opA (fun a' c' hc1 hc2 => ?_) | (apply GJ.and; exact rfl; intro hg) | (apply GJ.or; exact rfl; intro hg))
      refine Wk.id ⟨i + 1, ⟨rfl, ?_⟩, ?_, Sub.auto, Sup.auto⟩
      all_goals try dsimp only
      · omega
      · omega
    | true =>
      repeat (first | exact endA | refine wkP ?_ | refine opB (fun b => ?_) | refine opA (fun a' c' hc1 hc2 => ?_) | (apply GJ.and; exact rfl; intro hg) | (apply GJ.or; exact rfl; intro hg))
      rw [bang hp]
      repeat (first | exact endA | refine wkP ?_ | refine opB (fun b => ?_) | refine opA (fun a' c' hc1 hc2 => ?_) | (apply GJ.and; exact rfl; intro hg) | (apply GJ.or; exact rfl; intro hg))
      rw [bang he]
      cases e with
      | true =>
        have hfs := fill_set (z := (0 : Int)) hg0 hgv
        repeat (first | exact endA | refine wkP ?_ | refine opB (fun b => ?_) | refine opA (fun a' c' hc1 hc2 => ?_) | (apply GJ.and; exact rfl; intro hg) | (apply GJ.or; exact rfl; intro hg))
        refine OpOk.storeSlAt' (k := i) rfl rfl rfl rfl (by rw [Int.toNat_natCast]) (by omega) ?_
        rw [intV_set, show (1 : Int) = (if true = true then (if true = true then 1 else 0) else -1) from rfl, hfs]
        repeat (first | exact endA | refine wkP ?_ | refine opB (fun b => ?_) | refine opA (fun a' c' hc1 hc2 => ?_) | (apply GJ.and; exact rfl; intro hg) | (apply GJ.or; exact rfl; intro hg))
        repeat (first | exact endA | refine wkP ?_ | refine opB (fun b => ?_) | refine opA (fun a' c' hc1 hc2 => ?_) | (apply GJ.and; exact rfl; intro hg) | (apply GJ.or; exact rfl; intro hg))
        refine Wk.id ⟨i + 1, ⟨rfl, ?_⟩, ?_, Sub.auto, Sup.auto⟩
        all_goals try dsimp only
        · omega
        · omega
      | false =>
        have hfs := fill_same (n := d.next.length) (z := (0 : Int)) hg0 hgv
        rw [hfs]
        repeat (first | exact endA | refine wkP ?_ | refine opB (fun b => ?_) | refine opA (fun a' c' hc1 hc2 => ?_) | (apply GJ.and; exact rfl; intro hg) | (apply GJ.or; exact rfl; intro hg))
        repeat (first | exact endA | refine wkP ?_ | refine opB (fun b => ?_) | refine opA (fun a' c' hc1 hc2 => ?_) | (apply GJ.and; exact rfl; intro hg) | (apply GJ.or; exact rfl; intro hg))
        refine Wk.id ⟨i + 1, ⟨rfl, ?_⟩, ?_, Sub.auto, Sup.auto⟩
        all_goals try dsimp only
        · omega
        · omega
  · obtain rfl : i = d.next.length := by omega
    rw [List.take_of_length_le (by omega), Nat.sub_self, List.replicate_zero, List.append_nil] at *
    repeat (first | exact endA | refine wkP ?_ | refine opB (fun b => ?_) | refine opA (fun a' c' hc1 hc2 => ?_) | (apply GJ.and; exact rfl; intro hg) | (apply GJ.or; exact rfl; intro hg))
    refine LoopOk.at (ι := Nat × Nat × List Int × Option Addr × Nat) Keep.auto (fun (f, m, gr, ag, cg) => [(6, .int .i64 (m : Int)), (4, .slice ag d.next.length cg)]) (fun (f, m, gr, ag, cg) => .sl ag d.next.length cg 3 1 (intV gr) :: own) (fun (f, m, gr, ag, cg) => GrpI d f m gr ∧ d.next.length ≤ cg ∧ cg ≤ maxLen) (fun (f, m, gr, ag, cg) => f) (d.next.length + 1, 0, grp0 d, some ⟨b, 0, none⟩, d.next.length) ?_ Sub.auto Sup.auto ?_
    · exact ⟨GrpI.start ho hs, Nat.le_refl _, by unfold maxLen; omega⟩
    rintro ⟨f, m, gr, ag, cg⟩ ⟨j1, j2, j3⟩
    dsimp only [List.cons_append, List.nil_append] at j1 j2 j3 ⊢
    obtain ⟨f, rfl⟩ := j1.pos
    have hgl := j1.ok.len
    repeat (first | exact endA | refine wkP ?_ | refine opB (fun b => ?_) | refine opA (fun a' c' hc1 hc2 => ?_) | (apply GJ.and; exact rfl; intro hg) | (apply GJ.or; exact rfl; intro hg))
    refine OpOk.makeMapG (kv := str) (vv := nV) (fun bM => ?_)
    repeat (first | exact endA | refine wkP ?_ | refine opB (fun b => ?_) | refine opA (fun a' c' hc1 hc2 => ?_) | (apply GJ.and; exact rfl; intro hg) | (apply GJ.or; exact rfl; intro hg))
    rw [Int.toNat_natCast, intV_zero]
    obtain ⟨bX, hbX⟩ : ∃ z : Nat, z = b := ⟨_, rfl⟩
    subst hbX
    have hR : refA d gr (d.next.length - 0) 0 [] [] = refA d gr d.next.length 0 [] [] := rfl
    obtain ⟨R, hRR⟩ : ∃ R, refA d gr d.next.length 0 [] [] = R := ⟨_, rfl⟩
    rw [hRR] at hR
    have hdone := j1.done
    have hnext := j1.next ho hs hn
    rw [hRR] at hdone hnext
    refine LoopOk.at (ι := Nat × List Int × List (List Int) × List (List UInt8 × Nat × Nat) × Nat) Keep.auto (fun (i, out, seen, M, cM) => [(56, .int .i64 (i : Int))]) (fun (i, out, seen, M, cM) => .sl (some ⟨bX, 0, none⟩) d.next.length d.next.length 3 1 (intV (out ++ List.replicate (d.next.length - i) 0)) :: .obj bM (mapG str nV M cM) :: .sl ag d.next.length cg 3 1 (intV gr) :: own) (fun (i, out, seen, M, cM) => i ≤ d.next.length ∧ out.length = i ∧ KeyM (w + 1) seen M ∧ refA d gr (d.next.length - i) i seen out = R) (fun (i, out, seen, M, cM) => d.next.length - i) (0, [], [], [], 0) ?_ Sub.auto Sup.auto ?_
    · exact ⟨Nat.zero_le _, rfl, KeyM.nil _, hR⟩
    rintro ⟨i, out, seen, M, cM⟩ ⟨k1, k2, k3, k4⟩
    dsimp only [List.cons_append, List.nil_append] at k1 k2 k3 k4 ⊢
    by_cases hi : i < d.next.length
    · obtain ⟨row, hrow⟩ : ∃ row, d.next[i]? = some row := ⟨_, List.getElem?_eq_getElem hi⟩
      obtain ⟨ar, cr, q1, q2⟩ := hd.rows i row hrow
      obtain ⟨z, hz⟩ : ∃ z, gr[i]? = some z := ⟨_, List.getElem?_eq_getElem (by omega)⟩
      have hzl := j1.ok.low i hi
      have hzh := j1.hi i hi
      have hzg := getI_some hz
      have hbz := bang hz
      have hka := keyA_adm ho j1 hi
      have hrm := q2.max
      have hrl := q2.le
      have hrw := ho.row row (List.mem_of_getElem? hrow)
      unfold maxLen at hrm
      have hss : ∀ v : Int, (intV (out ++ List.replicate (d.next.length - i) 0)).set i (.int .i64 v) = intV ((out ++ [v]) ++ List.replicate (d.next.length - (i + 1)) 0) := fun v => by rw [intV_set, snoc_set k2 hi]
      have hol : (intV (out ++ List.replicate (d.next.length - i) 0)).length = d.next.length := by rw [intV_len]; simp; omega
      rw [show d.next.length - i = (d.next.length - (i + 1)) + 1 by omega, refA, hzg] at k4
      rw [hzg] at hzl hzh
      by_cases h1 : z = -1
      · rw [if_pos h1] at k4
        subst h1
        repeat (first | exact endA | refine wkP ?_ | refine opB (fun b => ?_) | refine opA (fun a' c' hc1 hc2 => ?_) | (apply GJ.and; exact rfl; intro hg) | (apply GJ.or; exact rfl; intro hg))
        refine OpOk.load rfl rfl (Go.E.Ld.rs hrs (by rw [Int.toNat_natCast]; exact q1)) ?_
        repeat (first | exact endA | refine wkP ?_ | refine opB (fun b => ?_) | refine opA (fun a' c' hc1 hc2 => ?_) | (apply GJ.and; exact rfl; intro hg) | (apply GJ.or; exact rfl; intro hg))
        rw [bang hz]
        repeat (first | exact endA | refine wkP ?_ | refine opB (fun b => ?_) | refine opA (fun a' c' hc1 hc2 => ?_) | (apply GJ.and; exact rfl; intro hg) | (apply GJ.or; exact rfl; intro hg))
        refine OpOk.storeSlAt' (k := i) rfl rfl rfl rfl (by rw [Int.toNat_natCast]) (by omega) ?_
        rw [hss]
        repeat (first | exact endA | refine wkP ?_ | refine opB (fun b => ?_) | refine opA (fun a' c' hc1 hc2 => ?_) | (apply GJ.and; exact rfl; intro hg) | (apply GJ.or; exact rfl; intro hg))
        repeat (first | exact endA | refine wkP ?_ | refine opB (fun b => ?_) | refine opA (fun a' c' hc1 hc2 => ?_) | (apply GJ.and; exact rfl; intro hg) | (apply GJ.or; exact rfl; intro hg))
        refine Wk.id ⟨(i + 1, out ++ [-1], seen, M, cM), ⟨rfl, ?_⟩, ?_, Sub.auto, Sup.auto⟩
        all_goals try dsimp only
        · exact ⟨by omega, by simp [k2], k3, k4⟩
        · omega
      · rw [if_neg h1] at k4
        repeat (first | exact endA | refine wkP ?_ | refine opB (fun b => ?_) | refine opA (fun a' c' hc1 hc2 => ?_) | (apply GJ.and; exact rfl; intro hg) | (apply GJ.or; exact rfl; intro hg))
        refine OpOk.load rfl rfl (Go.E.Ld.rs hrs (by rw [Int.toNat_natCast]; exact q1)) ?_
        repeat (first | exact endA | refine wkP ?_ | refine opB (fun b => ?_) | refine opA (fun a' c' hc1 hc2 => ?_) | (apply GJ.and; exact rfl; intro hg) | (apply GJ.or; exact rfl; intro hg))
        rw [bang hz]
        repeat (first | exact endA | refine wkP ?_ | refine opB (fun b => ?_) | refine opA (fun a' c' hc1 hc2 => ?_) | (apply GJ.and; exact rfl; intro hg) | (apply GJ.or; exact rfl; intro hg))
        refine LoopOk.at (ι := Nat × Option Addr × Nat) Keep.auto (fun (j, a1, c1) => [(77, .int .i64 (j : Int)), (11, .slice a1 (j + 1) c1)]) (fun (j, a1, c1) => .sl a1 (j + 1) c1 3 1 (intV ((z + 1) :: (row.take j).map fun y => grpAt gr y + 1)) :: .sl (some ⟨bX, 0, none⟩) d.next.length d.next.length 3 1 (intV (out ++ List.replicate (d.next.length - i) 0)) :: .obj bM (mapG str nV M cM) :: .sl ag d.next.length cg 3 1 (intV gr) :: own) (fun (j, a1, c1) => j ≤ row.length ∧ j + 1 ≤ c1 ∧ c1 ≤ maxLen) (fun (j, a1, c1) => row.length - j) (0, some ⟨b, 0, none⟩, 1) ?_ Sub.auto Sup.auto ?_
        · exact ⟨Nat.zero_le _, Nat.le_refl _, by unfold maxLen; omega⟩
        rintro ⟨j, a1, c1⟩ ⟨n1, n2, n3⟩
        dsimp only [List.cons_append, List.nil_append] at n1 n2 n3 ⊢
        have htl : (intV ((z + 1) :: (row.take j).map fun y => grpAt gr y + 1)).length = j + 1 := by rw [intV_len]; simp; omega
        by_cases hj : j < row.length
        · obtain ⟨y, hy⟩ : ∃ y, row[j]? = some y := ⟨_, List.getElem?_eq_getElem hj⟩
          have hby := bang hy
          have hyto := ho.to row (List.mem_of_getElem? hrow) y (List.mem_of_getElem? hy)
          have htk : row.take (j + 1) = row.take j ++ [y] := by rw [List.take_add_one, hy]; rfl
          have happ : intV ((z + 1) :: (row.take j).map fun y => grpAt gr y + 1) ++ [.int .i64 (grpAt gr y + 1)] = intV ((z + 1) :: (row.take (j + 1)).map fun y => grpAt gr y + 1) := by rw [htk]; simp [intV]
          by_cases hy0 : y < 0
          · have hgy : grpAt gr y = y := by unfold grpAt; rw [if_neg (by omega)]
            rw [hgy] at happ
            repeat (first | exact endA | refine wkP ?_ | refine opB (fun b => ?_) | refine opA (fun a' c' hc1 hc2 => ?_) | (apply GJ.and; exact rfl; intro hg) | (apply GJ.or; exact rfl; intro hg))
            rw [hby, happ]
            repeat (first | exact endA | refine wkP ?_ | refine opB (fun b => ?_) | refine opA (fun a' c' hc1 hc2 => ?_) | (apply GJ.and; exact rfl; intro hg) | (apply GJ.or; exact rfl; intro hg))
            repeat (first | exact endA | refine wkP ?_ | refine opB (fun b => ?_) | refine opA (fun a' c' hc1 hc2 => ?_) | (apply GJ.and; exact rfl; intro hg) | (apply GJ.or; exact rfl; intro hg))
            refine Wk.id ⟨(j + 1, a', c'), ⟨rfl, ?_⟩, ?_, Sub.auto, Sup.auto⟩
            all_goals try dsimp only
            · exact ⟨by omega, hc1, hc2⟩
            · omega
          · obtain ⟨u, rfl⟩ : ∃ u : Nat, y = (u : Int) := ⟨y.toNat, by omega⟩
            obtain ⟨x, hx⟩ : ∃ x, gr[u]? = some x := ⟨_, List.getElem?_eq_getElem (by omega)⟩
            have hgy : grpAt gr (u : Int) = x := by unfold grpAt; rw [if_pos (by omega), Int.toNat_natCast, getI_some hx]
            have hxl := j1.ok.low u (by omega)
            have hxh := j1.hi u (by omega)
            rw [getI_some hx] at hxl hxh
            have hbx := bang hx
            rw [hgy] at happ
            repeat (first | exact endA | refine wkP ?_ | refine opB (fun b => ?_) | refine opA (fun a' c' hc1 hc2 => ?_) | (apply GJ.and; exact rfl; intro hg) | (apply GJ.or; exact rfl; intro hg))
            rw [hby, hbx]
            refine ⟨⟨by omega, by omega⟩, ?_⟩
            repeat (first | exact endA | refine wkP ?_ | refine opB (fun b => ?_) | refine opA (fun a' c' hc1 hc2 => ?_) | (apply GJ.and; exact rfl; intro hg) | (apply GJ.or; exact rfl; intro hg))
            rw [happ]
            repeat (first | exact endA | refine wkP ?_ | refine opB (fun b => ?_) | refine opA (fun a' c' hc1 hc2 => ?_) | (apply GJ.and; exact rfl; intro hg) | (apply GJ.or; exact rfl; intro hg))
            repeat (first | exact endA | refine wkP ?_ | refine opB (fun b => ?_) | refine opA (fun a' c' hc1 hc2 => ?_) | (apply GJ.and; exact rfl; intro hg) | (apply GJ.or; exact rfl; intro hg))
            refine Wk.id ⟨(j + 1, a', c'), ⟨rfl, ?_⟩, ?_, Sub.auto, Sup.auto⟩
            all_goals try dsimp only
            · exact ⟨by omega, hc1, hc2⟩
            · omega
        · obtain rfl : j = row.length := by omega
          rw [List.take_length] at *
          have hkey : (z + 1) :: row.map (fun y => grpAt gr y + 1) = keyA d gr i := by unfold keyA; rw [hrow, hzg]; rfl
          rw [hkey] at *
          repeat (first | exact endA | refine wkP ?_ | refine opB (fun b => ?_) | refine opA (fun a' c' hc1 hc2 => ?_) | (apply GJ.and; exact rfl; intro hg) | (apply GJ.or; exact rfl; intro hg))
          have hkr : Rds ro (.sl a1 (row.length + 1) c1 3 1 (intV (keyA d gr i)) :: .sl (some ⟨bX, 0, none⟩) d.next.length d.next.length 3 1 (intV (out ++ List.replicate (d.next.length - i) 0)) :: .obj bM (mapG str nV M cM) :: .sl ag d.next.length cg 3 1 (intV gr) :: own) a1 (row.length + 1) c1 1 ((keyA d gr i).map (Value.int .i64)) := Rds.hasSl n2 n3 (by show (intV _).length = _; rw [intV_len, hka.2]; omega)
          refine key_ok (l := keyA d gr i) hkr (by rw [hka.2]; omega) (by omega) hka.1 ?_
          have hkl : (keyT (keyA d gr i)).length ≤ maxLen := by rw [keyT_len, hka.2]; unfold maxLen; omega
          have hgk := k3.at' _ hka.1
          repeat (first | exact endA | refine wkP ?_ | refine opB (fun b => ?_) | refine opA (fun a' c' hc1 hc2 => ?_) | (apply GJ.and; exact rfl; intro hg) | (apply GJ.or; exact rfl; intro hg))
          refine OpOk.lookupOkG (kt := 9) (et := 3) (kv := str) (vv := nV) (k := keyT (keyA d gr i)) (z := .int .i64 0) rfl rfl (by kernel_rfl) (KeyEnc.text (by kernel_rfl)) k3.map hkl (by kernel_rfl) ?_
          rw [hgk]
          cases hidx : seen.idxOf? (keyA d gr i) with
          | some u =>
            rw [hidx] at k4
            dsimp only at k4
            simp only [Option.map_some, Option.getD_some, Option.isSome_some, nV]
            repeat (first | exact endA | refine wkP ?_ | refine opB (fun b => ?_) | refine opA (fun a' c' hc1 hc2 => ?_) | (apply GJ.and; exact rfl; intro hg) | (apply GJ.or; exact rfl; intro hg))
            refine OpOk.storeSlAt' (k := i) rfl rfl rfl rfl (by rw [Int.toNat_natCast]) (by omega) ?_
            rw [hss]
            repeat (first | exact endA | refine wkP ?_ | refine opB (fun b => ?_) | refine opA (fun a' c' hc1 hc2 => ?_) | (apply GJ.and; exact rfl; intro hg) | (apply GJ.or; exact rfl; intro hg))
            repeat (first | exact endA | refine wkP ?_ | refine opB (fun b => ?_) | refine opA (fun a' c' hc1 hc2 => ?_) | (apply GJ.and; exact rfl; intro hg) | (apply GJ.or; exact rfl; intro hg))
            refine Wk.id ⟨(i + 1, out ++ [(u : Int)], seen, M, cM), ⟨rfl, ?_⟩, ?_, Sub.auto, Sup.auto⟩
            all_goals try dsimp only
            · exact ⟨by omega, by simp [k2], k3, k4⟩
            · omega
          | none =>
            rw [hidx] at k4
            dsimp only at k4
            have hpush := k3.push (by omega) hka.1 (Nat.le_of_eq hka.2) hidx cM
            have hMl := k3.len
            simp only [Option.map_none, Option.getD_none, Option.isSome_none]
            repeat (first | exact endA | refine wkP ?_ | refine opB (fun b => ?_) | refine opA (fun a' c' hc1 hc2 => ?_) | (apply GJ.and; exact rfl; intro hg) | (apply GJ.or; exact rfl; intro hg))
            refine OpOk.lenG (kv := str) (vv := nV) (et := 3) (kt := 9) rfl (by kernel_rfl) ?_
            rw [hMl]
            repeat (first | exact endA | refine wkP ?_ | refine opB (fun b => ?_) | refine opA (fun a' c' hc1 hc2 => ?_) | (apply GJ.and; exact rfl; intro hg) | (apply GJ.or; exact rfl; intro hg))
            refine key_ok (l := keyA d gr i) hkr (by rw [hka.2]; omega) (by omega) hka.1 ?_
            repeat (first | exact endA | refine wkP ?_ | refine opB (fun b => ?_) | refine opA (fun a' c' hc1 hc2 => ?_) | (apply GJ.and; exact rfl; intro hg) | (apply GJ.or; exact rfl; intro hg))
            refine OpOk.mapUpdateG (kt := 9) (et := 3) (kv := str) (vv := nV) (k := keyT (keyA d gr i)) (v := seen.length) rfl rfl rfl (by kernel_rfl) (KeyEnc.text (by kernel_rfl)) k3.map hkl (fun c2 => ?_)
            repeat (first | exact endA | refine wkP ?_ | refine opB (fun b => ?_) | refine opA (fun a' c' hc1 hc2 => ?_) | (apply GJ.and; exact rfl; intro hg) | (apply GJ.or; exact rfl; intro hg))
            refine OpOk.storeSlAt' (k := i) rfl rfl rfl rfl (by rw [Int.toNat_natCast]) (by omega) ?_
            rw [hss]
            repeat (first | exact endA | refine wkP ?_ | refine opB (fun b => ?_) | refine opA (fun a' c' hc1 hc2 => ?_) | (apply GJ.and; exact rfl; intro hg) | (apply GJ.or; exact rfl; intro hg))
            repeat (first | exact endA | refine wkP ?_ | refine opB (fun b => ?_) | refine opA (fun a' c' hc1 hc2 => ?_) | (apply GJ.and; exact rfl; intro hg) | (apply GJ.or; exact rfl; intro hg))
            refine Wk.id ⟨(i + 1, out ++ [(seen.length : Int)], seen ++ [keyA d gr i], putG M cM (keyT (keyA d gr i)) seen.length, c2), ⟨rfl, ?_⟩, ?_, Sub.auto, Sup.auto⟩
            all_goals try dsimp only
            · exact ⟨by omega, by simp [k2], hpush, k4⟩
            · omega
    · obtain rfl : i = d.next.length := by omega
      rw [Nat.sub_self, refA] at k4
      subst k4
      rw [Nat.sub_self, List.replicate_zero, List.append_nil]
      have hMl := k3.len
      dsimp only at hdone hnext
      repeat (first | exact endA | refine wkP ?_ | refine opB (fun b => ?_) | refine opA (fun a' c' hc1 hc2 => ?_) | (apply GJ.and; exact rfl; intro hg) | (apply GJ.or; exact rfl; intro hg))
      refine OpOk.lenG (kv := str) (vv := nV) (et := 3) (kt := 9) rfl (by kernel_rfl) ?_
      rw [hMl]
      repeat (first | exact endA | refine wkP ?_ | refine opB (fun b => ?_) | refine opA (fun a' c' hc1 hc2 => ?_) | (apply GJ.and; exact rfl; intro hg) | (apply GJ.or; exact rfl; intro hg))
      by_cases he : seen.length = m
      · have hfin := hdone he
        subst hfin
        repeat (first | exact endA | refine wkP ?_ | refine opB (fun b => ?_) | refine opA (fun a' c' hc1 hc2 => ?_) | (apply GJ.and; exact rfl; intro hg) | (apply GJ.or; exact rfl; intro hg))
        exact Wk.outS Sup.auto (.refl _) (hk _ _ (Nat.le_refl _) (by unfold maxLen; omega))
      · have hnx := hnext he
        repeat (first | exact endA | refine wkP ?_ | refine opB (fun b => ?_) | refine opA (fun a' c' hc1 hc2 => ?_) | (apply GJ.and; exact rfl; intro hg) | (apply GJ.or; exact rfl; intro hg))
        refine OpOk.lenG (kv := str) (vv := nV) (et := 3) (kt := 9) rfl (by kernel_rfl) ?_
        rw [hMl]
        repeat (first | exact endA | refine wkP ?_ | refine opB (fun b => ?_) | refine opA (fun a' c' hc1 hc2 => ?_) | (apply GJ.and; exact rfl; intro hg) | (apply GJ.or; exact rfl; intro hg))
        refine Wk.id ⟨(f, seen.length, out, some ⟨bX, 0, none⟩, d.next.length), ⟨rfl, ?_⟩, ?_, Sub.auto, Sup.auto⟩
        all_goals try dsimp only
        · exact ⟨hnx, Nat.le_refl _, by unfold maxLen; omega⟩
        · omega
end
end Go.Proofs.YtinbmhbfcoiefaaGreatDoor
end
section
/- Contracts of dfa: narrow. -/
namespace Go.E
open Go
theorem Take.ofMem {c : Chunk} : ∀ {l : Chs}, c ∈ l → ∃ r, Take l c r ∧ l.Perm (c :: r)
  | [], h => by cases h
  | x :: l, h => by
    rcases List.mem_cons.1 h with rfl | h
    · exact ⟨l, Take.hit _ _, .refl _⟩
    · obtain ⟨r, h1, h2⟩ := Take.ofMem h
      exact ⟨x :: r, Take.miss _ h1, (h2.cons x).trans (List.Perm.swap _ _ _)⟩
theorem Sup.ofPerm : ∀ {o l : Chs}, l.Perm o → Sup l o
  | [], l, h => Sup.nil _
  | c :: o, l, h => by
    obtain ⟨r, h1, h2⟩ := Take.ofMem (l := l) (c := c) (h.symm.subset (List.mem_cons_self ..))
    exact Sup.cons h1 (Sup.ofPerm ((List.perm_cons c).1 (h2.symm.trans h)))
end Go.E
namespace Go.Proofs.YtinbmhbfcoiefaaGreatDoor
open Go Go.E
set_option linter.unusedVariables false
set_option linter.unusedSimpArgs false
set_option maxRecDepth 10000
/-- A row of numbers of one's own: where it lies, how much room it has, what is in it. -/
abbrev RowJ := (Option Addr × Nat) × List Int
def hdrJ (r : RowJ) : Value := .slice r.1.1 r.2.length r.1.2
def rowJ (r : RowJ) : Chunk := .sl r.1.1 r.2.length r.1.2 3 1 (intV r.2)
def nilJ : RowJ := ((none, 0), [])
theorem rowsJ_split {R : List RowJ} {i : Nat} {x : RowJ} (h : R[i]? = some x) (r : Chs) : (R.map rowJ ++ r).Perm (rowJ x :: ((R.take i ++ R.drop (i + 1)).map rowJ ++ r)) := by
  obtain ⟨hi, hx⟩ := List.getElem?_eq_some_iff.1 h
  have e : R = R.take i ++ x :: R.drop (i + 1) := by rw [← hx, ← List.drop_eq_getElem_cons hi, List.take_append_drop]
  have e2 := congrArg (List.map rowJ) e
  rw [List.map_append, List.map_cons] at e2
  rw [e2, List.map_append, List.append_assoc, List.append_assoc, List.cons_append]
  exact List.perm_middle
theorem rowsJ_join {R : List RowJ} {i : Nat} (hi : i < R.length) (y : RowJ) (r : Chs) : (rowJ y :: ((R.take i ++ R.drop (i + 1)).map rowJ ++ r)).Perm ((R.set i y).map rowJ ++ r) := by
  rw [List.set_eq_take_append_cons_drop, if_pos hi, List.map_append, List.map_append, List.map_cons, List.append_assoc, List.append_assoc, List.cons_append]
  exact List.perm_middle.symm
theorem Sup.nilsJ (n : Nat) {l o : Chs} (h : Sup l o) : Sup l ((List.replicate n nilJ).map rowJ ++ o) := by
  induction n with
  | zero => exact h
  | succ n ih => rw [List.replicate_succ]; exact Sup.nilc ih
theorem supJ {R : List RowJ} {s : Nat} (pre r : Chs) (hs : s ≤ R.length) : Sup (pre ++ (R.map rowJ ++ r)) (rowJ (R[s]?.getD nilJ) :: (pre ++ ((R.take s ++ R.drop (s + 1)).map rowJ ++ r))) := by
  by_cases h : s < R.length
  · obtain ⟨x, hx⟩ : ∃ x, R[s]? = some x := ⟨_, List.getElem?_eq_getElem h⟩
    rw [hx]
    exact Sup.ofPerm (((rowsJ_split hx r).append_left pre).trans List.perm_middle)
  · have e : R.take s ++ R.drop (s + 1) = R := by rw [List.take_of_length_le (by omega), List.drop_eq_nil_of_le (by omega), List.append_nil]
    rw [e, List.getElem?_eq_none (by omega)]
    exact Sup.nilc (Sup.all _)
theorem supJn {R : List RowJ} {s : Nat} (y : RowJ) (pre r : Chs) (hs : s < R.length) : Sup (rowJ y :: (pre ++ ((R.take s ++ R.drop (s + 1)).map rowJ ++ r))) (rowJ ((R.set s y)[s + 1]?.getD nilJ) :: (pre ++ (((R.set s y).take (s + 1) ++ (R.set s y).drop (s + 1 + 1)).map rowJ ++ r))) := by
  have hp : (rowJ y :: (pre ++ ((R.take s ++ R.drop (s + 1)).map rowJ ++ r))).Perm (pre ++ ((R.set s y).map rowJ ++ r)) := List.perm_middle.symm.trans ((rowsJ_join hs y r).append_left pre)
  generalize R.set s y = S at *
  by_cases h : s + 1 < S.length
  · obtain ⟨x, hx⟩ : ∃ x, S[s + 1]? = some x := ⟨_, List.getElem?_eq_getElem h⟩
    rw [hx]
    exact Sup.ofPerm (hp.trans (((rowsJ_split hx r).append_left pre).trans List.perm_middle))
  · have e : S.take (s + 1) ++ S.drop (s + 1 + 1) = S := by rw [List.take_of_length_le (by omega), List.drop_eq_nil_of_le (by omega), List.append_nil]
    rw [e, List.getElem?_eq_none (by omega)]
    exact Sup.nilc (Sup.ofPerm hp)
/-- The rows of the classes that are found. -/
def rowsJ (n : Nat) (seen : List (List Int)) : List (List Int) := (List.range n).map fun s => seen.map fun col => (col[s]?.getD 0) - 1
theorem rowsJ_nil (n : Nat) : rowsJ n [] = List.replicate n [] := by
  apply List.ext_getElem?
  intro i
  unfold rowsJ
  rw [List.getElem?_map, List.getElem?_replicate]
  by_cases h : i < n
  · rw [List.getElem?_range h, if_pos h]; rfl
  · rw [List.getElem?_eq_none (by simp; omega), if_neg h]; rfl
theorem rowsJ_get {n s : Nat} (seen : List (List Int)) (h : s < n) : (rowsJ n seen)[s]? = some (seen.map fun col => (col[s]?.getD 0) - 1) := by
  unfold rowsJ
  rw [List.getElem?_map, List.getElem?_range h]; rfl
/-- Rows of which the first ones are longer by a column. -/
def mixJ (n : Nat) (seen : List (List Int)) (col : List Int) (s : Nat) : List (List Int) := (rowsJ n (seen ++ [col])).take s ++ (rowsJ n seen).drop s
theorem mixJ_zero (n : Nat) (seen : List (List Int)) (col : List Int) : mixJ n seen col 0 = rowsJ n seen := by simp [mixJ]
theorem rowsJ_len (n : Nat) (seen : List (List Int)) : (rowsJ n seen).length = n := by simp [rowsJ]
theorem mixJ_all (n : Nat) (seen : List (List Int)) (col : List Int) : mixJ n seen col n = rowsJ n (seen ++ [col]) := by
  unfold mixJ
  rw [List.take_of_length_le (by rw [rowsJ_len]; exact Nat.le_refl _), List.drop_eq_nil_of_le (by rw [rowsJ_len]; exact Nat.le_refl _), List.append_nil]
theorem mixJ_get {n s : Nat} (seen : List (List Int)) (col : List Int) (h : s < n) : (mixJ n seen col s)[s]? = some (seen.map fun c => (c[s]?.getD 0) - 1) := by
  unfold mixJ
  rw [List.getElem?_append_right (by simp [rowsJ_len]; omega), List.length_take, rowsJ_len, Nat.min_eq_left (by omega), Nat.sub_self, List.getElem?_drop, Nat.add_zero]
  exact rowsJ_get seen h
theorem mixJ_set {n s : Nat} (seen : List (List Int)) (col : List Int) {z : Int} (h : s < n) (hz : col[s]? = some z) : (mixJ n seen col s).set s ((seen.map fun c => (c[s]?.getD 0) - 1) ++ [z - 1]) = mixJ n seen col (s + 1) := by
  have hg := rowsJ_get (seen ++ [col]) h
  unfold mixJ
  have hl : ((rowsJ n (seen ++ [col])).take s).length = s := by simp [rowsJ_len]; omega
  rw [List.set_append_right _ _ (by omega), hl, Nat.sub_self, List.drop_eq_getElem_cons (by rw [rowsJ_len]; exact h), List.set_cons_zero, List.take_add_one, hg]
  simp [hz]
/-- What holds byte by byte. -/
structure NarI (d : DfaA) (c : Nat) (seen : List (List Int)) (out : List Nat) : Prop where
  fin : narL d (256 - c) c seen out = narL d 256 0 [] []
  len : out.length = c
  few : seen.length ≤ c
theorem NarI.start (d : DfaA) : NarI d 0 [] [] := ⟨rfl, rfl, Nat.le_refl _⟩
theorem NarI.old {d : DfaA} {c k : Nat} {seen : List (List Int)} {out : List Nat} (h : NarI d c seen out) (hc : c < 256) (hk : seen.idxOf? (colA d c) = some k) : NarI d (c + 1) seen (out ++ [k]) := by
  refine ⟨?_, by simp [h.len], by have := h.few; omega⟩
  have := h.fin
  rw [show 256 - c = (256 - (c + 1)) + 1 by omega, narL, hk] at this
  exact this
theorem NarI.new {d : DfaA} {c : Nat} {seen : List (List Int)} {out : List Nat} (h : NarI d c seen out) (hc : c < 256) (hk : seen.idxOf? (colA d c) = none) : NarI d (c + 1) (seen ++ [colA d c]) (out ++ [seen.length]) := by
  refine ⟨?_, by simp [h.len], by have := h.few; simp; omega⟩
  have := h.fin
  rw [show 256 - c = (256 - (c + 1)) + 1 by omega, narL, hk] at this
  exact this
theorem colA_adm {w : Nat} {d : DfaA} (ho : DfaOk w d) (hn : d.next.length ≤ 1024) {c : Nat} (hc : c < 256) : AdmK (colA d c) ∧ (colA d c).length = d.next.length := by
  refine ⟨fun z hz => ?_, by simp [colA]⟩
  obtain ⟨s, hs, e⟩ := List.getElem_of_mem hz
  have hs : s < d.next.length := by simpa [colA] using hs
  have h1 := col_get ho hs hc
  rw [List.getElem?_eq_getElem (by simpa [colA] using hs), e] at h1
  rw [Option.some.inj h1]
  rcases step_to ho (s : Int) hc with h | ⟨t, h, h2⟩ <;> rw [h] <;> omega
def u8V (k : Nat) : Value := .int .u8 (k : Int)
section
variable {ro : Ro} {own r : Chs} {K : Value → Ro → Chs → Prop} {g : Chunk → Chs}
set_option maxHeartbeats 8000000 in
theorem dnarrow_ok {q w : Nat} {d : DfaA} (hD : DAt ro q d) (ho : DfaOk w d) (hn : d.next.length ≤ 1024)
    (hk : ∀ ro' p, Le ro ro' → DAt ro' p (narrowA d) → K (ptr' p) ro' own) : CallOk Tryz.prog 33 #[ptr' q] ro own K := by
  obtain ⟨an, cn, aa, ca, hsv, hd⟩ := hD.rd
  have hN := hd.ldN
  have hA := hd.ldA
  have hrs := hd.rs
  have hra := hd.ra
  have hcm := hrs.max
  have hcl := hrs.le
  unfold maxLen at hcm
  refine CallOk.intro (args := [_]) (rs := [_]) T_ok Tryz.func33 Tryz.call33 rfl rfl (by kernel_rfl) rfl rfl ?_
  repeat (first | exact endA | refine wkP ?_ | refine opB (fun b => ?_) | refine opA (fun a' c' hc1 hc2 => ?_) | (apply GJ.and; exact rfl; intro hg) | (apply GJ.or; exact rfl; intro hg))
  refine dlen_ok hD ?_
  repeat (first | exact endA | refine wkP ?_ | refine opB (fun b => ?_) | refine opA (fun a' c' hc1 hc2 => ?_) | (apply GJ.and; exact rfl; intro hg) | (apply GJ.or; exact rfl; intro hg))
  refine OpOk.makeMapG (kv := str) (vv := u8V) (fun bM => ?_)
  repeat (first | exact endA | refine wkP ?_ | refine opB (fun b => ?_) | refine opA (fun a' c' hc1 hc2 => ?_) | (apply GJ.and; exact rfl; intro hg) | (apply GJ.or; exact rfl; intro hg))
  rename_i bN
  have hN0 : (List.replicate (d.next.length : Int).toNat (Value.slice none 0 0)) = (List.replicate d.next.length nilJ).map hdrJ := by rw [Int.toNat_natCast, List.map_replicate]; rfl
  rw [hN0, Int.toNat_natCast]
  have hst : rowsJ d.next.length [] = (List.replicate d.next.length nilJ).map (·.2) := by rw [rowsJ_nil, List.map_replicate]; rfl
  refine LoopOk.at (ι := Nat × List Nat × List (List Int) × List (List UInt8 × Nat × Nat) × Nat × List RowJ) Keep.auto (fun (c, out, seen, M, cM, R) => [(22, .int .i64 (c : Int))])
    (fun (c, out, seen, M, cM, R) => .blk b 49 (autV (out ++ List.replicate (256 - c) 0) (.slice (some ⟨bN, 0, none⟩) d.next.length d.next.length) (.slice aa d.acc.length ca)) :: .obj bM (mapG str u8V M cM) :: .sl (some ⟨bN, 0, none⟩) d.next.length d.next.length 50 1 (R.map hdrJ) :: (R.map rowJ ++ own))
    (fun (c, out, seen, M, cM, R) => c ≤ 256 ∧ NarI d c seen out ∧ KeyM d.next.length seen M ∧ R.map (·.2) = rowsJ d.next.length seen) (fun (c, out, seen, M, cM, R) => 256 - c) (0, [], [], [], 0, List.replicate d.next.length nilJ) ?_ Sub.auto (Sup.cons Take.auto (Sup.cons Take.auto (Sup.cons Take.auto (Sup.nilsJ _ (Sup.all _))))) ?_
  · exact ⟨Nat.zero_le _, NarI.start d, KeyM.nil _, hst.symm⟩
  rintro ⟨c, out, seen, M, cM, R⟩ ⟨i1, i2, i3, i4⟩
  dsimp only [List.cons_append, List.nil_append] at i1 i2 i3 i4 ⊢
  have hRl : R.length = d.next.length := by have := congrArg List.length i4; rwa [List.length_map, rowsJ_len] at this
  have hol := i2.len
  have hCl : (out ++ List.replicate (256 - c) 0).length = 256 := by simp; omega
  by_cases hc : c < 256
  · obtain ⟨hka, hkl⟩ := colA_adm ho hn hc
    have hgk := i3.at' _ hka
    have hold := fun k => i2.old (k := k) hc
    have hnew := i2.new hc
    have hpush := i3.push (by omega) hka (by omega)
    obtain ⟨hcw, hcc⟩ := cls_lt ho hc
    have hC := hd.ldC c _ hcc
    have hcg : ∀ s, s < d.next.length → (colA d c)[s]? = some (stepA d (s : Int) c + 1) := fun s hs => col_get ho hs hc
    have hss : ∀ u : Nat, (autV (out ++ List.replicate (256 - c) 0) (.slice (some ⟨bN, 0, none⟩) d.next.length d.next.length) (.slice aa d.acc.length ca)).set (0 + 0 + ((c : Nat) : Int).toNat * 1) (.int .u8 (u : Int)) = autV ((out ++ [u]) ++ List.replicate (256 - (c + 1)) 0) (.slice (some ⟨bN, 0, none⟩) d.next.length d.next.length) (.slice aa d.acc.length ca) := fun u => by
      rw [show 0 + 0 + ((c : Nat) : Int).toNat * 1 = c by simp, aut_set (by omega), snoc_set hol hc]
    have hsl := autV_len hCl (.slice (some ⟨bN, 0, none⟩) d.next.length d.next.length) (.slice aa d.acc.length ca)
    generalize colA d c = col at *
    repeat (first | exact endA | refine wkP ?_ | refine opB (fun b => ?_) | refine opA (fun a' c' hc1 hc2 => ?_) | (apply GJ.and; exact rfl; intro hg) | (apply GJ.or; exact rfl; intro hg))
    refine LoopOk.at (ι := Nat × Option Addr × Nat) Keep.auto (fun (j, a1, c1) => [(30, .int .i64 (j : Int)), (6, .slice a1 j c1)]) (fun (j, a1, c1) => .sl a1 j c1 3 1 (intV (col.take j)) :: .blk b 49 (autV (out ++ List.replicate (256 - c) 0) (.slice (some ⟨bN, 0, none⟩) d.next.length d.next.length) (.slice aa d.acc.length ca)) :: .obj bM (mapG str u8V M cM) :: .sl (some ⟨bN, 0, none⟩) d.next.length d.next.length 50 1 (R.map hdrJ) :: (R.map rowJ ++ own)) (fun (j, a1, c1) => j ≤ d.next.length ∧ j ≤ c1 ∧ c1 ≤ maxLen) (fun (j, a1, c1) => d.next.length - j) (0, none, 0) ?_ Sub.auto Sup.auto ?_
    · exact ⟨Nat.zero_le _, Nat.le_refl _, Nat.zero_le _⟩
    rintro ⟨j, a1, c1⟩ ⟨j1, j2, j3⟩
    dsimp only [List.cons_append, List.nil_append] at j1 j2 j3 ⊢
    have htl : (intV (col.take j)).length = j := by rw [intV_len]; simp; omega
    by_cases hj : j < d.next.length
    · obtain ⟨row, hrow⟩ : ∃ row, d.next[j]? = some row := ⟨_, List.getElem?_eq_getElem hj⟩
      obtain ⟨ar, cr, q1, q2⟩ := hd.rows j row hrow
      have hrl := ho.row row (List.mem_of_getElem? hrow)
      obtain ⟨k, row', p1, p2, p3, p4⟩ := step_at ho hj hc
      rw [hrow] at p3; cases p3
      rw [hcc] at p1; cases p1
      have hbr := bang p4
      have hst := step_to ho (j : Int) hc
      have hcj := hcg j hj
      generalize stepA d (j : Int) c = z at *
      have htk : col.take (j + 1) = col.take j ++ [z + 1] := by rw [List.take_add_one, hcj]; rfl
      repeat (first | exact endA | refine wkP ?_ | refine opB (fun b => ?_) | refine opA (fun a' c' hc1 hc2 => ?_) | (apply GJ.and; exact rfl; intro hg) | (apply GJ.or; exact rfl; intro hg))
      refine OpOk.load rfl rfl (Go.E.Ld.rs hrs (by rw [Int.toNat_natCast]; exact q1)) ?_
      repeat (first | exact endA | refine wkP ?_ | refine opB (fun b => ?_) | refine opA (fun a' c' hc1 hc2 => ?_) | (apply GJ.and; exact rfl; intro hg) | (apply GJ.or; exact rfl; intro hg))
      refine OpOk.load rfl rfl (hC.ldE (by simp)) ?_
      repeat (first | exact endA | refine wkP ?_ | refine opB (fun b => ?_) | refine opA (fun a' c' hc1 hc2 => ?_) | (apply GJ.and; exact rfl; intro hg) | (apply GJ.or; exact rfl; intro hg))
      rw [hbr]
      refine ⟨⟨by omega, by omega⟩, ?_⟩
      repeat (first | exact endA | refine wkP ?_ | refine opB (fun b => ?_) | refine opA (fun a' c' hc1 hc2 => ?_) | (apply GJ.and; exact rfl; intro hg) | (apply GJ.or; exact rfl; intro hg))
      have hap : intV (col.take j) ++ [.int .i64 (z + 1)] = intV (col.take (j + 1)) := by rw [htk]; simp [intV]
      rw [hap]
      repeat (first | exact endA | refine wkP ?_ | refine opB (fun b => ?_) | refine opA (fun a' c' hc1 hc2 => ?_) | (apply GJ.and; exact rfl; intro hg) | (apply GJ.or; exact rfl; intro hg))
      refine Wk.id ⟨(j + 1, a', c'), ⟨rfl, ?_⟩, ?_, Sub.auto, Sup.auto⟩
      all_goals try dsimp only
      · exact ⟨by omega, hc1, hc2⟩
      · omega
    · obtain rfl : j = d.next.length := by omega
      have htc : col.take d.next.length = col := List.take_of_length_le (by omega)
      rw [htc] at *
      have hkt : (keyT col).length ≤ maxLen := by rw [keyT_len, hkl]; unfold maxLen; omega
      have hfew := i2.few
      repeat (first | exact endA | refine wkP ?_ | refine opB (fun b => ?_) | refine opA (fun a' c' hc1 hc2 => ?_) | (apply GJ.and; exact rfl; intro hg) | (apply GJ.or; exact rfl; intro hg))
      have hkr : Rds ro (.sl a1 d.next.length c1 3 1 (intV col) :: .blk b 49 (autV (out ++ List.replicate (256 - c) 0) (.slice (some ⟨bN, 0, none⟩) d.next.length d.next.length) (.slice aa d.acc.length ca)) :: .obj bM (mapG str u8V M cM) :: .sl (some ⟨bN, 0, none⟩) d.next.length d.next.length 50 1 (R.map hdrJ) :: (R.map rowJ ++ own)) a1 d.next.length c1 1 (col.map (Value.int .i64)) := Rds.hasSl j2 j3 (by show (intV _).length = _; rw [intV_len, hkl, Nat.mul_one])
      refine key_ok (l := col) hkr hkl (by omega) hka ?_
      repeat (first | exact endA | refine wkP ?_ | refine opB (fun b => ?_) | refine opA (fun a' c' hc1 hc2 => ?_) | (apply GJ.and; exact rfl; intro hg) | (apply GJ.or; exact rfl; intro hg))
      refine OpOk.lookupOkG (kt := 9) (et := 5) (kv := str) (vv := u8V) (k := keyT col) (z := .int .u8 0) rfl rfl (by kernel_rfl) (KeyEnc.text (by kernel_rfl)) i3.map hkt (by kernel_rfl) ?_
      rw [hgk]
      cases hidx : seen.idxOf? col with
      | some u =>
        have hold := hold u hidx
        have hu : u < seen.length := (List.findIdx?_eq_some_iff_getElem.1 hidx).1
        simp only [Option.map_some, Option.getD_some, Option.isSome_some, u8V]
        repeat (first | exact endA | refine wkP ?_ | refine opB (fun b => ?_) | refine opA (fun a' c' hc1 hc2 => ?_) | (apply GJ.and; exact rfl; intro hg) | (apply GJ.or; exact rfl; intro hg))
        refine OpOk.storeAt rfl rfl rfl rfl (by rw [hsl]; simp; omega) ?_
        rw [hss]
        repeat (first | exact endA | refine wkP ?_ | refine opB (fun b => ?_) | refine opA (fun a' c' hc1 hc2 => ?_) | (apply GJ.and; exact rfl; intro hg) | (apply GJ.or; exact rfl; intro hg))
        repeat (first | exact endA | refine wkP ?_ | refine opB (fun b => ?_) | refine opA (fun a' c' hc1 hc2 => ?_) | (apply GJ.and; exact rfl; intro hg) | (apply GJ.or; exact rfl; intro hg))
        refine Wk.id ⟨(c + 1, out ++ [u], seen, M, cM, R), ⟨rfl, ?_⟩, ?_, Sub.auto, Sup.auto⟩
        all_goals try dsimp only
        · exact ⟨by omega, hold, i3, i4⟩
        · omega
      | none =>
        have hnew := hnew hidx
        have hpush := hpush hidx cM
        have hMl := i3.len
        simp only [Option.map_none, Option.getD_none, Option.isSome_none]
        repeat (first | exact endA | refine wkP ?_ | refine opB (fun b => ?_) | refine opA (fun a' c' hc1 hc2 => ?_) | (apply GJ.and; exact rfl; intro hg) | (apply GJ.or; exact rfl; intro hg))
        refine OpOk.lenG (kv := str) (vv := u8V) (et := 5) (kt := 9) rfl (by kernel_rfl) ?_
        rw [hMl]
        repeat (first | exact endA | refine wkP ?_ | refine opB (fun b => ?_) | refine opA (fun a' c' hc1 hc2 => ?_) | (apply GJ.and; exact rfl; intro hg) | (apply GJ.or; exact rfl; intro hg))
        rw [show ((seen.length : Nat) : Int) % 256 = (seen.length : Int) by omega]
        refine key_ok (l := col) hkr hkl (by omega) hka ?_
        repeat (first | exact endA | refine wkP ?_ | refine opB (fun b => ?_) | refine opA (fun a' c' hc1 hc2 => ?_) | (apply GJ.and; exact rfl; intro hg) | (apply GJ.or; exact rfl; intro hg))
        refine OpOk.mapUpdateG (kt := 9) (et := 5) (kv := str) (vv := u8V) (k := keyT col) (v := seen.length) rfl rfl rfl (by kernel_rfl) (KeyEnc.text (by kernel_rfl)) i3.map hkt (fun c2 => ?_)
        generalize putG M cM (keyT col) seen.length = M2 at *
        repeat (first | exact endA | refine wkP ?_ | refine opB (fun b => ?_) | refine opA (fun a' c' hc1 hc2 => ?_) | (apply GJ.and; exact rfl; intro hg) | (apply GJ.or; exact rfl; intro hg))
        refine LoopOk.at (ι := Nat × List RowJ) Keep.auto (fun (s, S) => [(69, .int .i64 (s : Int))])
          (fun (s, S) => rowJ (S[s]?.getD nilJ) :: ([.sl a1 d.next.length c1 3 1 (intV col), .blk b 49 (autV (out ++ List.replicate (256 - c) 0) (.slice (some ⟨bN, 0, none⟩) d.next.length d.next.length) (.slice aa d.acc.length ca)), .obj bM (mapG str u8V M2 c2), .sl (some ⟨bN, 0, none⟩) d.next.length d.next.length 50 1 (S.map hdrJ)] ++ ((S.take s ++ S.drop (s + 1)).map rowJ ++ own)))
          (fun (s, S) => s ≤ d.next.length ∧ S.length = d.next.length ∧ S.map (·.2) = mixJ d.next.length seen col s) (fun (s, S) => d.next.length - s) (0, R) ?_ Sub.auto (supJ (s := 0) (R := R) [_, _, _, _] own (Nat.zero_le _)) ?_
        · exact ⟨Nat.zero_le _, hRl, by rw [mixJ_zero]; exact i4⟩
        rintro ⟨s, S⟩ ⟨s1, s2, s3⟩
        dsimp only [List.cons_append, List.nil_append] at s1 s2 s3 ⊢
        by_cases hs : s < d.next.length
        · obtain ⟨x, hx⟩ : ∃ x, S[s]? = some x := ⟨_, List.getElem?_eq_getElem (by omega)⟩
          have hxr : x.2 = seen.map fun c => (c[s]?.getD 0) - 1 := by
            have := mixJ_get seen col hs
            rw [← s3, List.getElem?_map, hx] at this
            exact Option.some.inj this
          have hcs := hcg s hs
          have hst := step_to ho (s : Int) hc
          generalize stepA d (s : Int) c = z at *
          have hms := mixJ_set seen col hs hcs
          have hbz := bang hcs
          have hbx := bang hx
          rw [hx]
          obtain ⟨⟨ra, rc⟩, rl⟩ := x
          simp only [Option.getD_some, rowJ] at hxr ⊢
          have hrl := intV_len rl
          have hrlen : rl.length = seen.length := by rw [hxr]; simp
          repeat (first | exact endA | refine wkT ?_ | refine opB (fun b => ?_) | refine opA (fun a' c' hc1 hc2 => ?_) | (apply GJ.and; exact rfl; intro hg) | (apply GJ.or; exact rfl; intro hg))
          refine Bs.mk ⟨[.sl a1 d.next.length c1 3 1 (intV col), .blk b 49 (autV (out ++ List.replicate (256 - c) 0) (.slice (some ⟨bN, 0, none⟩) d.next.length d.next.length) (.slice aa d.acc.length ca)), .sl (some ⟨bN, 0, none⟩) d.next.length d.next.length 50 1 (S.map hdrJ)], Sup.auto, ?_⟩
          repeat (first | exact endA | refine wkU ?_ | (show QOk _ _ _ _ _ _ _; refine QOk.build rfl rfl Nf.auto ?_) | (show GJ _ _ _ _ _ _ _; first | with_reducible refine GJ.neF ?_ | with_reducible refine GJ.neT ?_) | (show Br _ _ _; with_reducible refine Br.ne ?_) | refine opB (fun b => ?_) | refine opA (fun a' c' hc1 hc2 => ?_) | (apply GJ.and; exact rfl; intro hg) | (apply GJ.or; exact rfl; intro hg))
          rw [hbx]
          dsimp only [hdrJ]
          repeat (first | exact endA | refine wkU ?_ | (show QOk _ _ _ _ _ _ _; refine QOk.build rfl rfl Nf.auto ?_) | (show GJ _ _ _ _ _ _ _; first | with_reducible refine GJ.neF ?_ | with_reducible refine GJ.neT ?_) | (show Br _ _ _; with_reducible refine Br.ne ?_) | refine opB (fun b => ?_) | refine opA (fun a' c' hc1 hc2 => ?_) | (apply GJ.and; exact rfl; intro hg) | (apply GJ.or; exact rfl; intro hg))
          rw [hbz]
          refine ⟨⟨by omega, by omega⟩, ?_⟩
          repeat (first | exact endA | refine wkU ?_ | (show QOk _ _ _ _ _ _ _; refine QOk.build rfl rfl Nf.auto ?_) | (show GJ _ _ _ _ _ _ _; first | with_reducible refine GJ.neF ?_ | with_reducible refine GJ.neT ?_) | (show Br _ _ _; with_reducible refine Br.ne ?_) | refine opB (fun b => ?_) | refine opA (fun a' c' hc1 hc2 => ?_) | (apply GJ.and; exact rfl; intro hg) | (apply GJ.or; exact rfl; intro hg))
          rw [Int.toNat_natCast]
          refine OpOk.storeSl (k := s) rfl rfl rfl rfl (by rw [List.length_map, s2]; exact hs) ?_
          repeat (first | exact endA | refine wkU ?_ | (show QOk _ _ _ _ _ _ _; refine QOk.build rfl rfl Nf.auto ?_) | (show GJ _ _ _ _ _ _ _; first | with_reducible refine GJ.neF ?_ | with_reducible refine GJ.neT ?_) | (show Br _ _ _; with_reducible refine Br.ne ?_) | refine opB (fun b => ?_) | refine opA (fun a' c' hc1 hc2 => ?_) | (apply GJ.and; exact rfl; intro hg) | (apply GJ.or; exact rfl; intro hg))
          have e1 : rl.length + 1 = (rl ++ [z + 1 - 1]).length := by simp
          have e2 : intV rl ++ [.int .i64 (z + 1 - 1)] = intV (rl ++ [z + 1 - 1]) := by simp [intV]
          have e3 : (S.map hdrJ).set s (.slice a' (rl ++ [z + 1 - 1]).length c') = (S.set s ((a', c'), rl ++ [z + 1 - 1])).map hdrJ := by rw [List.map_set]; rfl
          rw [e1] at hc1 ⊢
          rw [e2, e3]
          repeat (first | exact endA | refine wkP ?_ | refine opB (fun b => ?_) | refine opA (fun a' c' hc1 hc2 => ?_) | (apply GJ.and; exact rfl; intro hg) | (apply GJ.or; exact rfl; intro hg))
          refine Wk.id ⟨(s + 1, S.set s ((a', c'), rl ++ [z + 1 - 1])), ⟨rfl, ?_⟩, ?_, Sub.auto, (supJn ((a', c'), rl ++ [z + 1 - 1]) [_, _, _, _] own (by omega))⟩
          all_goals try dsimp only
          · refine ⟨by omega, by rw [List.length_set, s2], ?_⟩
            rw [List.map_set, s3, ← hms, hxr]
          · omega
        · obtain rfl : s = d.next.length := by omega
          rw [mixJ_all] at s3
          have e : S.take d.next.length ++ S.drop (d.next.length + 1) = S := by rw [List.take_of_length_le (by omega), List.drop_eq_nil_of_le (by omega), List.append_nil]
          rw [e]
          repeat (first | exact endA | refine wkP ?_ | refine opB (fun b => ?_) | refine opA (fun a' c' hc1 hc2 => ?_) | (apply GJ.and; exact rfl; intro hg) | (apply GJ.or; exact rfl; intro hg))
          refine OpOk.storeAt rfl rfl rfl rfl (by rw [hsl]; simp; omega) ?_
          rw [hss]
          repeat (first | exact endA | refine wkP ?_ | refine opB (fun b => ?_) | refine opA (fun a' c' hc1 hc2 => ?_) | (apply GJ.and; exact rfl; intro hg) | (apply GJ.or; exact rfl; intro hg))
          repeat (first | exact endA | refine wkP ?_ | refine opB (fun b => ?_) | refine opA (fun a' c' hc1 hc2 => ?_) | (apply GJ.and; exact rfl; intro hg) | (apply GJ.or; exact rfl; intro hg))
          refine Wk.id ⟨(c + 1, out ++ [seen.length], seen ++ [col], M2, c2, S), ⟨rfl, ?_⟩, ?_, Sub.auto, Sup.auto⟩
          all_goals try dsimp only
          · exact ⟨by omega, hnew, hpush, s3⟩
          · omega
  · have hc6 : c = 256 := by omega
    subst hc6
    have hfin := i2.fin
    rw [show 256 - 256 = 0 from rfl, narL] at hfin
    have hC0 : out ++ List.replicate (256 - 256) 0 = out := by simp
    rw [hC0] at hCl ⊢
    repeat (first | exact endA | refine wkP ?_ | refine opB (fun b => ?_) | refine opA (fun a' c' hc1 hc2 => ?_) | (apply GJ.and; exact rfl; intro hg) | (apply GJ.or; exact rfl; intro hg))
    refine Wk.freezeL (l := .blk b 49 (autV out (.slice (some ⟨bN, 0, none⟩) d.next.length d.next.length) (.slice aa d.acc.length ca)) :: .sl (some ⟨bN, 0, none⟩) d.next.length d.next.length 50 1 (R.map hdrJ) :: R.map rowJ) (rest := .obj bM (mapG str u8V M cM) :: own) ?_ (fun ro2 hl2 hc2 => ?_)
    · refine (List.Perm.cons _ ?_)
      refine (List.Perm.swap _ _ _).trans (List.Perm.cons _ ?_)
      exact List.perm_middle.symm
    have hnar : narrowA d = ⟨out, rowsJ d.next.length seen, d.acc⟩ := by unfold narrowA; rw [← hfin]; rfl
    refine Wk.outS (Sup.drop _ (Sup.all _)) (.refl _) (hk ro2 b hl2 ?_)
    rw [hnar]
    refine ⟨⟨some ⟨bN, 0, none⟩, d.next.length, aa, ca, R.map hdrJ, ?_, hCl, ?_, fun i row hi => ?_, Rs.up hra⟩⟩
    · dsimp only
      rw [rowsJ_len]
      exact hc2 _ (List.mem_cons_self ..)
    · dsimp only
      rw [rowsJ_len]
      exact Rs.last (hc2 _ (List.mem_cons_of_mem _ (List.mem_cons_self ..)))
    · dsimp only at hi
      rw [← i4, List.getElem?_map] at hi
      obtain ⟨x, hx, rfl⟩ := Option.map_eq_some_iff.1 hi
      refine ⟨x.1.1, x.1.2, by rw [List.getElem?_map, hx]; rfl, ?_⟩
      exact Rs.last (t := 3) (hc2 (rowJ x) (List.mem_cons_of_mem _ (List.mem_cons_of_mem _ (List.mem_map_of_mem (List.mem_of_getElem? hx)))))
end
end Go.Proofs.YtinbmhbfcoiefaaGreatDoor
end
section
/- Contracts of dfa: Least. -/
namespace Go.Proofs.YtinbmhbfcoiefaaGreatDoor
open Go Go.E
set_option linter.unusedVariables false
set_option linter.unusedSimpArgs false
set_option maxRecDepth 10000
/-- A map that numbers groups, in the order in which their states are met. -/
structure OrdM (g : List Int) (order : List Nat) (M : List (Int × Nat × Nat)) : Prop where
  map : MapOk (fun _ => True) M
  at' : ∀ z, getG M z = order.findIdx? fun s => getI' g s == z
theorem OrdM.start (g : List Int) (c : Nat) : OrdM g [0] (putG [] c (getI' g 0) 0) := by
  refine ⟨MapOk.nil.put trivial c 0, fun z => ?_⟩
  rw [getG_putG, List.findIdx?_cons]
  by_cases e : z = getI' g 0
  · rw [if_pos e]; simp [e]
  · rw [if_neg e]
    have : (getI' g 0 == z) = false := by simpa using fun h => e h.symm
    rw [this]; rfl
theorem OrdM.push {g : List Int} {order : List Nat} {M : List (Int × Nat × Nat)} (h : OrdM g order M) {s : Nat} (hn : order.findIdx? (fun t => getI' g t == getI' g s) = none) (c : Nat) : OrdM g (order ++ [s]) (putG M c (getI' g s) order.length) := by
  refine ⟨h.map.put trivial c _, fun z => ?_⟩
  rw [getG_putG, List.findIdx?_append, List.findIdx?_cons]
  by_cases e : z = getI' g s
  · subst e
    rw [if_pos rfl, hn]; simp
  · rw [if_neg e, h.at' z]
    have : (getI' g s == z) = false := by simpa using fun h => e h.symm
    rw [this]
    cases order.findIdx? fun t => getI' g t == z <;> simp
theorem OrdI.step {w : Nat} {a : DfaA} {g : List Int} {order : List Nat} {next : List (List Int)} {acc : List Bool} {cur : Nat} {order2 : List Nat} {row2 : List Int} (h : OrdI a g w order next acc) (hcur : order[next.length]? = some cur) (hr : RowI a g cur w order order2 row2 256) : OrdI a g w order2 (next ++ [row2]) (acc ++ [getB a.acc cur]) := by
  obtain ⟨e, he⟩ := hr.pre
  have hlt := (List.getElem?_eq_some_iff.1 hcur).1
  have hold : ∀ (i t : Nat), order[i]? = some t → order2[i]? = some t := fun i t hi => by
    rw [he, List.getElem?_append_left (List.getElem?_eq_some_iff.1 hi).1, hi]
  have hold2 : ∀ (i t : Nat), i < order.length → order2[i]? = some t → order[i]? = some t := fun i t h1 hi => by
    rw [he, List.getElem?_append_left h1] at hi; exact hi
  have hsn : (next ++ [row2])[next.length]? = some row2 := snoc_new _ _
  refine ⟨hr.ord, ?_, by simp [h.alen], ?_, ?_, ?_, ?_⟩
  · rw [he]; simp; omega
  · intro s r cs hs hcs
    rcases snoc_get hs with ⟨h1, h2⟩ | ⟨h1, h2⟩
    · obtain ⟨q1, q2⟩ := h.row s r cs h2 (hold2 s cs (by have := h.nlen; omega) hcs)
      refine ⟨q1, fun c hc => ?_⟩
      rcases q2 c hc with q | ⟨i, t, q3, q4, q5⟩
      · exact .inl q
      · exact .inr ⟨i, t, q3, hold _ _ q4, q5⟩
    · subst h1; subst h2
      have hcc := hold2 _ _ hlt hcs
      rw [hcur] at hcc; cases hcc
      exact ⟨hr.len, fun c hc => hr.at' c hc⟩
  · intro s cs hs hcs
    rw [List.length_append, List.length_singleton] at hs
    by_cases e1 : s < next.length
    · exact snoc_old (h.acc s cs e1 (hold2 s cs (by have := h.nlen; omega) hcs))
    · have e2 : s = next.length := by omega
      subst e2
      have hcc := hold2 _ _ hlt hcs
      rw [hcur] at hcc; cases hcc
      rw [← h.alen]; exact snoc_new _ _
  · intro u h0 h1
    by_cases e1 : u < order.length
    · obtain ⟨s, c, r, q1, q2, q3, q4⟩ := h.met u h0 e1
      exact ⟨s, c, r, q1, q2, snoc_old q3, q4⟩
    · obtain ⟨d, hd, hrd⟩ := hr.new u (by omega) h1
      exact ⟨next.length, d, row2, by omega, hd, hsn, hrd⟩
  · intro s c r t hs hc ht u hu1 hu2
    rcases snoc_get hs with ⟨h1, h2⟩ | ⟨h1, h2⟩
    · obtain ⟨s2, c2, r2, q1, q2, q3, q4⟩ := h.first s c r t h2 hc ht u hu1 hu2
      exact ⟨s2, c2, r2, q1, q2, snoc_old q3, q4⟩
    · subst h1; subst h2
      by_cases e1 : u < order.length
      · obtain ⟨s, c3, r3, q1, q2, q3, q4⟩ := h.met u hu1 e1
        exact ⟨s, c3, r3, .inl (List.getElem?_eq_some_iff.1 q3).1, q2, snoc_old q3, q4⟩
      · obtain ⟨e, he1, he2⟩ := hr.first c t hc ht u (by omega) hu2
        exact ⟨next.length, e, r, .inr ⟨rfl, he1⟩, by omega, hsn, he2⟩
theorem Nf.self : ∀ l : List Value, Nf l l
  | [] => Nf.nil
  | x :: l => Nf.cons x (Nf.self l)
theorem freezeC {P : Program} {f : FuncId} {args : Array Value} {ro : Ro} {l own' own : Chs} {K : Value → Ro → Chs → Prop} (hp : own.Perm (l ++ own')) (h : ∀ ro', Le ro ro' → (∀ c ∈ l, c.holds ro') → CallOk P f args ro' own' K) : CallOk P f args ro own K :=
  ⟨fun w hw => by
    obtain ⟨r1, h1, h2, h3⟩ := Sat.freezeL (hw.perm hp)
    exact ((h r1 h1 h2).run w h3).mono fun v w' ⟨hh, ro2, own2, hl2, hs2, hk⟩ => ⟨hh, ro2, own2, h1.trans hl2, hs2, hk⟩⟩
/-- Rows that last, behind their headers. -/
structure RowsH (ro : Ro) (rows : List (List Int)) (H : List Value) : Prop where
  len : H.length = rows.length
  row : ∀ (i : Nat) (row : List Int), rows[i]? = some row → ∃ (ar : Option Addr) (cr : Nat), H[i]? = some (.slice ar row.length cr) ∧ Rs ro ar row.length cr 1 (row.map (Value.int .i64))
theorem RowsH.nil (ro : Ro) : RowsH ro [] [] := ⟨rfl, fun i row h => by simp at h⟩
theorem RowsH.le {ro ro' : Ro} {rows : List (List Int)} {H : List Value} (h : RowsH ro rows H) (hl : Le ro ro') : RowsH ro' rows H := ⟨h.len, fun i row hr => by
  obtain ⟨ar, cr, h1, h2⟩ := h.row i row hr
  exact ⟨ar, cr, h1, Rs.up h2⟩⟩
theorem RowsH.snoc {ro : Ro} {rows : List (List Int)} {H : List Value} (h : RowsH ro rows H) {row : List Int} {ar : Option Addr} {cr : Nat} (hr : Rs ro ar row.length cr 1 (row.map (Value.int .i64))) : RowsH ro (rows ++ [row]) (H ++ [.slice ar row.length cr]) := ⟨by simp [h.len], fun i x hx => by
  rcases snoc_get hx with ⟨h1, h2⟩ | ⟨h1, h2⟩
  · obtain ⟨a, c, p1, p2⟩ := h.row i x h2
    exact ⟨a, c, snoc_old p1, p2⟩
  · subst h1; subst h2
    exact ⟨ar, cr, by rw [← h.len]; exact snoc_new _ _, hr⟩⟩
section
variable {ro : Ro} {own r : Chs} {K : Value → Ro → Chs → Prop} {g : Chunk → Chs}
set_option maxHeartbeats 8000000 in
theorem dleast_ok {q w : Nat} {d : DfaA} (hD : DAt ro q d) (ho : DfaOk w d) (hs : SurA w d) (hw : w ≤ 256) (hp : 0 < d.next.length) (hn : d.next.length ≤ 1024)
    (hk : ∀ ro' p, Le ro ro' → DAt ro' p (leastA d) → K (ptr' p) ro' own) : CallOk Tryz.prog 14 #[ptr' q] ro own K := by
  obtain ⟨an, cn, aa, ca, hsv, hd⟩ := hD.rd
  have hN := hd.ldN
  have hA := hd.ldA
  have hrs := hd.rs
  have hra := hd.ra
  have hal := ho.acc
  have hcm := hrs.max
  have hcl := hrs.le
  unfold maxLen at hcm
  have hgf := (grp_fin ho hs).ok
  have hgl := hgf.len
  unfold leastA at hk
  rw [if_neg (by intro e; rw [e] at hp; cases hp)] at hk
  obtain ⟨gr, hgr⟩ : ∃ gr, gr = grpA d := ⟨_, rfl⟩
  rw [← hgr] at hk hgf hgl
  refine CallOk.intro (args := [_]) (rs := [_]) T_ok Tryz.func14 Tryz.call14 rfl rfl (by kernel_rfl) rfl rfl ?_
  repeat (first | exact endA | refine wkP ?_ | refine opB (fun b => ?_) | refine opA (fun a' c' hc1 hc2 => ?_) | (apply GJ.and; exact rfl; intro hg) | (apply GJ.or; exact rfl; intro hg))
  refine dlen_ok hD ?_
  repeat (first | exact endA | refine wkP ?_ | refine opB (fun b => ?_) | refine opA (fun a' c' hc1 hc2 => ?_) | (apply GJ.and; exact rfl; intro hg) | (apply GJ.or; exact rfl; intro hg))
  refine dgroups_ok hD ho hs (by omega) hw (fun ag cg g1 g2 => ?_)
  rw [← hgr]
  have hgI := intV_len gr
  obtain ⟨z0, hz0⟩ : ∃ z, gr[0]? = some z := ⟨_, List.getElem?_eq_getElem (by omega)⟩
  have hb0 := bang hz0
  have hb1 : gr[Int.toNat 0]! = z0 := hb0
  rw [getI_some hz0] at hk
  by_cases h0 : z0 = -1
  · rw [if_pos h0] at hk
    subst h0
    repeat (first | exact endA | refine wkP ?_ | refine opB (fun b => ?_) | refine opA (fun a' c' hc1 hc2 => ?_) | (apply GJ.and; exact rfl; intro hg) | (apply GJ.or; exact rfl; intro hg))
    refine Wk.freezeL (l := [_, _, _, _]) (.refl _) (fun ro2 hl2 hc2 => ?_)
    refine Wk.outS (Sup.drop _ (Sup.drop _ (Sup.all _))) (.refl _) (hk ro2 _ hl2 ?_)
    refine ⟨⟨_, _, _, _, _, hc2 _ (List.mem_cons_self ..), by simp [deadA], Rs.last (hc2 _ (List.mem_cons_of_mem _ (List.mem_cons_of_mem _ (List.mem_cons_self ..)))), fun i row hi => ?_, Rs.last (hc2 _ (List.mem_cons_of_mem _ (List.mem_cons_self ..)))⟩⟩
    cases i with
    | zero =>
      cases hi
      exact ⟨_, _, rfl, Rs.last (hc2 _ (List.mem_cons_of_mem _ (List.mem_cons_of_mem _ (List.mem_cons_of_mem _ (List.mem_cons_self ..)))))⟩
    | succ i => cases hi
  · rw [if_neg h0] at hk
    obtain ⟨Z, hZ⟩ : ∃ Z, Z = ordL d gr (d.next.length + 1) [0] [] [] := ⟨_, rfl⟩
    rw [← hZ] at hk
    have hl0 : LiveA d 0 := Classical.byContradiction fun hh => h0 (by rw [← getI_some hz0]; exact (hgf.dead 0 hp).2 hh)
    have hI0 : OrdI d gr w [0] [] [] := ⟨⟨rfl, (fun s hs => by rw [List.mem_singleton] at hs; rw [hs]; exact hp), (fun s hs => by rw [List.mem_singleton] at hs; rw [hs]; exact hl0), by simp⟩, by simp, rfl, (fun s r cur hs => by simp at hs), (fun s cur hs => by simp at hs), (fun u h0 h1 => by simp at h1; omega), fun s c r t hs => by simp at hs⟩
    have hM0 := OrdM.start gr
    rw [getI_some hz0] at hM0
    have hwd := width_is ho hp
    obtain ⟨C0, hC0⟩ : ∃ C : List Nat, C = List.replicate 256 0 := ⟨_, rfl⟩
    have hC0l : C0.length = 256 := by rw [hC0]; simp
    repeat (first | exact endA | refine wkP ?_ | refine opB (fun b => ?_) | refine opA (fun a' c' hc1 hc2 => ?_) | (apply GJ.and; exact rfl; intro hg) | (apply GJ.or; exact rfl; intro hg))
    obtain ⟨bO, hbO⟩ : ∃ z : Nat, z = b := ⟨_, rfl⟩
    subst hbO
    refine OpOk.makeMapG (kv := Value.int .i64) (vv := nV) (fun bM => ?_)
    repeat (first | exact endA | refine wkP ?_ | refine opB (fun b => ?_) | refine opA (fun a' c' hc1 hc2 => ?_) | (apply GJ.and; exact rfl; intro hg) | (apply GJ.or; exact rfl; intro hg))
    rw [hb1]
    refine OpOk.insertG (OpOk.mapUpdateG (kt := 3) (et := 3) (kv := Value.int .i64) (vv := nV) (k := z0) (v := 0) rfl rfl rfl (by kernel_rfl) (KeyEnc.int (by kernel_rfl)) MapOk.nil trivial (fun c1 => ?_))
    repeat (first | exact endA | refine wkP ?_ | refine opB (fun b => ?_) | refine opA (fun a' c' hc1 hc2 => ?_) | (apply GJ.and; exact rfl; intro hg) | (apply GJ.or; exact rfl; intro hg))
    refine LoopOk.auto (ι := (List Nat × Option Addr × Nat) × (List (List Int) × List Value × Option Addr × Nat) × (List Bool × Option Addr × Nat) × List (Int × Nat × Nat) × Nat) Keep.auto (fun ((order, ao, co), (nx, H, an2, cn2), (acc, aa2, ca2), M, cM) => [(7, .int .i64 (nx.length : Int)), (6, .slice ao order.length co)])
      (fun ((order, ao, co), (nx, H, an2, cn2), (acc, aa2, ca2), M, cM) => .sl ao order.length co 3 1 (natsV order) :: .obj bM (mapG (Value.int .i64) nV M cM) :: .blk bO 49 (autV C0 (.slice an2 nx.length cn2) (.slice aa2 acc.length ca2)) :: .sl an2 nx.length cn2 50 1 H :: .sl aa2 acc.length ca2 4 1 (boolsV acc) :: .sl ag d.next.length cg 3 1 (intV gr) :: own)
      (fun ((order, ao, co), (nx, H, an2, cn2), (acc, aa2, ca2), M, cM) ro2 => OrdI d gr w order nx acc ∧ ordL d gr (d.next.length + 1 - nx.length) order nx acc = Z ∧ OrdM gr order M ∧ RowsH ro2 nx H ∧ (order.length ≤ co ∧ co ≤ maxLen) ∧ (nx.length ≤ cn2 ∧ cn2 ≤ maxLen) ∧ (acc.length ≤ ca2 ∧ ca2 ≤ maxLen))
      (fun ((order, ao, co), (nx, H, an2, cn2), (acc, aa2, ca2), M, cM) => d.next.length - nx.length) (([0], some ⟨b, 0, none⟩, 1), ([], [], none, 0), ([], none, 0), _, _) ?_ Sub.auto (by subst hC0; exact Sup.auto) ?_
    · exact ⟨hI0, hZ.symm, hM0 0, RowsH.nil _, ⟨Nat.le_refl _, by unfold maxLen; decide⟩, ⟨Nat.le_refl _, Nat.zero_le _⟩, ⟨Nat.le_refl _, Nat.zero_le _⟩⟩
    rintro ⟨⟨order, ao, co⟩, ⟨nx, H, an2, cn2⟩, ⟨acc, aa2, ca2⟩, M, cM⟩ ro2 hl2 ⟨i1, i2, i3, i4, ⟨i5, i6⟩, ⟨i7, i8⟩, ⟨i9, i10⟩⟩
    dsimp only [List.cons_append, List.nil_append] at i1 i2 i3 i4 i5 i6 i7 i8 i9 i10 ⊢
    have hol := ord_len (w := w) i1.ord
    have hnl := i1.nlen
    have hacl := i1.alen
    have hHl := i4.len
    by_cases hlt : nx.length < order.length
    · obtain ⟨cur, hcur⟩ : ∃ cur, order[nx.length]? = some cur := ⟨_, List.getElem?_eq_getElem hlt⟩
      have hcn := i1.ord.lt cur (List.mem_of_getElem? hcur)
      have hbc := bang hcur
      obtain ⟨F, hF⟩ : ∃ F, d.next.length + 1 - nx.length = F + 1 := ⟨d.next.length - nx.length, by omega⟩
      rw [hF, ordL, hcur] at i2
      dsimp only at i2
      rw [hwd] at i2
      have hR0 : RowI d gr cur w order order (List.replicate w 0) 0 := ⟨⟨[], by simp⟩, by simp, i1.ord, fun d hd => by omega, fun i h1 h2 => by omega, fun d t hd => by omega⟩
      have hRf := fun k c o r (h : c + k ≤ 256) => rowO_ok (cur := cur) (base := order) (w := w) ho hgf k c o r h
      obtain ⟨R, hR⟩ : ∃ R, R = rowO d gr cur 256 0 order (List.replicate w 0) := ⟨_, rfl⟩
      rw [← hR] at i2
      repeat (first | exact endA | refine wkP ?_ | refine opB (fun b => ?_) | refine opA (fun a' c' hc1 hc2 => ?_) | (apply GJ.and; exact rfl; intro hg) | (apply GJ.or; exact rfl; intro hg))
      refine dwidth_ok (hD.le hl2) ?_
      rw [hwd]
      repeat (first | exact endA | refine wkP ?_ | refine opB (fun b => ?_) | refine opA (fun a' c' hc1 hc2 => ?_) | (apply GJ.and; exact rfl; intro hg) | (apply GJ.or; exact rfl; intro hg))
      rw [Int.toNat_natCast, intV_zero]
      obtain ⟨bR, hbR⟩ : ∃ z : Nat, z = b := ⟨_, rfl⟩
      subst hbR
      refine LoopOk.at (ι := Nat × (List Nat × Option Addr × Nat) × List Int × List (Int × Nat × Nat) × Nat) Keep.auto (fun (c, (order, ao, co), row, M, cM) => [(47, .int .i64 (c : Int)), (6, .slice ao order.length co)])
        (fun (c, (order, ao, co), row, M, cM) => .sl (some ⟨bR, 0, none⟩) w w 3 1 (intV row) :: .sl ao order.length co 3 1 (natsV order) :: .obj bM (mapG (Value.int .i64) nV M cM) :: .blk bO 49 (autV C0 (.slice an2 nx.length cn2) (.slice aa2 acc.length ca2)) :: .sl an2 nx.length cn2 50 1 H :: .sl aa2 acc.length ca2 4 1 (boolsV acc) :: .sl ag d.next.length cg 3 1 (intV gr) :: own)
        (fun (c, (order2, ao, co), row, M, cM) => c ≤ 256 ∧ RowI d gr cur w order order2 row c ∧ rowO d gr cur (256 - c) c order2 row = R ∧ OrdM gr order2 M ∧ (order2.length ≤ co ∧ co ≤ maxLen)) (fun (c, (order, ao, co), row, M, cM) => 256 - c) (0, (order, ao, co), List.replicate w 0, M, cM) ?_ Sub.auto Sup.auto ?_
      · exact ⟨Nat.zero_le _, hR0, hR.symm, i3, ⟨i5, i6⟩⟩
      clear i3 i5 i6
      rintro ⟨c, ⟨order2, ao2, co2⟩, row, M2, cM2⟩ ⟨c1, c2, c3, c4, ⟨c5, c6⟩⟩
      dsimp only [List.cons_append, List.nil_append] at c1 c2 c3 c4 c5 c6 ⊢
      obtain ⟨eo, heo⟩ := c2.pre
      have hlt2 : nx.length < order2.length := by rw [heo]; simp; omega
      have hcur2 : order2[nx.length]? = some cur := by rw [heo, List.getElem?_append_left hlt]; exact hcur
      have hbc2 := bang hcur2
      have hol2 := ord_len (w := w) c2.ord
      have hrl2 := c2.len
      have hiv2 := intV_len row
      by_cases hc : c < 256
      · obtain ⟨hcw, hcc⟩ := cls_lt ho hc
        have hC := hd.ldC c _ hcc
        have hst := hRf (0 + 1) c order2 row (by omega) c2
        rw [show 256 - c = (256 - (c + 1)) + 1 by omega, rowO] at c3
        rw [rowO] at hst
        obtain ⟨k', nrow, p1, p2, p3, p4⟩ := step_at ho hcn hc
        rw [hcc] at p1; cases p1
        obtain ⟨ar, cr, q1, q2⟩ := hd.rows cur nrow p3
        have hnw := ho.row nrow (List.mem_of_getElem? p3)
        have hzt := step_to ho (cur : Int) hc
        have hbn := bang p4
        generalize stepA d (cur : Int) c = z at *
        generalize clsA d c = kk at *
        have hrs2 := intV_len (row.set kk (-1))
        rw [List.length_set] at hrs2
        have hset : ∀ v : Int, (intV (row.set kk (-1))).set kk (.int .i64 v) = intV (row.set kk v) := fun v => by rw [intV_set, List.set_set]
        rcases hzt with hz | ⟨u, hz, hu⟩
        · have hgz : grpAt gr z = -1 := by rw [hz]; rfl
          rw [if_pos hgz] at c3 hst
          rw [rowO] at hst
          subst hz
          repeat (first | exact endA | refine wkP ?_ | refine opB (fun b => ?_) | refine opA (fun a' c' hc1 hc2 => ?_) | (apply GJ.and; exact rfl; intro hg) | (apply GJ.or; exact rfl; intro hg))
          refine OpOk.load rfl rfl (hC.ldE (by simp)) ?_
          repeat (first | exact endA | refine wkP ?_ | refine opB (fun b => ?_) | refine opA (fun a' c' hc1 hc2 => ?_) | (apply GJ.and; exact rfl; intro hg) | (apply GJ.or; exact rfl; intro hg))
          refine OpOk.storeSlAt' (k := kk) rfl rfl rfl rfl (by rw [Int.toNat_natCast]) (by omega) ?_
          rw [intV_set]
          repeat (first | exact endA | refine wkP ?_ | refine opB (fun b => ?_) | refine opA (fun a' c' hc1 hc2 => ?_) | (apply GJ.and; exact rfl; intro hg) | (apply GJ.or; exact rfl; intro hg))
          repeat (first | exact endA | refine wkU ?_ | (show QOk _ _ _ _ _ _ _; refine QOk.build rfl rfl Nf.auto ?_) | (show GJ _ _ _ _ _ _ _; first | with_reducible refine GJ.neF ?_ | with_reducible refine GJ.neT ?_) | (show Br _ _ _; with_reducible refine Br.ne ?_) | refine opB (fun b => ?_) | refine opA (fun a' c' hc1 hc2 => ?_) | (apply GJ.and; exact rfl; intro hg) | (apply GJ.or; exact rfl; intro hg))
          refine QOk.load rfl rfl (Go.E.Ld.rs hrs (by rw [hbc2, Int.toNat_natCast]; exact q1)) ?_
          repeat (first | exact endA | refine wkP ?_ | refine opB (fun b => ?_) | refine opA (fun a' c' hc1 hc2 => ?_) | (apply GJ.and; exact rfl; intro hg) | (apply GJ.or; exact rfl; intro hg))
          repeat (first | exact endA | refine wkP ?_ | refine opB (fun b => ?_) | refine opA (fun a' c' hc1 hc2 => ?_) | (apply GJ.and; exact rfl; intro hg) | (apply GJ.or; exact rfl; intro hg))
          refine Wk.id ⟨(c + 1, (order2, ao2, co2), row.set kk (-1), M2, cM2), ⟨rfl, ?_⟩, ?_, Sub.auto, Sup.auto⟩
          all_goals try dsimp only
          · exact ⟨by omega, hst, c3, c4, ⟨c5, c6⟩⟩
          · omega
        · subst hz
          obtain ⟨y, hy⟩ : ∃ y, gr[u]? = some y := ⟨_, List.getElem?_eq_getElem (by omega)⟩
          have hgz : grpAt gr (u : Int) = y := by unfold grpAt; rw [if_pos (by omega), Int.toNat_natCast, getI_some hy]
          have hby := bang hy
          have hby2 : gr[(nrow[((kk : Nat) : Int).toNat]!).toNat]! = y := by rw [hbn]; exact hby
          rw [hgz] at c3 hst
          by_cases hy1 : y = -1
          · rw [if_pos hy1] at c3 hst
            rw [rowO] at hst
            repeat (first | exact endA | refine wkP ?_ | refine opB (fun b => ?_) | refine opA (fun a' c' hc1 hc2 => ?_) | (apply GJ.and; exact rfl; intro hg) | (apply GJ.or; exact rfl; intro hg))
            refine OpOk.load rfl rfl (hC.ldE (by simp)) ?_
            repeat (first | exact endA | refine wkP ?_ | refine opB (fun b => ?_) | refine opA (fun a' c' hc1 hc2 => ?_) | (apply GJ.and; exact rfl; intro hg) | (apply GJ.or; exact rfl; intro hg))
            refine OpOk.storeSlAt' (k := kk) rfl rfl rfl rfl (by rw [Int.toNat_natCast]) (by omega) ?_
            rw [intV_set]
            repeat (first | exact endA | refine wkP ?_ | refine opB (fun b => ?_) | refine opA (fun a' c' hc1 hc2 => ?_) | (apply GJ.and; exact rfl; intro hg) | (apply GJ.or; exact rfl; intro hg))
            repeat (first | exact endA | refine wkU ?_ | (show QOk _ _ _ _ _ _ _; refine QOk.build rfl rfl Nf.auto ?_) | (show GJ _ _ _ _ _ _ _; first | with_reducible refine GJ.neF ?_ | with_reducible refine GJ.neT ?_) | (show Br _ _ _; with_reducible refine Br.ne ?_) | refine opB (fun b => ?_) | refine opA (fun a' c' hc1 hc2 => ?_) | (apply GJ.and; exact rfl; intro hg) | (apply GJ.or; exact rfl; intro hg))
            refine QOk.load rfl rfl (Go.E.Ld.rs hrs (by rw [hbc2, Int.toNat_natCast]; exact q1)) ?_
            repeat (first | exact endA | refine wkP ?_ | refine opB (fun b => ?_) | refine opA (fun a' c' hc1 hc2 => ?_) | (apply GJ.and; exact rfl; intro hg) | (apply GJ.or; exact rfl; intro hg))
            repeat (first | exact endA | refine wkP ?_ | refine opB (fun b => ?_) | refine opA (fun a' c' hc1 hc2 => ?_) | (apply GJ.and; exact rfl; intro hg) | (apply GJ.or; exact rfl; intro hg))
            refine Wk.id ⟨(c + 1, (order2, ao2, co2), row.set kk (-1), M2, cM2), ⟨rfl, ?_⟩, ?_, Sub.auto, Sup.auto⟩
            all_goals try dsimp only
            · exact ⟨by omega, hst, c3, c4, ⟨c5, c6⟩⟩
            · omega
          · rw [if_neg hy1] at c3 hst
            have hat := c4.at' y
            repeat (first | exact endA | refine wkP ?_ | refine opB (fun b => ?_) | refine opA (fun a' c' hc1 hc2 => ?_) | (apply GJ.and; exact rfl; intro hg) | (apply GJ.or; exact rfl; intro hg))
            refine OpOk.load rfl rfl (hC.ldE (by simp)) ?_
            repeat (first | exact endA | refine wkP ?_ | refine opB (fun b => ?_) | refine opA (fun a' c' hc1 hc2 => ?_) | (apply GJ.and; exact rfl; intro hg) | (apply GJ.or; exact rfl; intro hg))
            refine OpOk.storeSlAt' (k := kk) rfl rfl rfl rfl (by rw [Int.toNat_natCast]) (by omega) ?_
            rw [intV_set]
            repeat (first | exact endA | refine wkP ?_ | refine opB (fun b => ?_) | refine opA (fun a' c' hc1 hc2 => ?_) | (apply GJ.and; exact rfl; intro hg) | (apply GJ.or; exact rfl; intro hg))
            repeat (first | exact endA | refine wkU ?_ | (show QOk _ _ _ _ _ _ _; refine QOk.build rfl rfl Nf.auto ?_) | (show GJ _ _ _ _ _ _ _; first | with_reducible refine GJ.neF ?_ | with_reducible refine GJ.neT ?_) | (show Br _ _ _; with_reducible refine Br.ne ?_) | refine opB (fun b => ?_) | refine opA (fun a' c' hc1 hc2 => ?_) | (apply GJ.and; exact rfl; intro hg) | (apply GJ.or; exact rfl; intro hg))
            refine QOk.load rfl rfl (Go.E.Ld.rs hrs (by rw [hbc2, Int.toNat_natCast]; exact q1)) ?_
            repeat (first | exact endA | refine wkP ?_ | refine opB (fun b => ?_) | refine opA (fun a' c' hc1 hc2 => ?_) | (apply GJ.and; exact rfl; intro hg) | (apply GJ.or; exact rfl; intro hg))
            rw [hby2]
            refine OpOk.lookupOkG (kt := 3) (et := 3) (kv := Value.int .i64) (vv := nV) (k := y) (z := .int .i64 0) rfl rfl (by kernel_rfl) (KeyEnc.int (by kernel_rfl)) c4.map trivial (by kernel_rfl) ?_
            rw [hat]
            cases hidx : order2.findIdx? (fun s => getI' gr s == y) with
            | some m =>
              rw [hidx] at c3 hst
              dsimp only at c3 hst
              rw [rowO] at hst
              simp only [Option.map_some, Option.getD_some, Option.isSome_some, nV]
              repeat (first | exact endA | refine wkP ?_ | refine opB (fun b => ?_) | refine opA (fun a' c' hc1 hc2 => ?_) | (apply GJ.and; exact rfl; intro hg) | (apply GJ.or; exact rfl; intro hg))
              refine OpOk.storeSlAt' (k := kk) rfl rfl rfl rfl (by rw [Int.toNat_natCast]) (by omega) ?_
              rw [hset]
              repeat (first | exact endA | refine wkP ?_ | refine opB (fun b => ?_) | refine opA (fun a' c' hc1 hc2 => ?_) | (apply GJ.and; exact rfl; intro hg) | (apply GJ.or; exact rfl; intro hg))
              repeat (first | exact endA | refine wkP ?_ | refine opB (fun b => ?_) | refine opA (fun a' c' hc1 hc2 => ?_) | (apply GJ.and; exact rfl; intro hg) | (apply GJ.or; exact rfl; intro hg))
              refine Wk.id ⟨(c + 1, (order2, ao2, co2), row.set kk (m : Int), M2, cM2), ⟨rfl, ?_⟩, ?_, Sub.auto, Sup.auto⟩
              all_goals try dsimp only
              · exact ⟨by omega, hst, c3, c4, ⟨c5, c6⟩⟩
              · omega
            | none =>
              rw [hidx] at c3 hst
              dsimp only at c3 hst
              rw [rowO, Int.toNat_natCast] at hst
              rw [Int.toNat_natCast] at c3
              have hpu := c4.push (s := u) (by rw [getI_some hy]; exact hidx) cM2
              rw [getI_some hy] at hpu
              have hnat : natsV order2 ++ [.int .i64 (u : Int)] = natsV (order2 ++ [u]) := by simp [natsV]
              have hnl2 : order2.length + 1 = (order2 ++ [u]).length := by simp
              simp only [Option.map_none, Option.getD_none, Option.isSome_none]
              repeat (first | exact endA | refine wkP ?_ | refine opB (fun b => ?_) | refine opA (fun a' c' hc1 hc2 => ?_) | (apply GJ.and; exact rfl; intro hg) | (apply GJ.or; exact rfl; intro hg))
              rw [hby2]
              refine OpOk.mapUpdateG (kt := 3) (et := 3) (kv := Value.int .i64) (vv := nV) (k := y) (v := order2.length) rfl rfl rfl (by kernel_rfl) (KeyEnc.int (by kernel_rfl)) c4.map trivial (fun cM3 => ?_)
              generalize putG M2 cM2 y order2.length = M3 at *
              repeat (first | exact endA | refine wkP ?_ | refine opB (fun b => ?_) | refine opA (fun a' c' hc1 hc2 => ?_) | (apply GJ.and; exact rfl; intro hg) | (apply GJ.or; exact rfl; intro hg))
              rw [hbn, hnat, hnl2]
              rw [hnl2] at hc1
              refine OpOk.storeSlAt' (k := kk) rfl rfl rfl rfl (by rw [Int.toNat_natCast]) (by omega) ?_
              rw [hset]
              repeat (first | exact endA | refine wkP ?_ | refine opB (fun b => ?_) | refine opA (fun a' c' hc1 hc2 => ?_) | (apply GJ.and; exact rfl; intro hg) | (apply GJ.or; exact rfl; intro hg))
              repeat (first | exact endA | refine wkP ?_ | refine opB (fun b => ?_) | refine opA (fun a' c' hc1 hc2 => ?_) | (apply GJ.and; exact rfl; intro hg) | (apply GJ.or; exact rfl; intro hg))
              refine Wk.id ⟨(c + 1, (order2 ++ [u], a', c'), row.set kk (order2.length : Int), M3, cM3), ⟨rfl, ?_⟩, ?_, Sub.auto, Sup.auto⟩
              all_goals try dsimp only
              · exact ⟨by omega, hst, c3, hpu, ⟨hc1, hc2⟩⟩
              · omega
      · have hc6 : c = 256 := by omega
        subst hc6
        have hst := i1.step hcur c2
        rw [Nat.sub_self, rowO] at c3
        subst c3
        obtain ⟨pv, hpv⟩ : ∃ p, d.acc[cur]? = some p := ⟨_, List.getElem?_eq_getElem (by omega)⟩
        have hbp := bang hpv
        have hbp2 : d.acc[(order2[((nx.length : Nat) : Int).toNat]! : Int).toNat]! = pv := by rw [hbc2]; exact hbp
        have hacn : boolsV acc ++ [.bool pv] = boolsV (acc ++ [pv]) := by simp [boolsV]
        have hnn : nx.length + 1 = (nx ++ [row]).length := by simp
        have hnnI : (nx.length : Int) + 1 = ((nx ++ [row]).length : Int) := by simp
        have han : acc.length + 1 = (acc ++ [pv]).length := by simp
        rw [getB_some hpv] at hst i2
        dsimp only at i2
        repeat (first | exact endA | refine wkT ?_ | refine opB (fun b => ?_) | refine opA (fun a' c' hc1 hc2 => ?_) | (apply GJ.and; exact rfl; intro hg) | (apply GJ.or; exact rfl; intro hg))
        obtain ⟨aN, haN⟩ : ∃ z, z = a' := ⟨_, rfl⟩
        subst haN
        obtain ⟨cN, hcN⟩ : ∃ z, z = c' := ⟨_, rfl⟩
        subst hcN
        have hq1 := hc1
        have hq2 := hc2
        refine Bs.mk ⟨[.sl ao2 order2.length co2 3 1 (natsV order2), .blk bO 49 (autV C0 (.slice aN (nx.length + 1) cN) (.slice aa2 acc.length ca2))], Sup.auto, ?_⟩
        repeat (first | exact endA | refine wkU ?_ | (show QOk _ _ _ _ _ _ _; refine QOk.build rfl rfl Nf.auto ?_) | (show GJ _ _ _ _ _ _ _; first | with_reducible refine GJ.neF ?_ | with_reducible refine GJ.neT ?_) | (show Br _ _ _; with_reducible refine Br.ne ?_) | refine opB (fun b => ?_) | refine opA (fun a' c' hc1 hc2 => ?_) | (apply GJ.and; exact rfl; intro hg) | (apply GJ.or; exact rfl; intro hg))
        rw [hbp2, hacn, hnnI, hnn, han]
        rw [hnn] at hq1
        rw [han] at hc1
        repeat (first | exact endA | refine wkP ?_ | refine opB (fun b => ?_) | refine opA (fun a' c' hc1 hc2 => ?_) | (apply GJ.and; exact rfl; intro hg) | (apply GJ.or; exact rfl; intro hg))
        refine Wk.freeze (c := .sl (some ⟨bR, 0, none⟩) _ _ _ _ _) Take.auto (fun ro3 hl3 hc3 => ?_)
        have hrR : Rs ro3 (some ⟨bR, 0, none⟩) row.length w 1 (row.map (Value.int .i64)) := by rw [hrl2]; exact Rs.last hc3
        have hRH := (i4.le hl3).snoc hrR
        rw [hrl2] at hRH
        refine Wk.id ⟨((order2, ao2, co2), (nx ++ [row], H ++ [.slice (some ⟨bR, 0, none⟩) w w], aN, cN), (acc ++ [pv], a', c'), M2, cM2), ?_, ?_, Sub.auto, Sup.auto⟩
        all_goals try dsimp only
        · refine ⟨hst, ?_, c4, hRH, ⟨c5, c6⟩, ⟨hq1, hq2⟩, ⟨hc1, hc2⟩⟩
          rw [show d.next.length + 1 - (nx ++ [row]).length = F by simp; omega]
          exact i2
        · simp; omega
    · obtain ⟨F, hF⟩ : ∃ F, d.next.length + 1 - nx.length = F + 1 := ⟨d.next.length - nx.length, by omega⟩
      rw [hF, ordL, List.getElem?_eq_none (by omega)] at i2
      dsimp only at i2
      obtain ⟨q1, q2, q3⟩ := quot_ok ho hs (hgr ▸ grp_fin ho hs) i1 (by omega)
      have hlc : ∀ own', LdN ro2 own' q (0 + 0) (clsV d.cls) := fun own' => by
        have := LdN.part 0 256 (LdN.lastBlk (own := own') (hl2.le _ _ hd.row))
        rwa [List.drop_zero, show (autV d.cls (.slice an d.next.length cn) (.slice aa d.acc.length ca)).take 256 = clsV d.cls by unfold autV; rw [List.take_append_of_le_length (by rw [clsV_len, hd.c256]; exact Nat.le_refl _), List.take_of_length_le (by rw [clsV_len, hd.c256]; exact Nat.le_refl _)]] at this
      have hl6 : (clsV d.cls).length = 256 := by rw [clsV_len, hd.c256]
      have hone : (clsV d.cls).all (fun u => u.oneCell') = true := by rw [List.all_eq_true]; intro u hu; obtain ⟨c, _, rfl⟩ := List.mem_map.1 hu; rfl
      have hsp : Go.E.splice (autV C0 (.slice an2 nx.length cn2) (.slice aa2 acc.length ca2)) (0 + 0) (clsV d.cls) = autV d.cls (.slice an2 nx.length cn2) (.slice aa2 acc.length ca2) := by
        have e1 : (clsV C0).length = 256 := by rw [clsV_len, hC0l]
        unfold Go.E.splice autV
        rw [Nat.add_zero, List.take_zero, List.nil_append, Nat.zero_add, hl6, List.drop_append, e1, Nat.sub_self, List.drop_zero, List.drop_eq_nil_of_le (by omega), List.nil_append]
      repeat (first | exact endA | refine wkP ?_ | refine opB (fun b => ?_) | refine opA (fun a' c' hc1 hc2 => ?_) | (apply GJ.and; exact rfl; intro hg) | (apply GJ.or; exact rfl; intro hg))
      refine OpOk.loadRow rfl rfl (hlc _) hl6 ?_
      repeat (first | exact endA | refine wkP ?_ | refine opB (fun b => ?_) | refine opA (fun a' c' hc1 hc2 => ?_) | (apply GJ.and; exact rfl; intro hg) | (apply GJ.or; exact rfl; intro hg))
      refine OpOk.storePart rfl rfl rfl hl6 hone (by rw [autV_len hC0l]; omega) (cs' := autV d.cls (.slice an2 nx.length cn2) (.slice aa2 acc.length ca2)) (by rw [hsp]; exact Nf.self _) ?_
      repeat (first | exact endA | refine wkP ?_ | refine opB (fun b => ?_) | refine opA (fun a' c' hc1 hc2 => ?_) | (apply GJ.and; exact rfl; intro hg) | (apply GJ.or; exact rfl; intro hg))
      refine freezeC (l := [.blk bO 49 (autV d.cls (.slice an2 nx.length cn2) (.slice aa2 acc.length ca2)), .sl an2 nx.length cn2 50 1 H, .sl aa2 acc.length ca2 4 1 (boolsV acc)]) (own' := .sl ao order.length co 3 1 (natsV order) :: .obj bM (mapG (Value.int .i64) nV M cM) :: .sl ag d.next.length cg 3 1 (intV gr) :: own) ?_ (fun ro3 hl3 hc3 => ?_)
      · exact (List.perm_append_comm (l₁ := [_, _]) (l₂ := [_, _, _])).append_right _
      have hDt : DAt ro3 bO ⟨d.cls, nx, acc⟩ := ⟨⟨an2, cn2, aa2, ca2, H, hc3 _ (List.mem_cons_self ..), hd.c256, by rw [← hHl]; exact Rs.last (by rw [hHl]; exact hc3 _ (List.mem_cons_of_mem _ (List.mem_cons_self ..))), fun i row hi => (i4.le hl3).row i row hi, Rs.last (hc3 _ (List.mem_cons_of_mem _ (List.mem_cons_of_mem _ (List.mem_cons_self ..))))⟩⟩
      refine dnarrow_ok hDt q1 (by dsimp only; omega) (fun ro4 p4 hl4 hp4 => ?_)
      rw [← i2] at hk
      repeat (first | exact endA | refine wkP ?_ | refine opB (fun b => ?_) | refine opA (fun a' c' hc1 hc2 => ?_) | (apply GJ.and; exact rfl; intro hg) | (apply GJ.or; exact rfl; intro hg))
      exact Wk.outS Sup.auto (.refl _) (hk ro4 p4 ((hl2.trans hl3).trans hl4) hp4)
end
end Go.Proofs.YtinbmhbfcoiefaaGreatDoor
end
section
/- Contracts of dfa: Make. -/
namespace Go.Proofs.YtinbmhbfcoiefaaGreatDoor
open Go Go.E
set_option linter.unusedVariables false
set_option linter.unusedSimpArgs false
set_option maxRecDepth 10000
/-- The classes of the bytes, where the pieces up to one are told. -/
def clsU (P : List SetD) (i : Nat) : List Nat := (List.range 256).map fun c => ((P.take i).findIdx? fun p => p.has c).getD 0
theorem clsU_zero (P : List SetD) : clsU P 0 = List.replicate 256 0 := by
  apply List.ext_getElem?
  intro c
  unfold clsU
  rw [List.getElem?_map, List.getElem?_replicate]
  by_cases h : c < 256
  · rw [List.getElem?_range h, if_pos h]; rfl
  · rw [List.getElem?_eq_none (by simp; omega), if_neg h]; rfl
theorem clsU_all (P : List SetD) : clsU P P.length = clsG P := by unfold clsU clsG; rw [List.take_length]
theorem clsU_len (P : List SetD) (i : Nat) : (clsU P i).length = 256 := by simp [clsU]
theorem clsU_get (P : List SetD) (i : Nat) {c : Nat} (h : c < 256) : (clsU P i)[c]? = some (((P.take i).findIdx? fun p => p.has c).getD 0) := by
  unfold clsU; rw [List.getElem?_map, List.getElem?_range h]; rfl
/-- What holds while a piece's bytes are told. -/
structure ClsP (P : List SetD) (i : Nat) (pre : List Nat) (C : List Nat) : Prop where
  len : C.length = 256
  at' : ∀ c, c < 256 → C[c]? = some (if c ∈ pre then i else ((P.take i).findIdx? fun p => p.has c).getD 0)
theorem ClsP.start (P : List SetD) (i : Nat) : ClsP P i [] (clsU P i) := ⟨clsU_len P i, fun c hc => by rw [clsU_get P i hc, if_neg (by simp)]⟩
theorem ClsP.step {P : List SetD} {i : Nat} {pre C : List Nat} (h : ClsP P i pre C) {x : Nat} (hx : x < 256) : ClsP P i (pre ++ [x]) (C.set x i) := by
  refine ⟨by rw [List.length_set, h.len], fun c hc => ?_⟩
  by_cases e : c = x
  · subst e; rw [List.getElem?_set_self (by rw [h.len]; exact hc), if_pos (by simp)]
  · rw [List.getElem?_set_ne (fun h => e h.symm), h.at' c hc]
    congr 1
    by_cases hm : c ∈ pre
    · rw [if_pos hm, if_pos (by simp [hm])]
    · rw [if_neg hm, if_neg (by simp [hm, e])]
theorem ClsP.fin {P l : List SetD} (hcut : Cuts P l) {i : Nat} {p : SetD} (hp : P[i]? = some p) {C : List Nat} (h : ClsP P i (bytesD p) C) : C = clsU P (i + 1) := by
  apply List.ext_getElem?
  intro c
  by_cases hc : c < 256
  · rw [h.at' c hc, clsU_get P _ hc, List.take_add_one, hp, Option.toList_some, List.findIdx?_append, List.findIdx?_cons]
    congr 1
    have hmem : c ∈ bytesD p ↔ p.has c = true := by unfold bytesD; rw [List.mem_filter, List.mem_range]; exact ⟨fun h => h.2, fun h => ⟨hc, h⟩⟩
    have hi := (List.getElem?_eq_some_iff.1 hp).1
    by_cases hh : p.has c = true
    · have hnone : (P.take i).findIdx? (fun p => p.has c) = none := by
        rw [List.findIdx?_eq_none_iff]
        intro q hq
        obtain ⟨j, hj, e⟩ := List.getElem_of_mem hq
        rw [List.length_take] at hj
        have hjq : P[j]? = some q := by rw [List.getElem_take] at e; rw [List.getElem?_eq_getElem (by omega), e]
        have := (hcut.at (show j < i by omega) hjq hp).2 c hc
        cases e2 : q.has c with
        | false => rfl
        | true => exact absurd ⟨e2, hh⟩ this
      rw [if_pos (hmem.2 hh), hnone, hh]
      simp; omega
    · rw [if_neg (fun h => hh (hmem.1 h)), Bool.eq_false_iff.2 hh]
      cases (P.take i).findIdx? fun p => p.has c <;> rfl
  · rw [List.getElem?_eq_none (by rw [h.len]; omega), List.getElem?_eq_none (by rw [clsU_len]; omega)]
/-! Sets of states as keys. -/
theorem ints_inj {a b : List Nat} (h : intsN a = intsN b) : a = b := by
  unfold intsN at h
  exact List.map_inj_right (fun x y e => Int.ofNat.inj e) |>.1 h
theorem ints_idx (sets : List (List Nat)) (t : List Nat) : (sets.map intsN).idxOf? (intsN t) = sets.idxOf? t := by
  unfold List.idxOf?
  rw [List.findIdx?_map]
  congr 1
  funext x
  show (intsN x == intsN t) = (x == t)
  rw [Bool.eq_iff_iff, beq_iff_eq, beq_iff_eq]
  exact ⟨ints_inj, fun e => by rw [e]⟩
/-- A set of states as a step tells it. -/
def SetN (n : Nat) (t : List Nat) : Prop := t.Pairwise (· < ·) ∧ ∀ x ∈ t, x < n
theorem SetN.len {n : Nat} {t : List Nat} (h : SetN n t) : t.length ≤ n := sorted_len t 0 n h.1 (fun x hx => ⟨Nat.zero_le _, h.2 x hx⟩)
theorem SetN.adm {n : Nat} {t : List Nat} (h : SetN n t) (hn : n ≤ 4096) : AdmK (intsN t) := fun z hz => by
  obtain ⟨x, hx, rfl⟩ := List.mem_map.1 hz
  have := h.2 x hx
  exact ⟨Int.natCast_nonneg _, by show (x : Int) < _; omega⟩
theorem step_set (rows : RowsN) (list : List Int) (c : Nat) : SetN rows.length (stepN rows list c) := ⟨reach_sorted _ _, fun x hx => reach_lt hx⟩
theorem start_set (rows : RowsN) : SetN rows.length (startN rows) := ⟨start_sorted rows, fun x hx => start_lt hx⟩
/-- Sets that last, behind their headers. -/
structure SetsH (ro : Ro) (sets : List (List Nat)) (H : List Value) : Prop where
  len : H.length = sets.length
  row : ∀ (i : Nat) (t : List Nat), sets[i]? = some t → ∃ (ar : Option Addr) (cr : Nat), H[i]? = some (.slice ar t.length cr) ∧ Rs ro ar t.length cr 1 (natsV t)
theorem SetsH.nil (ro : Ro) : SetsH ro [] [] := ⟨rfl, fun i row h => by simp at h⟩
theorem SetsH.le {ro ro' : Ro} {sets : List (List Nat)} {H : List Value} (h : SetsH ro sets H) (hl : Le ro ro') : SetsH ro' sets H := ⟨h.len, fun i row hr => by
  obtain ⟨ar, cr, h1, h2⟩ := h.row i row hr
  exact ⟨ar, cr, h1, Rs.up h2⟩⟩
theorem SetsH.snoc {ro : Ro} {sets : List (List Nat)} {H : List Value} (h : SetsH ro sets H) {t : List Nat} {ar : Option Addr} {cr : Nat} (hr : Rs ro ar t.length cr 1 (natsV t)) : SetsH ro (sets ++ [t]) (H ++ [.slice ar t.length cr]) := ⟨by simp [h.len], fun i x hx => by
  rcases snoc_get hx with ⟨h1, h2⟩ | ⟨h1, h2⟩
  · obtain ⟨a, c, p1, p2⟩ := h.row i x h2
    exact ⟨a, c, snoc_old p1, p2⟩
  · subst h1; subst h2
    exact ⟨ar, cr, by rw [← h.len]; exact snoc_new _ _, hr⟩⟩
theorem firstC_of {p : SetD} {c : Nat} (hc : c < 256) (h1 : p.has c = true) (h2 : ∀ j, j < c → p.has j = false) : firstC p = c := by
  refine firstC_is ?_
  unfold SetD.firstIs
  rw [beq_iff_eq, List.find?_range_eq_some]
  exact ⟨h1, List.mem_range.2 hc, fun j hj => by simpa using h2 j hj⟩
section
variable {ro : Ro} {own r : Chs} {K : Value → Ro → Chs → Prop} {g : Chunk → Chs}
theorem rowsJ_snoc (R : List RowJ) (y : RowJ) (r : Chs) : (rowJ y :: (R.map rowJ ++ r)).Perm ((R ++ [y]).map rowJ ++ r) := by
  rw [List.map_append, List.append_assoc]
  exact List.perm_middle.symm
set_option maxHeartbeats 16000000 in
theorem dmake0_ok {a : NfaD} {v : List Value} (hv : AutoOk ro a v) (hK : AutoK a) (ht : TabOk ro) (hsl : (setsN a.rows).length ≤ 1000)
    (hk1 : (makeA a).1 ≠ 0 → K (.tuple #[.pointer none, .int .i64 ((makeA a).1 : Int)]) ro own)
    (hk2 : (makeA a).1 = 0 → ∀ (p : Nat) (an : Option Addr) (cn : Nat) (aa : Option Addr) (ca : Nat) (R : List RowJ), R.map (·.2) = (makeA a).2.next →
      K (.tuple #[ptr' p, .int .i64 0]) ro (.blk p 49 (autV (makeA a).2.cls (.slice an R.length cn) (.slice aa (makeA a).2.acc.length ca)) :: .sl an R.length cn 50 1 (R.map hdrJ) :: .sl aa (makeA a).2.acc.length ca 4 1 (boolsV (makeA a).2.acc) :: (R.map rowJ ++ own))) :
    CallOk Tryz.prog 26 #[.agg v.toArray] ro own K := by
  have hv0 := hv
  obtain ⟨ad, cp, hs, rfl, hrs, hrw⟩ := hv
  have hle := hK.ok.le
  have hmr := hrs.max
  have hncr := hrs.le
  unfold maxLen at hmr
  obtain ⟨P, hP⟩ : ∃ P, P = piecesG a := ⟨_, rfl⟩
  have hcut : Cuts P (setsN a.rows) := by rw [hP]; exact splitD_cuts hK.sets
  have hpl := hcut.len
  unfold makeA at hk1 hk2
  rw [← hP] at hk1 hk2
  refine CallOk.introM (args := [_]) (rs := [_, _]) T_ok Tryz.func26 Tryz.call26 rfl rfl (by kernel_rfl) rfl ?_
  repeat (first | exact endA | refine wkP ?_ | refine opB (fun b => ?_) | refine opA (fun a' c' hc1 hc2 => ?_) | (apply GJ.and; exact rfl; intro hg) | (apply GJ.or; exact rfl; intro hg))
  refine nlen_ok hv0 ?_
  by_cases h0 : a.rows.length = 0
  · have hn : a.rows = [] := List.eq_nil_of_length_eq_zero h0
    rw [if_pos hn] at hk1
    repeat (first | exact endA | refine wkP ?_ | refine opB (fun b => ?_) | refine opA (fun a' c' hc1 hc2 => ?_) | (apply GJ.and; exact rfl; intro hg) | (apply GJ.or; exact rfl; intro hg))
    exact Wk.own own Sup.auto (Wk.id (hk1 (by decide)))
  · rw [if_neg (fun e => h0 (by rw [e]; rfl))] at hk1 hk2
    obtain ⟨C0, hC0⟩ : ∃ C : List Nat, C = List.replicate 256 0 := ⟨_, rfl⟩
    repeat (first | exact endA | refine wkP ?_ | refine opB (fun b => ?_) | refine opA (fun a' c' hc1 hc2 => ?_) | (apply GJ.and; exact rfl; intro hg) | (apply GJ.or; exact rfl; intro hg))
    obtain ⟨b4, hb4⟩ : ∃ z : Nat, z = b := ⟨_, rfl⟩
    subst hb4
    rename_i bA
    obtain ⟨bO, hbO⟩ : ∃ z : Nat, z = b := ⟨_, rfl⟩
    subst hbO
    refine nsets_ok hv0 hK (fun aS cS z1 z2 => ?_)
    repeat (first | exact endA | refine wkP ?_ | refine opB (fun b => ?_) | refine opA (fun a' c' hc1 hc2 => ?_) | (apply GJ.and; exact rfl; intro hg) | (apply GJ.or; exact rfl; intro hg))
    refine split_ok ht hK.sets hsl (Rds.hasSl z1 z2 (setsV_len _)) (fun ap cq p1 p2 => ?_)
    have hcls := clsU_all P
    rw [show splitD (setsN a.rows) = P from hP.symm] at p1 ⊢
    have hps := fun i (p : SetD) (h : P[i]? = some p) => setsV_drop P i p h
    have hpvl := setsV_len P
    have p3 := p2
    unfold maxLen at p3
    obtain ⟨AV, hAV⟩ : ∃ A : List Value, A = [Value.slice ad a.rows.length cp, .int .i64 a.last] := ⟨_, rfl⟩
    repeat (first | exact endA | refine wkP ?_ | refine opB (fun b => ?_) | refine opA (fun a' c' hc1 hc2 => ?_) | (apply GJ.and; exact rfl; intro hg) | (apply GJ.or; exact rfl; intro hg))
    refine LoopOk.auto (ι := Nat) Keep.auto (fun i => [(30, .int .i64 (i : Int))])
      (fun i => .sl ap P.length cq 116 4 (setsV P) :: .blk b4 29 [.pointer (some ⟨bO, 0, none⟩)] :: .blk bO 49 (autV (clsU P i) (.slice none 0 0) (.slice none 0 0)) :: .blk bA 68 [.slice ad a.rows.length cp, .int .i64 a.last] :: own)
      (fun i ro2 => i ≤ P.length) (fun i => P.length - i) 0 ?_ Sub.auto (by rw [clsU_zero]; exact Sup.auto) ?_
    · exact Nat.zero_le _
    rintro i ro2 hl2 i1
    dsimp only [List.cons_append, List.nil_append] at i1 ⊢
    have hUl := clsU_len P i
    by_cases hi : i < P.length
    · obtain ⟨p, hp⟩ : ∃ p, P[i]? = some p := ⟨_, List.getElem?_eq_getElem hi⟩
      have hpe := hcut.each p (List.mem_of_getElem? hp)
      have hdr := hps i p hp
      have hstart := ClsP.start P i
      have hfin := fun C (h : ClsP P i (bytesD p) C) => ClsP.fin hcut hp h
      obtain ⟨w1, w2, w3, w4⟩ := p
      repeat (first | exact endA | refine wkP ?_ | refine opB (fun b => ?_) | refine opA (fun a' c' hc1 hc2 => ?_) | (apply GJ.and; exact rfl; intro hg) | (apply GJ.or; exact rfl; intro hg))
      rw [Int.toNat_natCast]
      refine OpOk.loadRow rfl rfl (LdN.slRow hdr) rfl ?_
      repeat (first | exact endA | refine wkP ?_ | refine opB (fun b => ?_) | refine opA (fun a' c' hc1 hc2 => ?_) | (apply GJ.and; exact rfl; intro hg) | (apply GJ.or; exact rfl; intro hg))
      rename_i b6
      refine CodeOk.rangeFuncR (T := T) (α := Nat) (ps := [_]) (bs := [_]) (encs := fun c => [.int .u8 (c : Int)]) rfl Tryz.call49 (each_iter (s := ⟨w1, w2, w3, w4⟩) hpe.1) (fun _ => rfl) rfl (ι := List Nat × List Nat) (κ := Empty)
        (fun (pre, C) => .blk b6 3 [.int .i64 (i : Int)] :: .sl ap P.length cq 116 4 (setsV P) :: .blk b4 29 [.pointer (some ⟨bO, 0, none⟩)] :: .blk bO 49 (autV C (.slice none 0 0) (.slice none 0 0)) :: .blk bA 68 [.slice ad a.rows.length cp, .int .i64 a.last] :: own)
        (fun pre (q, C) => q = pre ∧ ClsP P i pre C) (fun e => e.elim) (fun _ e => e.elim) (fun x => [(8, .int .u8 (x : Int)), (6, .pointer (some ⟨b6, 0, none⟩)), (4, .pointer (some ⟨b4, 0, none⟩))]) ([], clsU P i) ⟨rfl, hstart⟩ Sup.auto ?_ ?_ ?_ (fun _ e => e.elim)
      · intro x own' ro' hl
        repeat (first | exact endA | refine wkT ?_ | refine opB (fun b => ?_) | refine opA (fun a' c' hc1 hc2 => ?_) | (apply GJ.and; exact rfl; intro hg) | (apply GJ.or; exact rfl; intro hg))
        exact ⟨(by repeat (first | exact trivial | refine Sub.cons rfl ?_)), Sup.all _⟩
      · rintro pre x rest ⟨q, C⟩ ro' hl hx ⟨rfl, h1⟩
        have hx6 : x < 256 := bytesD_lt (s := ⟨w1, w2, w3, w4⟩) (by rw [hx]; simp)
        have hCl := h1.len
        have hst := h1.step hx6
        dsimp only
        refine CodeRR.block ?_
        refine CodeRR.drawn NfT.auto rfl (by kernel_rfl) (by rfl) (by rfl) (by kernel_rfl) ?_
        repeat (first | exact endA | refine wkT ?_ | refine opB (fun b => ?_) | refine opA (fun a' c' hc1 hc2 => ?_) | (apply GJ.and; exact rfl; intro hg) | (apply GJ.or; exact rfl; intro hg))
        refine OpOk.storeAt rfl rfl rfl rfl (by rw [autV_len hCl]; simp; omega) ?_
        rw [show (i : Int) % 256 = (i : Int) by omega, show 0 + 0 + ((x : Nat) : Int).toNat * 1 = x by simp, aut_set (by omega)]
        repeat (first | exact endA | refine wkT ?_ | refine opB (fun b => ?_) | refine opA (fun a' c' hc1 hc2 => ?_) | (apply GJ.and; exact rfl; intro hg) | (apply GJ.or; exact rfl; intro hg))
        exact Wk.id ⟨(q ++ [x], C.set x i), ⟨rfl, hst⟩, Sup.auto⟩
      · rintro ⟨q, C⟩ ro' hl ⟨rfl, h1⟩
        have := hfin C h1
        subst this
        dsimp only
        repeat (first | exact endA | refine wkP ?_ | refine opB (fun b => ?_) | refine opA (fun a' c' hc1 hc2 => ?_) | (apply GJ.and; exact rfl; intro hg) | (apply GJ.or; exact rfl; intro hg))
        refine Wk.id ⟨i + 1, ?_, ?_, Sub.auto, Sup.auto⟩
        all_goals try dsimp only
        · omega
        · omega
    · obtain rfl : i = P.length := by omega
      rw [hcls]
      repeat (first | exact endA | refine wkP ?_ | refine opB (fun b => ?_) | refine opA (fun a' c' hc1 hc2 => ?_) | (apply GJ.and; exact rfl; intro hg) | (apply GJ.or; exact rfl; intro hg))
      have hv2 := hv0.le hl2
      refine nstart_ok hv2 hK.ok (fun aT cT y1 y2 => ?_)
      have hss := start_set a.rows
      obtain ⟨T0, hT0⟩ : ∃ T0, T0 = startN a.rows := ⟨_, rfl⟩
      rw [← hT0] at hss y1 hk1 hk2 ⊢
      have hTl := hss.len
      have hTa := hss.adm (by omega)
      have hTk := ints_nats T0
      have hnat : (intsN T0).map (Value.int .i64) = natsV T0 := hTk
      have hil := ints_len T0
      repeat (first | exact endA | refine wkP ?_ | refine opB (fun b => ?_) | refine opA (fun a' c' hc1 hc2 => ?_) | (apply GJ.and; exact rfl; intro hg) | (apply GJ.or; exact rfl; intro hg))
      refine OpOk.makeMapG (kv := str) (vv := nV) (fun bM => ?_)
      repeat (first | exact endA | refine wkP ?_ | refine opB (fun b => ?_) | refine opA (fun a' c' hc1 hc2 => ?_) | (apply GJ.and; exact rfl; intro hg) | (apply GJ.or; exact rfl; intro hg))
      refine OpOk.load rfl rfl (Ld.slAt' (k := 0) rfl rfl) ?_
      repeat (first | exact endA | refine wkP ?_ | refine opB (fun b => ?_) | refine opA (fun a' c' hc1 hc2 => ?_) | (apply GJ.and; exact rfl; intro hg) | (apply GJ.or; exact rfl; intro hg))
      refine CallOk.freeze (c := .sl aT _ _ _ _ _) Take.auto (fun ro3 hl3 hc3 => ?_)
      have hrT : Rs ro3 aT T0.length cT 1 (natsV T0) := Rs.last hc3
      refine key_ok (l := intsN T0) (by rw [hnat]; exact hrT.rds) hil (by omega) hTa ?_
      repeat (first | exact endA | refine wkP ?_ | refine opB (fun b => ?_) | refine opA (fun a' c' hc1 hc2 => ?_) | (apply GJ.and; exact rfl; intro hg) | (apply GJ.or; exact rfl; intro hg))
      refine OpOk.insertG (OpOk.mapUpdateG (kt := 9) (et := 3) (kv := str) (vv := nV) (k := keyT (intsN T0)) (v := 0) rfl rfl rfl (by kernel_rfl) (KeyEnc.text (by kernel_rfl)) MapOk.nil (by rw [keyT_len, hil]; unfold maxLen; omega) (fun c1 => ?_))
      have hM0 := (KeyM.nil 4096).push (by decide) hTa (by omega) rfl 0
      have hT1 : [].idxOf? (intsN T0) = none := rfl
      obtain ⟨Zo, hZo⟩ : ∃ Z, Z = subG a P 1025 [T0] [] [] := ⟨_, rfl⟩
      rw [← hZo] at hk1 hk2
      have hH0 : SetsH ro3 [T0] [.slice aT T0.length cT] := (SetsH.nil ro3).snoc hrT
      obtain ⟨bS, hbS⟩ : ∃ z : Nat, z = b := ⟨_, rfl⟩
      subst hbS
      obtain ⟨CP, hCP⟩ : ∃ C, C = clsG P := ⟨_, rfl⟩
      have hCPl : CP.length = 256 := by rw [hCP, cls_len]
      repeat (first | exact endA | refine wkP ?_ | refine opB (fun b => ?_) | refine opA (fun a' c' hc1 hc2 => ?_) | (apply GJ.and; exact rfl; intro hg) | (apply GJ.or; exact rfl; intro hg))
      refine LoopOk.auto (ι := (List (List Nat) × Option Addr × Nat × List Value) × (List RowJ × Option Addr × Nat) × (List Bool × Option Addr × Nat) × List (List UInt8 × Nat × Nat) × Nat) Keep.auto (fun ((sets, aH, cH, HS), (R, an, cn), (acc, aa, ca), M, cM) => [(11, .int .i64 (R.length : Int)), (9, .slice aH sets.length cH)])
        (fun ((sets, aH, cH, HS), (R, an, cn), (acc, aa, ca), M, cM) => .sl aH sets.length cH 50 1 HS :: .obj bM (mapG str nV M cM) :: .sl ap P.length cq 116 4 (setsV P) :: .blk b4 29 [.pointer (some ⟨bO, 0, none⟩)] :: .blk bO 49 (autV (CP) (.slice an R.length cn) (.slice aa acc.length ca)) :: .blk bA 68 [.slice ad a.rows.length cp, .int .i64 a.last] :: .sl an R.length cn 50 1 (R.map hdrJ) :: .sl aa acc.length ca 4 1 (boolsV acc) :: (R.map rowJ ++ own))
        (fun ((sets, aH, cH, HS), (R, an, cn), (acc, aa, ca), M, cM) ro2 => SetsH ro2 sets HS ∧ (∀ t ∈ sets, SetN a.rows.length t) ∧ sets.length ≤ 1024 ∧ KeyM 4096 (sets.map intsN) M ∧ (R.length ≤ sets.length ∧ acc.length = R.length) ∧ subG a P (1025 - R.length) sets (R.map (·.2)) acc = Zo ∧ (sets.length ≤ cH ∧ cH ≤ maxLen) ∧ (R.length ≤ cn ∧ cn ≤ maxLen) ∧ (acc.length ≤ ca ∧ ca ≤ maxLen))
        (fun ((sets, aH, cH, HS), (R, an, cn), (acc, aa, ca), M, cM) => 1025 - R.length) (([T0], some ⟨bS, 0, none⟩, 1, [.slice aT T0.length cT]), ([], none, 0), ([], none, 0), _, _) ?_ Sub.auto (by rw [hCP]; exact Sup.auto) ?_
      · exact ⟨hH0, (fun t ht => by rw [List.mem_singleton] at ht; rw [ht]; exact hss), (by simp), hM0, ⟨Nat.zero_le _, rfl⟩, hZo.symm, ⟨Nat.le_refl _, by unfold maxLen; decide⟩, ⟨Nat.le_refl _, Nat.zero_le _⟩, ⟨Nat.le_refl _, Nat.zero_le _⟩⟩
      clear hM0 hH0 hT1
      rintro ⟨⟨sets, aH, cH, HS⟩, ⟨R, an, cn⟩, ⟨acc, aa, ca⟩, M, cM⟩ ro4 hl4 ⟨j1, j2, j3, j4, ⟨j5, j6⟩, j7, ⟨j8, j9⟩, ⟨j10, j11⟩, ⟨j12, j13⟩⟩
      dsimp only [List.cons_append, List.nil_append] at j1 j2 j3 j4 j5 j6 j7 j8 j9 j10 j11 j12 j13 ⊢
      have hHl := j1.len
      have hRh : (R.map hdrJ).length = R.length := List.length_map _
      have hRm : (R.map (·.2)).length = R.length := List.length_map _
      obtain ⟨F, hF⟩ : ∃ F, 1025 - R.length = F + 1 := ⟨1024 - R.length, by omega⟩
      by_cases hlt : R.length < sets.length
      · obtain ⟨cur, hcur⟩ : ∃ cur, sets[R.length]? = some cur := ⟨_, List.getElem?_eq_getElem hlt⟩
        rw [hF, subG, hRm, hcur] at j7
        dsimp only at j7
        obtain ⟨Ro, hRo⟩ : ∃ Z, Z = rowG a.rows cur P sets [] := ⟨_, rfl⟩
        rw [← hRo] at j7
        repeat (first | exact endA | refine wkP ?_ | refine opB (fun b => ?_) | refine opA (fun a' c' hc1 hc2 => ?_) | (apply GJ.and; exact rfl; intro hg) | (apply GJ.or; exact rfl; intro hg))
        rw [Int.toNat_natCast, intV_zero]
        obtain ⟨bR, hbR⟩ : ∃ z : Nat, z = b := ⟨_, rfl⟩
        subst hbR
        refine LoopOk.auto (ι := Nat × (List (List Nat) × Option Addr × Nat × List Value) × List Int × List (List UInt8 × Nat × Nat) × Nat) Keep.auto (fun (i, (sets, aH, cH, HS), row, M, cM) => [(66, .int .i64 (i : Int)), (9, .slice aH sets.length cH)])
          (fun (i, (sets, aH, cH, HS), row, M, cM) => .sl (some ⟨bR, 0, none⟩) P.length P.length 3 1 (intV (row ++ List.replicate (P.length - i) 0)) :: .sl aH sets.length cH 50 1 HS :: .obj bM (mapG str nV M cM) :: .sl ap P.length cq 116 4 (setsV P) :: .blk b4 29 [.pointer (some ⟨bO, 0, none⟩)] :: .blk bO 49 (autV CP (.slice an R.length cn) (.slice aa acc.length ca)) :: .blk bA 68 [.slice ad a.rows.length cp, .int .i64 a.last] :: .sl an R.length cn 50 1 (R.map hdrJ) :: .sl aa acc.length ca 4 1 (boolsV acc) :: (R.map rowJ ++ own))
          (fun (i, (sets2, aH, cH, HS), row, M, cM) ro5 => i ≤ P.length ∧ row.length = i ∧ SetsH ro5 sets2 HS ∧ (∀ t ∈ sets2, SetN a.rows.length t) ∧ sets2.length ≤ 1024 ∧ KeyM 4096 (sets2.map intsN) M ∧ (R.length < sets2.length ∧ sets2[R.length]? = some cur) ∧ rowG a.rows cur (P.drop i) sets2 row = Ro ∧ (sets2.length ≤ cH ∧ cH ≤ maxLen))
          (fun (i, (sets, aH, cH, HS), row, M, cM) => P.length - i) (0, (sets, aH, cH, HS), [], M, cM) ?_ Sub.auto Sup.auto ?_
        · exact ⟨Nat.zero_le _, rfl, j1, j2, j3, j4, ⟨hlt, hcur⟩, hRo.symm, ⟨j8, j9⟩⟩
        clear j1 j2 j3 j4 j8 j9 hcur hlt hHl
        rintro ⟨i, ⟨sets2, aH2, cH2, HS2⟩, row, M2, cM2⟩ ro5 hl5 ⟨i1, i2, i3, i4, i5, i6, ⟨i7, i8⟩, i9, ⟨i10, i11⟩⟩
        dsimp only [List.cons_append, List.nil_append] at i1 i2 i3 i4 i5 i6 i7 i8 i9 i10 i11 ⊢
        have hHl := i3.len
        obtain ⟨ac, cc, hc1h, hc2h⟩ := i3.row R.length cur i8
        have hcs := i4 cur (List.mem_of_getElem? i8)
        have hcurl := hcs.len
        have hbl := intV_len (row ++ List.replicate (P.length - i) 0)
        rw [show (row ++ List.replicate (P.length - i) (0 : Int)).length = P.length by simp; omega] at hbl
        have hv5 := ((hv2.le hl3).le hl4).le hl5
        by_cases hi : i < P.length
        · obtain ⟨p, hp⟩ : ∃ p, P[i]? = some p := ⟨_, List.getElem?_eq_getElem hi⟩
          have hpe := hcut.each p (List.mem_of_getElem? hp)
          have hdr := hps i p hp
          have hstl := fun c => step_len (rows := a.rows) (c := c) hcs.1
          have hsts := fun c => step_set a.rows (intsN cur) c
          have hed := hK.edges
          have hss : ∀ v : Int, (intV (row ++ List.replicate (P.length - i) 0)).set i (.int .i64 v) = intV ((row ++ [v]) ++ List.replicate (P.length - (i + 1)) 0) := fun v => by rw [intV_set, snoc_set i2 hi]
          rw [dropN_cons hp, rowG] at i9
          have hfc := fun c => firstC_of (p := p) (c := c)
          have ht5 := (((ht.le hl2).le hl3).le hl4).le hl5
          obtain ⟨w1, w2, w3, w4⟩ := p
          repeat (first | exact endA | refine wkP ?_ | refine opB (fun b => ?_) | refine opA (fun a' c' hc1 hc2 => ?_) | (apply GJ.and; exact rfl; intro hg) | (apply GJ.or; exact rfl; intro hg))
          rw [Int.toNat_natCast]
          refine OpOk.loadRow rfl rfl (LdN.slRow hdr) rfl ?_
          repeat (first | exact endA | refine wkP ?_ | refine opB (fun b => ?_) | refine opA (fun a' c' hc1 hc2 => ?_) | (apply GJ.and; exact rfl; intro hg) | (apply GJ.or; exact rfl; intro hg))
          refine first_ok (s := ⟨w1, w2, w3, w4⟩) ht5 hpe.1 (fun e => absurd e hpe.2) (fun c f1 f2 f3 => ?_)
          rw [hfc c f1 f2 f3] at i9
          have hstc := hstl c
          have htoS := hsts c
          repeat (first | exact endA | refine wkP ?_ | refine opB (fun b => ?_) | refine opA (fun a' c' hc1 hc2 => ?_) | (apply GJ.and; exact rfl; intro hg) | (apply GJ.or; exact rfl; intro hg))
          refine QOk.load rfl rfl (Ld.slAt' (k := R.length) (by rw [Int.toNat_natCast]) hc1h) ?_
          repeat (first | exact endA | refine wkP ?_ | refine opB (fun b => ?_) | refine opA (fun a' c' hc1 hc2 => ?_) | (apply GJ.and; exact rfl; intro hg) | (apply GJ.or; exact rfl; intro hg))
          refine nstep_ok (list := intsN cur) (c := c) hv5 hK (by rw [ints_nats]; exact hc2h.rds) (ints_len _) f1 (by omega) (fun a5 c5 u1 u2 => ?_)
          generalize stepN a.rows (intsN cur) c = to at *
          have htol := htoS.len
          have htoa := htoS.adm (by omega)
          have htn : (intsN to).map (Value.int .i64) = natsV to := ints_nats to
          have htil := ints_len to
          by_cases h0 : to = []
          · rw [if_pos h0] at i9
            subst h0
            repeat (first | exact endA | refine wkP ?_ | refine opB (fun b => ?_) | refine opA (fun a' c' hc1 hc2 => ?_) | (apply GJ.and; exact rfl; intro hg) | (apply GJ.or; exact rfl; intro hg))
            refine OpOk.storeSlAt' (k := i) rfl rfl rfl rfl (by rw [Int.toNat_natCast]) (by omega) ?_
            rw [hss]
            repeat (first | exact endA | refine wkP ?_ | refine opB (fun b => ?_) | refine opA (fun a' c' hc1 hc2 => ?_) | (apply GJ.and; exact rfl; intro hg) | (apply GJ.or; exact rfl; intro hg))
            repeat (first | exact endA | refine wkP ?_ | refine opB (fun b => ?_) | refine opA (fun a' c' hc1 hc2 => ?_) | (apply GJ.and; exact rfl; intro hg) | (apply GJ.or; exact rfl; intro hg))
            refine Wk.id ⟨(i + 1, (sets2, aH2, cH2, HS2), row ++ [-1], M2, cM2), ?_, ?_, Sub.auto, Sup.auto⟩
            all_goals try dsimp only
            · exact ⟨by omega, by simp [i2], i3, i4, i5, i6, ⟨i7, i8⟩, i9, ⟨i10, i11⟩⟩
            · omega
          · rw [if_neg h0] at i9
            have htp : 0 < to.length := List.length_pos_iff.2 h0
            have hgk := i6.at' _ htoa
            rw [ints_idx] at hgk
            have hkt : (keyT (intsN to)).length ≤ maxLen := by rw [keyT_len, htil]; unfold maxLen; omega
            have hMl := i6.len
            rw [List.length_map] at hMl
            have hpush := fun h => i6.push (by decide) htoa (by omega) h cM2
            rw [ints_idx, List.length_map, show sets2.map intsN ++ [intsN to] = (sets2 ++ [to]).map intsN by simp] at hpush
            repeat (first | exact endA | refine wkP ?_ | refine opB (fun b => ?_) | refine opA (fun a' c' hc1 hc2 => ?_) | (apply GJ.and; exact rfl; intro hg) | (apply GJ.or; exact rfl; intro hg))
            refine CallOk.freeze (c := .sl a5 _ _ _ _ _) Take.auto (fun ro6 hl6 hc6 => ?_)
            have hrT6 : Rs ro6 a5 to.length c5 1 (natsV to) := Rs.last hc6
            refine key_ok (l := intsN to) (by rw [htn]; exact hrT6.rds) htil (by omega) htoa ?_
            repeat (first | exact endA | refine wkP ?_ | refine opB (fun b => ?_) | refine opA (fun a' c' hc1 hc2 => ?_) | (apply GJ.and; exact rfl; intro hg) | (apply GJ.or; exact rfl; intro hg))
            refine OpOk.lookupOkG (kt := 9) (et := 3) (kv := str) (vv := nV) (k := keyT (intsN to)) (z := .int .i64 0) rfl rfl (by kernel_rfl) (KeyEnc.text (by kernel_rfl)) i6.map hkt (by kernel_rfl) ?_
            rw [hgk]
            cases hidx : sets2.idxOf? to with
            | some u =>
              rw [hidx] at i9
              dsimp only at i9
              simp only [Option.map_some, Option.getD_some, Option.isSome_some, nV]
              repeat (first | exact endA | refine wkP ?_ | refine opB (fun b => ?_) | refine opA (fun a' c' hc1 hc2 => ?_) | (apply GJ.and; exact rfl; intro hg) | (apply GJ.or; exact rfl; intro hg))
              refine OpOk.storeSlAt' (k := i) rfl rfl rfl rfl (by rw [Int.toNat_natCast]) (by omega) ?_
              rw [hss]
              repeat (first | exact endA | refine wkP ?_ | refine opB (fun b => ?_) | refine opA (fun a' c' hc1 hc2 => ?_) | (apply GJ.and; exact rfl; intro hg) | (apply GJ.or; exact rfl; intro hg))
              repeat (first | exact endA | refine wkP ?_ | refine opB (fun b => ?_) | refine opA (fun a' c' hc1 hc2 => ?_) | (apply GJ.and; exact rfl; intro hg) | (apply GJ.or; exact rfl; intro hg))
              refine Wk.id ⟨(i + 1, (sets2, aH2, cH2, HS2), row ++ [(u : Int)], M2, cM2), ?_, ?_, Sub.auto, Sup.auto⟩
              all_goals try dsimp only
              · exact ⟨by omega, by simp [i2], i3.le hl6, i4, i5, i6, ⟨i7, i8⟩, i9, ⟨i10, i11⟩⟩
              · omega
            | none =>
              rw [hidx] at i9
              dsimp only at i9
              have hpush := hpush hidx
              simp only [Option.map_none, Option.getD_none, Option.isSome_none]
              by_cases hmx : sets2.length = 1024
              · rw [if_pos hmx] at i9
                rw [← i9] at j7
                dsimp only at j7
                rw [← j7] at hk1
                dsimp only at hk1
                repeat (first | exact endA | refine wkP ?_ | refine opB (fun b => ?_) | refine opA (fun a' c' hc1 hc2 => ?_) | (apply GJ.and; exact rfl; intro hg) | (apply GJ.or; exact rfl; intro hg))
                exact Wk.own own (by repeat (first | exact Sup.app _ (Sup.all _) | refine Sup.drop _ ?_)) (Wk.id (hk1 (by decide)))
              · rw [if_neg hmx] at i9
                have e1 : sets2.length + 1 = (sets2 ++ [to]).length := by simp
                repeat (first | exact endA | refine wkP ?_ | refine opB (fun b => ?_) | refine opA (fun a' c' hc1 hc2 => ?_) | (apply GJ.and; exact rfl; intro hg) | (apply GJ.or; exact rfl; intro hg))
                refine key_ok (l := intsN to) (by rw [htn]; exact hrT6.rds) htil (by omega) htoa ?_
                repeat (first | exact endA | refine wkP ?_ | refine opB (fun b => ?_) | refine opA (fun a' c' hc1 hc2 => ?_) | (apply GJ.and; exact rfl; intro hg) | (apply GJ.or; exact rfl; intro hg))
                refine OpOk.mapUpdateG (kt := 9) (et := 3) (kv := str) (vv := nV) (k := keyT (intsN to)) (v := sets2.length) rfl rfl rfl (by kernel_rfl) (KeyEnc.text (by kernel_rfl)) i6.map hkt (fun c2 => ?_)
                generalize putG M2 cM2 (keyT (intsN to)) sets2.length = M3 at *
                repeat (first | exact endA | refine wkP ?_ | refine opB (fun b => ?_) | refine opA (fun a' c' hc1 hc2 => ?_) | (apply GJ.and; exact rfl; intro hg) | (apply GJ.or; exact rfl; intro hg))
                rw [e1]
                rw [e1] at hc1
                refine OpOk.storeSlAt' (k := i) rfl rfl rfl rfl (by rw [Int.toNat_natCast]) (by omega) ?_
                rw [hss]
                repeat (first | exact endA | refine wkP ?_ | refine opB (fun b => ?_) | refine opA (fun a' c' hc1 hc2 => ?_) | (apply GJ.and; exact rfl; intro hg) | (apply GJ.or; exact rfl; intro hg))
                repeat (first | exact endA | refine wkP ?_ | refine opB (fun b => ?_) | refine opA (fun a' c' hc1 hc2 => ?_) | (apply GJ.and; exact rfl; intro hg) | (apply GJ.or; exact rfl; intro hg))
                refine Wk.id ⟨(i + 1, (sets2 ++ [to], a', c', HS2 ++ [.slice a5 to.length c5]), row ++ [(sets2.length : Int)], M3, c2), ?_, ?_, Sub.auto, Sup.auto⟩
                all_goals try dsimp only
                · refine ⟨by omega, by simp [i2], (i3.le hl6).snoc hrT6, fun t ht => ?_, by simp; omega, hpush, ⟨by simp; omega, snoc_old i8⟩, i9, ⟨hc1, hc2⟩⟩
                  rcases List.mem_append.1 ht with ht | ht
                  · exact i4 t ht
                  · rw [List.mem_singleton] at ht; rw [ht]; exact htoS
                · omega
        · obtain rfl : i = P.length := by omega
          rw [List.drop_length, rowG] at i9
          rw [Nat.sub_self, List.replicate_zero, List.append_nil]
          rw [← i9] at j7
          dsimp only at j7
          obtain ⟨eb, heb⟩ : ∃ z, z = endsN a (intsN cur) := ⟨_, rfl⟩
          rw [← heb] at j7
          repeat (first | exact endA | refine wkT ?_ | refine opB (fun b => ?_) | refine opA (fun a' c' hc1 hc2 => ?_) | (apply GJ.and; exact rfl; intro hg) | (apply GJ.or; exact rfl; intro hg))
          refine Bs.mk ⟨[.blk b4 29 [.pointer (some ⟨bO, 0, none⟩)], .blk bO 49 (autV CP (.slice an R.length cn) (.slice aa acc.length ca))], Sup.auto, ?_⟩
          repeat (first | exact endA | refine wkU ?_ | (show QOk _ _ _ _ _ _ _; refine QOk.build rfl rfl Nf.auto ?_) | (show GJ _ _ _ _ _ _ _; first | with_reducible refine GJ.neF ?_ | with_reducible refine GJ.neT ?_) | (show Br _ _ _; with_reducible refine Br.ne ?_) | refine opB (fun b => ?_) | refine opA (fun a' c' hc1 hc2 => ?_) | (apply GJ.and; exact rfl; intro hg) | (apply GJ.or; exact rfl; intro hg))
          obtain ⟨aN, haN⟩ : ∃ z, z = a' := ⟨_, rfl⟩
          subst haN
          obtain ⟨cN, hcN⟩ : ∃ z, z = c' := ⟨_, rfl⟩
          subst hcN
          have hq1 := hc1
          have hq2 := hc2
          repeat (first | exact endA | refine wkT ?_ | refine opB (fun b => ?_) | refine opA (fun a' c' hc1 hc2 => ?_) | (apply GJ.and; exact rfl; intro hg) | (apply GJ.or; exact rfl; intro hg))
          refine Bs.mk ⟨[.sl aH2 sets2.length cH2 50 1 HS2, .blk b4 29 [.pointer (some ⟨bO, 0, none⟩)], .blk bO 49 (autV CP (.slice aN (R.length + 1) cN) (.slice aa acc.length ca)), .blk bA 68 [.slice ad a.rows.length cp, .int .i64 a.last]], Sup.auto, ?_⟩
          repeat (first | exact endA | refine wkU ?_ | (show QOk _ _ _ _ _ _ _; refine QOk.build rfl rfl Nf.auto ?_) | (show GJ _ _ _ _ _ _ _; first | with_reducible refine GJ.neF ?_ | with_reducible refine GJ.neT ?_) | (show Br _ _ _; with_reducible refine Br.ne ?_) | refine opB (fun b => ?_) | refine opA (fun a' c' hc1 hc2 => ?_) | (apply GJ.and; exact rfl; intro hg) | (apply GJ.or; exact rfl; intro hg))
          refine QOk.load rfl rfl (Ld.slAt' (k := R.length) (by rw [Int.toNat_natCast]) hc1h) ?_
          repeat (first | exact endA | refine wkU ?_ | (show QOk _ _ _ _ _ _ _; refine QOk.build rfl rfl Nf.auto ?_) | (show GJ _ _ _ _ _ _ _; first | with_reducible refine GJ.neF ?_ | with_reducible refine GJ.neT ?_) | (show Br _ _ _; with_reducible refine Br.ne ?_) | refine opB (fun b => ?_) | refine opA (fun a' c' hc1 hc2 => ?_) | (apply GJ.and; exact rfl; intro hg) | (apply GJ.or; exact rfl; intro hg))
          refine nends_ok (list := intsN cur) hv5 hK.ok (by rw [ints_nats]; exact hc2h.rds) (ints_len _) ?_
          rw [← heb]
          repeat (first | exact endA | refine wkU ?_ | (show QOk _ _ _ _ _ _ _; refine QOk.build rfl rfl Nf.auto ?_) | (show GJ _ _ _ _ _ _ _; first | with_reducible refine GJ.neF ?_ | with_reducible refine GJ.neT ?_) | (show Br _ _ _; with_reducible refine Br.ne ?_) | refine opB (fun b => ?_) | refine opA (fun a' c' hc1 hc2 => ?_) | (apply GJ.and; exact rfl; intro hg) | (apply GJ.or; exact rfl; intro hg))
          obtain ⟨y, hy⟩ : ∃ y : RowJ, y = ((some ⟨bR, 0, none⟩, P.length), row) := ⟨_, rfl⟩
          have hyr : rowJ y = .sl (some ⟨bR, 0, none⟩) P.length P.length 3 1 (intV row) := by rw [hy]; unfold rowJ; rw [i2]
          have hyh : R.map hdrJ ++ [.slice (some ⟨bR, 0, none⟩) P.length P.length] = (R ++ [y]).map hdrJ := by rw [List.map_append, hy]; simp [hdrJ, i2]
          have hym : (R ++ [y]).map (·.2) = R.map (·.2) ++ [row] := by rw [List.map_append, hy]; rfl
          have e1 : R.length + 1 = (R ++ [y]).length := by simp
          have e1I : (R.length : Int) + 1 = ((R ++ [y]).length : Int) := by simp
          have e2 : acc.length + 1 = (acc ++ [eb]).length := by simp
          have e3 : boolsV acc ++ [.bool eb] = boolsV (acc ++ [eb]) := by simp [boolsV]
          rw [hyh, e1I, e1, e2, e3]
          rw [e1] at hq1
          rw [e2] at hc1
          repeat (first | exact endA | refine wkP ?_ | refine opB (fun b => ?_) | refine opA (fun a' c' hc1 hc2 => ?_) | (apply GJ.and; exact rfl; intro hg) | (apply GJ.or; exact rfl; intro hg))
          refine Wk.id ⟨((sets2, aH2, cH2, HS2), (R ++ [y], aN, cN), (acc ++ [eb], a', c'), M2, cM2), ?_, ?_, Sub.auto, Sup.cons Take.auto (Sup.cons Take.auto (Sup.cons Take.auto (Sup.cons Take.auto (Sup.cons Take.auto (Sup.cons Take.auto (Sup.cons Take.auto (Sup.cons Take.auto (by rw [← hyr]; exact Sup.ofPerm (rowsJ_snoc R y own)))))))))⟩
          all_goals try dsimp only
          · refine ⟨i3, i4, i5, i6, ⟨by simp; omega, by simp [j6]⟩, ?_, ⟨i10, i11⟩, ⟨hq1, hq2⟩, ⟨hc1, hc2⟩⟩
            rw [hym, show 1025 - (R ++ [y]).length = F by simp; omega]
            exact j7
          · simp; omega
      · rw [hF, subG, hRm, List.getElem?_eq_none (by omega)] at j7
        dsimp only at j7
        rw [← j7] at hk1 hk2
        dsimp only at hk1 hk2
        repeat (first | exact endA | refine wkP ?_ | refine opB (fun b => ?_) | refine opA (fun a' c' hc1 hc2 => ?_) | (apply GJ.and; exact rfl; intro hg) | (apply GJ.or; exact rfl; intro hg))
        rw [← hCP] at hk2
        exact Wk.own (.blk bO 49 (autV CP (.slice an R.length cn) (.slice aa acc.length ca)) :: .sl an R.length cn 50 1 (R.map hdrJ) :: .sl aa acc.length ca 4 1 (boolsV acc) :: (R.map rowJ ++ own)) Sup.auto (Wk.id (hk2 rfl bO an cn aa ca R rfl))
end
end Go.Proofs.YtinbmhbfcoiefaaGreatDoor
end
section
/- Contracts of dfa: Same (of automata that are the same), Make with all made to last, Of. -/
namespace Go.E
open Go
set_option linter.unusedVariables false
set_option linter.unusedSimpArgs false
section
variable {P : Program} {T : TT} [hT : TTab P T] {ty : TypeId} {env : Env} {ro : Ro} {own : Chs} {K : Value → Ro → Chs → Prop}
theorem nthV_of : ∀ {l : List Value} {i : Nat} {v : Value}, l[i]? = some v → nthV l i = some v
  | v :: _, 0, _, h => by simpa [nthV] using h
  | _ :: r, n + 1, _, h => by rw [nthV]; exact nthV_of (l := r) (by simpa using h)
  | [], _, _, h => by simp at h
theorem run_items_same {d : Nat} {e : TypeId} {C : List Nat} {ti : TI} (ht : T.get e = some ti) (hr : ti.u.row = false) (he : P.underlying e = some (.int .u8)) (w : World) : ∀ is : List Nat, (∀ i ∈ is, i < C.length) →
    (Op.eqItems (d + 1) e 1 (C.map fun (k : Nat) => Value.int .u8 (k : Int)).toArray (C.map fun (k : Nat) => Value.int .u8 (k : Int)).toArray is).run P w = .ok true w
  | [], _ => by simp [Op.eqItems]
  | i :: is, h => by
    have hi := h i (by simp)
    have hv : nthV (C.map fun (k : Nat) => Value.int .u8 (k : Int)) (i * 1) = some (.int .u8 (C[i] : Int)) := by
      rw [Nat.mul_one]
      exact nthV_of (by simp [hi])
    have hp := run_part1 (P := P) (T := T) ht hr hv w
    simp only [Op.eqItems, Sem.run_bind, hp, Result.andThen_ok, run_equalIn_int (P := P) w d e .u8 .u8 _ _ he]
    simpa using run_items_same ht hr he w is (fun j hj => h j (by simp [hj]))
/-- Arrays of bytes that are the same. -/
theorem QOk.eqlArrSame {K : Value → Prop} {t yt e : TypeId} {x y : Operand} {C : List Nat} {n : Nat} {ti : TI} (hx : ev env x = some (.agg (C.map fun (k : Nat) => Value.int .u8 (k : Int)).toArray)) (hy : ev env y = some (.agg (C.map fun (k : Nat) => Value.int .u8 (k : Int)).toArray))
    (ht : P.underlying t = some (.array n e)) (he : P.underlying e = some (.int .u8)) (hs : (P.info? e).map (·.size) = some 1) (hg : T.get e = some ti) (hr : ti.u.row = false) (hn : C.length = n) (h2 : P.eqGuardType P.depth t = false) (hk : K (.bool true)) : QOk P (.binOp .eql t x y yt) ty env ro own K := by
  refine QOk.pu (fun h hs' d pos af g => .mk fun ρ w hρ _ => ?_) hk
  obtain ⟨i, hi, hi2⟩ := Option.map_eq_some_iff.1 hs
  have hc : P.cellsOf e = 1 := by simp [Program.cellsOf, hi, hi2]
  have he2 := run_equalIn_array (w := w) 9999 (C.map fun (k : Nat) => Value.int .u8 (k : Int)).toArray (C.map fun (k : Nat) => Value.int .u8 (k : Int)).toArray ht hi
  rw [hc, run_items_same (d := 9998) hg hr he w (List.range n) (fun i hi => by rw [hn]; exact List.mem_range.1 hi)] at he2
  simp only [execOp, hρ _ _ hx, hρ _ _ hy, Sem.run_bind, run_eqGuard_agg w .eql t x y _ _ h2, Result.andThen_ok, run_eql_struct, he2, Sem.run_pure]
end
end Go.E
namespace Go.Proofs.YtinbmhbfcoiefaaGreatDoor
open Go Go.E
set_option linter.unusedVariables false
set_option linter.unusedSimpArgs false
set_option maxRecDepth 10000
section
variable {ro : Ro} {own r : Chs} {K : Value → Ro → Chs → Prop} {g : Chunk → Chs}
theorem equalB_ok {a1 a2 : Option Addr} {n c1 c2 : Nat} {l : List Bool} (h1 : Rs ro a1 n c1 1 (l.map Value.bool)) (h2 : Rs ro a2 n c2 1 (l.map Value.bool)) (hk : K (.bool true) ro own) :
    CallOk Tryz.prog 28 #[.slice a1 n c1, .slice a2 n c2] ro own K := by
  have hl : l.length = n := by have := h1.n1; simpa using this
  have m1 := h1.max
  have m2 := h1.le
  unfold maxLen at m1
  refine CallOk.intro (args := [_, _]) (rs := [_]) T_ok Tryz.func28 Tryz.call28 rfl rfl (by kernel_rfl) rfl rfl ?_
  repeat (first | exact endA | refine wkP ?_ | refine opB (fun b => ?_) | refine opA (fun a' c' hc1 hc2 => ?_) | (apply GJ.and; exact rfl; intro hg) | (apply GJ.or; exact rfl; intro hg))
  refine LoopOk.at (ι := Nat) Keep.auto (fun i => [(13, .int .i64 (i : Int))]) (fun i => own) (fun i => i ≤ n) (fun i => n - i) 0 ?_ Sub.auto Sup.auto ?_
  · exact Nat.zero_le _
  rintro i i1
  dsimp only [List.cons_append, List.nil_append] at i1 ⊢
  by_cases hi : i < n
  · repeat (first | exact endA | refine wkP ?_ | refine opB (fun b => ?_) | refine opA (fun a' c' hc1 hc2 => ?_) | (apply GJ.and; exact rfl; intro hg) | (apply GJ.or; exact rfl; intro hg))
    refine Br.f (fun h => h rfl) ?_
    repeat (first | exact endA | refine wkP ?_ | refine opB (fun b => ?_) | refine opA (fun a' c' hc1 hc2 => ?_) | (apply GJ.and; exact rfl; intro hg) | (apply GJ.or; exact rfl; intro hg))
    refine Wk.id ⟨i + 1, ⟨rfl, ?_⟩, ?_, Sub.auto, Sup.auto⟩
    all_goals try dsimp only
    · omega
    · omega
  · repeat (first | exact endA | refine wkP ?_ | refine opB (fun b => ?_) | refine opA (fun a' c' hc1 hc2 => ?_) | (apply GJ.and; exact rfl; intro hg) | (apply GJ.or; exact rfl; intro hg))
    exact Wk.id hk
theorem same1_ok {a1 a2 : Option Addr} {c1 c2 : Nat} {l : List Int} (h1 : Rs ro a1 l.length c1 1 (l.map (Value.int .i64))) (h2 : Rs ro a2 l.length c2 1 (l.map (Value.int .i64))) (hk : K (.bool true) ro own) :
    CallOk Tryz.prog 30 #[.slice a1 l.length c1, .slice a2 l.length c2] ro own K := by
  refine CallOk.intro (args := [_, _]) (rs := [_]) T_ok Tryz.func30 Tryz.call30 rfl rfl (by kernel_rfl) rfl rfl ?_
  repeat (first | exact endA | refine wkP ?_ | refine opB (fun b => ?_) | refine opA (fun a' c' hc1 hc2 => ?_) | (apply GJ.and; exact rfl; intro hg) | (apply GJ.or; exact rfl; intro hg))
  refine equalI_ok (l := l) (m := l) h1.rds h2.rds rfl rfl (fun q hq => ?_)
  obtain rfl : q = true := hq.2 rfl
  repeat (first | exact endA | refine wkP ?_ | refine opB (fun b => ?_) | refine opA (fun a' c' hc1 hc2 => ?_) | (apply GJ.and; exact rfl; intro hg) | (apply GJ.or; exact rfl; intro hg))
  exact Wk.id hk
/-- Rows that are the same, told by a function. -/
theorem equalR_ok {a1 a2 : Option Addr} {n c1 c2 : Nat} {rows : List (List Int)} {H1 H2 : List Value} (h1 : Rs ro a1 n c1 1 H1) (h2 : Rs ro a2 n c2 1 H2) (r1 : RowsH ro rows H1) (r2 : RowsH ro rows H2) (hk : K (.bool true) ro own) :
    CallOk Tryz.prog 29 #[.slice a1 n c1, .slice a2 n c2, .func (.func 30) #[] #[]] ro own K := by
  have hl := r1.len
  have hn1 := h1.n1
  have m1 := h1.max
  have m2 := h1.le
  unfold maxLen at m1
  refine CallOk.intro (args := [_, _, _]) (rs := [_]) T_ok Tryz.func29 Tryz.call29 rfl rfl (by kernel_rfl) rfl rfl ?_
  repeat (first | exact endA | refine wkP ?_ | refine opB (fun b => ?_) | refine opA (fun a' c' hc1 hc2 => ?_) | (apply GJ.and; exact rfl; intro hg) | (apply GJ.or; exact rfl; intro hg))
  refine LoopOk.at (ι := Nat) Keep.auto (fun i => [(17, .int .i64 (i : Int))]) (fun i => own) (fun i => i ≤ n) (fun i => n - i) 0 ?_ Sub.auto Sup.auto ?_
  · exact Nat.zero_le _
  rintro i i1
  dsimp only [List.cons_append, List.nil_append] at i1 ⊢
  by_cases hi : i < n
  · obtain ⟨row, hrow⟩ : ∃ row, rows[i]? = some row := ⟨_, List.getElem?_eq_getElem (by omega)⟩
    obtain ⟨b1, d1, e1, f1⟩ := r1.row i row hrow
    obtain ⟨b2, d2, e2, f2⟩ := r2.row i row hrow
    repeat (first | exact endA | refine wkP ?_ | refine opB (fun b => ?_) | refine opA (fun a' c' hc1 hc2 => ?_) | (apply GJ.and; exact rfl; intro hg) | (apply GJ.or; exact rfl; intro hg))
    refine OpOk.load rfl rfl (Go.E.Ld.rs h1 (by rw [Int.toNat_natCast]; exact e1)) ?_
    repeat (first | exact endA | refine wkP ?_ | refine opB (fun b => ?_) | refine opA (fun a' c' hc1 hc2 => ?_) | (apply GJ.and; exact rfl; intro hg) | (apply GJ.or; exact rfl; intro hg))
    refine OpOk.load rfl rfl (Go.E.Ld.rs h2 (by rw [Int.toNat_natCast]; exact e2)) ?_
    repeat (first | exact endA | refine wkP ?_ | refine opB (fun b => ?_) | refine opA (fun a' c' hc1 hc2 => ?_) | (apply GJ.and; exact rfl; intro hg) | (apply GJ.or; exact rfl; intro hg))
    refine same1_ok f1 f2 ?_
    repeat (first | exact endA | refine wkP ?_ | refine opB (fun b => ?_) | refine opA (fun a' c' hc1 hc2 => ?_) | (apply GJ.and; exact rfl; intro hg) | (apply GJ.or; exact rfl; intro hg))
    repeat (first | exact endA | refine wkP ?_ | refine opB (fun b => ?_) | refine opA (fun a' c' hc1 hc2 => ?_) | (apply GJ.and; exact rfl; intro hg) | (apply GJ.or; exact rfl; intro hg))
    refine Wk.id ⟨i + 1, ⟨rfl, ?_⟩, ?_, Sub.auto, Sup.auto⟩
    all_goals try dsimp only
    · omega
    · omega
  · repeat (first | exact endA | refine wkP ?_ | refine opB (fun b => ?_) | refine opA (fun a' c' hc1 hc2 => ?_) | (apply GJ.and; exact rfl; intro hg) | (apply GJ.or; exact rfl; intro hg))
    exact Wk.id hk
theorem dsame_ok {p q : Nat} {d : DfaA} (h1 : DAt ro p d) (h2 : DAt ro q d) (hk : K (.bool true) ro own) : CallOk Tryz.prog 13 #[ptr' p, ptr' q] ro own K := by
  obtain ⟨an, cn, aa, ca, hs, hd⟩ := h1.rd
  obtain ⟨an2, cn2, aa2, ca2, hs2, hd2⟩ := h2.rd
  have hN := hd.ldN
  have hA := hd.ldA
  have hN2 := hd2.ldN
  have hA2 := hd2.ldA
  have hl6 : (clsV d.cls).length = 256 := by rw [clsV_len, hd.c256]
  have hlc : ∀ own', LdN ro own' p (0 + 0) (clsV d.cls) := fun own' => by
    have := LdN.part 0 256 (LdN.lastBlk (own := own') hd.row)
    rwa [List.drop_zero, show (autV d.cls (.slice an d.next.length cn) (.slice aa d.acc.length ca)).take 256 = clsV d.cls by unfold autV; rw [List.take_append_of_le_length (by rw [clsV_len, hd.c256]; exact Nat.le_refl _), List.take_of_length_le (by rw [clsV_len, hd.c256]; exact Nat.le_refl _)]] at this
  have hlc2 : ∀ own', LdN ro own' q (0 + 0) (clsV d.cls) := fun own' => by
    have := LdN.part 0 256 (LdN.lastBlk (own := own') hd2.row)
    rwa [List.drop_zero, show (autV d.cls (.slice an2 d.next.length cn2) (.slice aa2 d.acc.length ca2)).take 256 = clsV d.cls by unfold autV; rw [List.take_append_of_le_length (by rw [clsV_len, hd.c256]; exact Nat.le_refl _), List.take_of_length_le (by rw [clsV_len, hd.c256]; exact Nat.le_refl _)]] at this
  refine CallOk.intro (args := [_, _]) (rs := [_]) T_ok Tryz.func13 Tryz.call13 rfl rfl (by kernel_rfl) rfl rfl ?_
  repeat (first | exact endA | refine wkP ?_ | refine opB (fun b => ?_) | refine opA (fun a' c' hc1 hc2 => ?_) | (apply GJ.and; exact rfl; intro hg) | (apply GJ.or; exact rfl; intro hg))
  refine QOk.loadRow rfl rfl (hlc _) hl6 ?_
  repeat (first | exact endA | refine wkP ?_ | refine opB (fun b => ?_) | refine opA (fun a' c' hc1 hc2 => ?_) | (apply GJ.and; exact rfl; intro hg) | (apply GJ.or; exact rfl; intro hg))
  refine QOk.loadRow rfl rfl (hlc2 _) hl6 ?_
  repeat (first | exact endA | refine wkP ?_ | refine opB (fun b => ?_) | refine opA (fun a' c' hc1 hc2 => ?_) | (apply GJ.and; exact rfl; intro hg) | (apply GJ.or; exact rfl; intro hg))
  refine QOk.eqlArrSame (e := 5) (C := d.cls) rfl rfl (by kernel_rfl) (by kernel_rfl) (by kernel_rfl) rfl rfl hd.c256 (by kernel_rfl) ?_
  repeat (first | exact endA | refine wkP ?_ | refine opB (fun b => ?_) | refine opA (fun a' c' hc1 hc2 => ?_) | (apply GJ.and; exact rfl; intro hg) | (apply GJ.or; exact rfl; intro hg))
  refine equalB_ok hd.ra hd2.ra ?_
  repeat (first | exact endA | refine wkP ?_ | refine opB (fun b => ?_) | refine opA (fun a' c' hc1 hc2 => ?_) | (apply GJ.and; exact rfl; intro hg) | (apply GJ.or; exact rfl; intro hg))
  refine equalR_ok hd.rs hd2.rs ⟨hd.rs.n1, hd.rows⟩ ⟨hd2.rs.n1, hd2.rows⟩ ?_
  repeat (first | exact endA | refine wkP ?_ | refine opB (fun b => ?_) | refine opA (fun a' c' hc1 hc2 => ?_) | (apply GJ.and; exact rfl; intro hg) | (apply GJ.or; exact rfl; intro hg))
  exact Wk.id hk
/-- Make, all of which lasts behind it. -/
theorem dmake_ok {a : NfaD} {v : List Value} (hv : AutoOk ro a v) (hK : AutoK a) (ht : TabOk ro) (hsl : (setsN a.rows).length ≤ 1000)
    (hk1 : (makeA a).1 ≠ 0 → ∀ ro', Le ro ro' → K (.tuple #[.pointer none, .int .i64 ((makeA a).1 : Int)]) ro' own)
    (hk2 : (makeA a).1 = 0 → ∀ ro' p, Le ro ro' → DAt ro' p (makeA a).2 → K (.tuple #[ptr' p, .int .i64 0]) ro' own) :
    CallOk Tryz.prog 26 #[.agg v.toArray] ro own K :=
  CallOk.lastly (Q := fun v l => ((makeA a).1 ≠ 0 ∧ v = .tuple #[.pointer none, .int .i64 ((makeA a).1 : Int)]) ∨ ((makeA a).1 = 0 ∧ ∃ (p : Nat) (an : Option Addr) (cn : Nat) (aa : Option Addr) (ca : Nat) (R : List RowJ), R.map (·.2) = (makeA a).2.next ∧ v = .tuple #[ptr' p, .int .i64 0] ∧
      l = (.blk p 49 (autV (makeA a).2.cls (.slice an R.length cn) (.slice aa (makeA a).2.acc.length ca)) :: .sl an R.length cn 50 1 (R.map hdrJ) :: .sl aa (makeA a).2.acc.length ca 4 1 (boolsV (makeA a).2.acc) :: R.map rowJ)))
    (dmake0_ok hv hK ht hsl (fun h => ⟨rfl, [], rfl, .inl ⟨h, rfl⟩⟩) (fun h p an cn aa ca R hR => ⟨rfl, _, by simp, .inr ⟨h, p, an, cn, aa, ca, R, hR, rfl, rfl⟩⟩))
    (fun ro' v l hl hc hq => by
      rcases hq with ⟨h, rfl⟩ | ⟨h, p, an, cn, aa, ca, R, hR, rfl, rfl⟩
      · exact hk1 h ro' hl
      · have hm := (made_a2 hK.ok.to hK.sets h).1
        obtain ⟨w, _, ho, _⟩ := hm.ok
        have hRl : R.length = (makeA a).2.next.length := by rw [← hR, List.length_map]
        refine hk2 h ro' p hl ⟨⟨an, cn, aa, ca, R.map hdrJ, ?_, ho.cls, ?_, fun i row hi => ?_, Rs.last (hc _ (List.mem_cons_of_mem _ (List.mem_cons_of_mem _ (List.mem_cons_self ..))))⟩⟩
        · rw [← hRl]; exact hc _ (List.mem_cons_self ..)
        · rw [← hRl]; exact Rs.last (hc _ (List.mem_cons_of_mem _ (List.mem_cons_self ..)))
        · rw [← hR, List.getElem?_map] at hi
          obtain ⟨x, hx, rfl⟩ := Option.map_eq_some_iff.1 hi
          refine ⟨x.1.1, x.1.2, by rw [List.getElem?_map, hx]; rfl, ?_⟩
          exact Rs.last (t := 3) (hc (rowJ x) (List.mem_cons_of_mem _ (List.mem_cons_of_mem _ (List.mem_cons_of_mem _ (List.mem_map_of_mem (List.mem_of_getElem? hx)))))))
end
end Go.Proofs.YtinbmhbfcoiefaaGreatDoor
end
