/- Texts of a walk, one behind the other. -/
import Derived.Test.YtinbmhbfcoiefaaGreatDoorMg2
import Derived.Test.YtinbmhbfcoiefaaGreatDoorMg3
import Derived.Test.YtinbmhbfcoiefaaGreatDoorMg6
import Derived.Test.YtinbmhbfcoiefaaGreatDoorMg8
section
/- How an automaton that is in one state lies in memory; contracts of Len, Width, Step, Ends, Match. -/
namespace Go.E
open Go
theorem SetR.ofSet {v : Value} : ∀ {l : List Value} {k : Nat}, k < l.length → SetR l k v (l.set k v)
  | [], _, h => absurd h (Nat.not_lt_zero _)
  | x :: l, 0, _ => SetR.hit _ _ _
  | x :: l, k + 1, h => SetR.miss _ (SetR.ofSet (by simpa using h))
/-- A cell that lasts. -/
def DLd (ro : Ro) (b o : Nat) (v : Value) : Prop := ∀ own, Ld ro own b o v
theorem DLd.ld {ro ro' : Ro} {own : Chs} {b o : Nat} {v : Value} (h : DLd ro b o v) [hl : Leq ro ro'] : Ld ro' own b o v := fun g hs => h own g (hs.leq hl)
theorem DLd.ldE {ro ro' : Ro} {own : Chs} {b o o' : Nat} {v : Value} (h : DLd ro b o v) [hl : Leq ro ro'] (e : o' = o) : Ld ro' own b o' v := e ▸ h.ld
end Go.E
namespace Go.Proofs.YtinbmhbfcoiefaaGreatDoor
open Go Go.E
set_option linter.unusedVariables false
set_option linter.unusedSimpArgs false
set_option maxRecDepth 10000
def clsV (C : List Nat) : List Value := C.map fun (k : Nat) => .int .u8 (k : Int)
def autV (C : List Nat) (x y : Value) : List Value := clsV C ++ [x, y]
theorem clsV_len (C : List Nat) : (clsV C).length = C.length := by simp [clsV]
theorem autV_len {C : List Nat} (h : C.length = 256) (x y : Value) : (autV C x y).length = 258 := by simp [autV, clsV, h]
theorem aut_next {C : List Nat} {x y : Value} (h : C.length = 256) : (autV C x y)[256]? = some x := by
  unfold autV; rw [List.getElem?_append_right (by rw [clsV_len]; omega), clsV_len, h]; rfl
theorem aut_acc {C : List Nat} {x y : Value} (h : C.length = 256) : (autV C x y)[257]? = some y := by
  unfold autV; rw [List.getElem?_append_right (by rw [clsV_len]; omega), clsV_len, h]; rfl
theorem aut_cls {C : List Nat} {x y : Value} {c k : Nat} (h : C[c]? = some k) : (autV C x y)[c]? = some (.int .u8 (k : Int)) := by
  have hc := (List.getElem?_eq_some_iff.1 h).1
  unfold autV clsV
  rw [List.getElem?_append_left (by simpa using hc), List.getElem?_map, h]; rfl
theorem aut_set {C : List Nat} {x y : Value} {c : Nat} (hc : c < C.length) (k : Nat) : (autV C x y).set c (.int .u8 (k : Int)) = autV (C.set c k) x y := by
  unfold autV clsV
  rw [List.set_append_left _ _ (by simpa using hc), List.map_set]
theorem aut_set1 {C : List Nat} {x y v : Value} (h : C.length = 256) : SetR (autV C x y) 256 v (autV C v y) := by
  have e : (autV C x y).set 256 v = autV C v y := by
    unfold autV
    rw [List.set_append_right _ _ (by rw [clsV_len]; omega), clsV_len, h]; rfl
  rw [← e]
  exact SetR.ofSet (by rw [autV_len h]; omega)
theorem aut_set2 {C : List Nat} {x y v : Value} (h : C.length = 256) : SetR (autV C x y) 257 v (autV C x v) := by
  have e : (autV C x y).set 257 v = autV C x v := by
    unfold autV
    rw [List.set_append_right _ _ (by rw [clsV_len]; omega), clsV_len, h]; rfl
  rw [← e]
  exact SetR.ofSet (by rw [autV_len h]; omega)
theorem Ld.auto {ro : Ro} {own : Chs} {b o : Nat} {v : Value} (h : Ld ro own b o v := by first | exact Go.E.Ld.hasBlk rfl | exact Go.E.DLd.ld (by assumption) | exact Go.E.Ld.hasBlkAt (aut_next (by assumption)) | exact Go.E.Ld.hasBlkAt (aut_acc (by assumption)) | exact Go.E.Ld.rs (by assumption) (getMap (by omega)) | exact Go.E.Ld.rds (by assumption) (getMap (by omega)) | exact Go.E.Ld.hasSl (getMap (by omega)) | exact Go.E.Ld.hasBlkAt (getMap (by omega))) : Ld ro own b o v := h
theorem SetR.auto {cs : List Value} {o : Nat} {v : Value} {cs2 : List Value} (h : SetR cs o v cs2 := by first | ((repeat (first | exact Go.E.SetR.hit _ _ _ | apply Go.E.SetR.miss)); done) | exact aut_set1 (by assumption) | exact aut_set2 (by assumption)) : SetR cs o v cs2 := h
/-- An automaton that lasts, at a place. -/
structure DAt (ro : Ro) (q : Nat) (d : DfaA) : Prop where
  ex : ∃ (an : Option Addr) (cn : Nat) (aa : Option Addr) (ca : Nat) (hs : List Value), RowR ro q 49 (autV d.cls (.slice an d.next.length cn) (.slice aa d.acc.length ca)) ∧ d.cls.length = 256 ∧ Rs ro an d.next.length cn 1 hs ∧
    (∀ (i : Nat) (row : List Int), d.next[i]? = some row → ∃ (ar : Option Addr) (cr : Nat), hs[i]? = some (.slice ar row.length cr) ∧ Rs ro ar row.length cr 1 (row.map (Value.int .i64))) ∧ Rs ro aa d.acc.length ca 1 (d.acc.map Value.bool)
theorem DAt.le {ro ro' : Ro} {q : Nat} {d : DfaA} (h : DAt ro q d) (hl : Le ro ro') : DAt ro' q d := by
  obtain ⟨an, cn, aa, ca, hs, h1, h2, h3, h4, h5⟩ := h.ex
  refine ⟨an, cn, aa, ca, hs, hl.le _ _ h1, h2, Rs.up h3, fun i row hr => ?_, Rs.up h5⟩
  obtain ⟨ar, cr, p1, p2⟩ := h4 i row hr
  exact ⟨ar, cr, p1, Rs.up p2⟩
/-- What a walk reads of it. -/
structure DRd (ro : Ro) (q : Nat) (d : DfaA) (an : Option Addr) (cn : Nat) (aa : Option Addr) (ca : Nat) (hs : List Value) : Prop where
  row : RowR ro q 49 (autV d.cls (.slice an d.next.length cn) (.slice aa d.acc.length ca))
  c256 : d.cls.length = 256
  ldN : DLd ro q 256 (.slice an d.next.length cn)
  ldA : DLd ro q 257 (.slice aa d.acc.length ca)
  ldC : ∀ c k : Nat, d.cls[c]? = some k → DLd ro q c (.int .u8 (k : Int))
  rs : Rs ro an d.next.length cn 1 hs
  ra : Rs ro aa d.acc.length ca 1 (d.acc.map Value.bool)
  rows : ∀ (i : Nat) (row : List Int), d.next[i]? = some row → ∃ (ar : Option Addr) (cr : Nat), hs[i]? = some (.slice ar row.length cr) ∧ Rs ro ar row.length cr 1 (row.map (Value.int .i64))
theorem DLd.row {ro : Ro} {q o : Nat} {t : TypeId} {cs : List Value} {v : Value} (h : RowR ro q t cs) (hv : cs[o]? = some v) : DLd ro q o v := fun own g hs => Row.cell (h := g) (t := t) (cs := cs) (hs.last _ _ h) hv
theorem DAt.rd {ro : Ro} {q : Nat} {d : DfaA} (h : DAt ro q d) : ∃ an cn aa ca hs, DRd ro q d an cn aa ca hs := by
  obtain ⟨an, cn, aa, ca, hs, h1, h2, h3, h4, h5⟩ := h.ex
  exact ⟨an, cn, aa, ca, hs, h1, h2, DLd.row h1 (aut_next h2), DLd.row h1 (aut_acc h2), fun c k hk => DLd.row h1 (aut_cls hk), h3, h5, h4⟩
section
variable {ro : Ro} {own r : Chs} {K : Value → Ro → Chs → Prop} {g : Chunk → Chs}
theorem dlen_ok {q : Nat} {d : DfaA} (hD : DAt ro q d) (hk : K (.int .i64 (d.next.length : Int)) ro own) : CallOk Tryz.prog 12 #[ptr' q] ro own K := by
  obtain ⟨an, cn, aa, ca, hs, hd⟩ := hD.rd
  have hN := hd.ldN
  refine CallOk.intro (args := [_]) (rs := [_]) T_ok Tryz.func12 Tryz.call12 rfl rfl (by kernel_rfl) rfl rfl ?_
  repeat (first | exact endA | refine wkP ?_ | refine opB (fun b => ?_) | refine opA (fun a' c' hc1 hc2 => ?_) | (apply GJ.and; exact rfl; intro hg) | (apply GJ.or; exact rfl; intro hg))
  exact Wk.id hk
theorem dwidth_ok {q : Nat} {d : DfaA} (hD : DAt ro q d) (hk : K (.int .i64 (widthA d : Int)) ro own) : CallOk Tryz.prog 18 #[ptr' q] ro own K := by
  obtain ⟨an, cn, aa, ca, hs, hd⟩ := hD.rd
  have hN := hd.ldN
  have hrs := hd.rs
  unfold widthA at hk
  refine CallOk.intro (args := [_]) (rs := [_]) T_ok Tryz.func18 Tryz.call18 rfl rfl (by kernel_rfl) rfl rfl ?_
  repeat (first | exact endA | refine wkP ?_ | refine opB (fun b => ?_) | refine opA (fun a' c' hc1 hc2 => ?_) | (apply GJ.and; exact rfl; intro hg) | (apply GJ.or; exact rfl; intro hg))
  by_cases h0 : d.next.length = 0
  · have hn : d.next = [] := List.eq_nil_of_length_eq_zero h0
    rw [hn] at hk
    repeat (first | exact endA | refine wkP ?_ | refine opB (fun b => ?_) | refine opA (fun a' c' hc1 hc2 => ?_) | (apply GJ.and; exact rfl; intro hg) | (apply GJ.or; exact rfl; intro hg))
    exact Wk.id hk
  · obtain ⟨row, hrow⟩ : ∃ row, d.next[0]? = some row := ⟨_, List.getElem?_eq_getElem (by omega)⟩
    obtain ⟨ar, cr, h1, h2⟩ := hd.rows 0 row hrow
    rw [hrow] at hk
    repeat (first | exact endA | refine wkP ?_ | refine opB (fun b => ?_) | refine opA (fun a' c' hc1 hc2 => ?_) | (apply GJ.and; exact rfl; intro hg) | (apply GJ.or; exact rfl; intro hg))
    refine OpOk.load rfl rfl (Go.E.Ld.rs hrs h1) ?_
    repeat (first | exact endA | refine wkP ?_ | refine opB (fun b => ?_) | refine opA (fun a' c' hc1 hc2 => ?_) | (apply GJ.and; exact rfl; intro hg) | (apply GJ.or; exact rfl; intro hg))
    exact Wk.id hk
theorem dstep_ok {q : Nat} {d : DfaA} {w : Nat} {s : Int} {c : Nat} (hD : DAt ro q d) (ho : DfaOk w d) (hc : c < 256) (hk : K (.int .i64 (stepA d s c)) ro own) : CallOk Tryz.prog 16 #[ptr' q, .int .i64 s, .int .u8 (c : Int)] ro own K := by
  obtain ⟨an, cn, aa, ca, hs, hd⟩ := hD.rd
  have hN := hd.ldN
  have hrs := hd.rs
  refine CallOk.intro (args := [_, _, _]) (rs := [_]) T_ok Tryz.func16 Tryz.call16 rfl rfl (by kernel_rfl) rfl rfl ?_
  by_cases h0 : s < 0
  · unfold stepA at hk
    rw [if_pos (.inl h0)] at hk
    repeat (first | exact endA | refine wkP ?_ | refine opB (fun b => ?_) | refine opA (fun a' c' hc1 hc2 => ?_) | (apply GJ.and; exact rfl; intro hg) | (apply GJ.or; exact rfl; intro hg))
    exact Wk.id hk
  by_cases h1 : (d.next.length : Int) ≤ s
  · unfold stepA at hk
    rw [if_pos (.inr h1)] at hk
    repeat (first | exact endA | refine wkP ?_ | refine opB (fun b => ?_) | refine opA (fun a' c' hc1 hc2 => ?_) | (apply GJ.and; exact rfl; intro hg) | (apply GJ.or; exact rfl; intro hg))
    exact Wk.id hk
  obtain ⟨n, rfl⟩ : ∃ n : Nat, s = (n : Int) := ⟨s.toNat, by omega⟩
  obtain ⟨k, row, p1, p2, p3, p4⟩ := step_at ho (s := n) (by omega) hc
  obtain ⟨ar, cr, q1, q2⟩ := hd.rows n row p3
  have hC := hd.ldC c k p1
  have hrl := ho.row row (List.mem_of_getElem? p3)
  have hgr : (row.map (Value.int .i64))[k]? = some (.int .i64 (stepA d (n : Int) c)) := by rw [List.getElem?_map, p4]; rfl
  repeat (first | exact endA | refine wkP ?_ | refine opB (fun b => ?_) | refine opA (fun a' c' hc1 hc2 => ?_) | (apply GJ.and; exact rfl; intro hg) | (apply GJ.or; exact rfl; intro hg))
  repeat (first | exact endA | refine wkU ?_ | (show QOk _ _ _ _ _ _ _; refine QOk.build rfl rfl Nf.auto ?_) | (show GJ _ _ _ _ _ _ _; first | with_reducible refine GJ.neF ?_ | with_reducible refine GJ.neT ?_) | (show Br _ _ _; with_reducible refine Br.ne ?_) | refine opB (fun b => ?_) | refine opA (fun a' c' hc1 hc2 => ?_) | (apply GJ.and; exact rfl; intro hg) | (apply GJ.or; exact rfl; intro hg))
  refine QOk.load rfl rfl (Go.E.Ld.rs hrs (by rw [Int.toNat_natCast]; exact q1)) ?_
  repeat (first | exact endA | refine wkU ?_ | (show QOk _ _ _ _ _ _ _; refine QOk.build rfl rfl Nf.auto ?_) | (show GJ _ _ _ _ _ _ _; first | with_reducible refine GJ.neF ?_ | with_reducible refine GJ.neT ?_) | (show Br _ _ _; with_reducible refine Br.ne ?_) | refine opB (fun b => ?_) | refine opA (fun a' c' hc1 hc2 => ?_) | (apply GJ.and; exact rfl; intro hg) | (apply GJ.or; exact rfl; intro hg))
  refine QOk.load rfl rfl (hC.ldE (by simp)) ?_
  repeat (first | exact endA | refine wkU ?_ | (show QOk _ _ _ _ _ _ _; refine QOk.build rfl rfl Nf.auto ?_) | (show GJ _ _ _ _ _ _ _; first | with_reducible refine GJ.neF ?_ | with_reducible refine GJ.neT ?_) | (show Br _ _ _; with_reducible refine Br.ne ?_) | refine opB (fun b => ?_) | refine opA (fun a' c' hc1 hc2 => ?_) | (apply GJ.and; exact rfl; intro hg) | (apply GJ.or; exact rfl; intro hg))
  repeat (first | exact endA | refine wkP ?_ | refine opB (fun b => ?_) | refine opA (fun a' c' hc1 hc2 => ?_) | (apply GJ.and; exact rfl; intro hg) | (apply GJ.or; exact rfl; intro hg))
  exact Wk.val hk (by rw [Int.toNat_natCast, List.getElem!_eq_getElem?_getD, p4]; rfl)
theorem dends_ok {q : Nat} {d : DfaA} {s : Int} (hD : DAt ro q d) (hk : K (.bool (endsA d s)) ro own) : CallOk Tryz.prog 15 #[ptr' q, .int .i64 s] ro own K := by
  obtain ⟨an, cn, aa, ca, hs, hd⟩ := hD.rd
  have hA := hd.ldA
  have hra := hd.ra
  unfold endsA at hk
  refine CallOk.intro (args := [_, _]) (rs := [_]) T_ok Tryz.func15 Tryz.call15 rfl rfl (by kernel_rfl) rfl rfl ?_
  by_cases h0 : s < 0
  · rw [decide_eq_false (by omega)] at hk
    repeat (first | exact endA | refine wkP ?_ | refine opB (fun b => ?_) | refine opA (fun a' c' hc1 hc2 => ?_) | (apply GJ.and; exact rfl; intro hg) | (apply GJ.or; exact rfl; intro hg))
    exact Wk.id hk
  by_cases h1 : (d.acc.length : Int) ≤ s
  · rw [decide_eq_false (p := s < _) (by omega), Bool.and_false] at hk
    repeat (first | exact endA | refine wkP ?_ | refine opB (fun b => ?_) | refine opA (fun a' c' hc1 hc2 => ?_) | (apply GJ.and; exact rfl; intro hg) | (apply GJ.or; exact rfl; intro hg))
    exact Wk.id hk
  obtain ⟨n, rfl⟩ : ∃ n : Nat, s = (n : Int) := ⟨s.toNat, by omega⟩
  obtain ⟨z, hz⟩ : ∃ z, d.acc[n]? = some z := ⟨_, List.getElem?_eq_getElem (by omega)⟩
  rw [decide_eq_true (by omega), decide_eq_true (by omega), Int.toNat_natCast, hz] at hk
  have hgz : (d.acc.map Value.bool)[n]? = some (.bool z) := by rw [List.getElem?_map, hz]; rfl
  repeat (first | exact endA | refine wkP ?_ | refine opB (fun b => ?_) | refine opA (fun a' c' hc1 hc2 => ?_) | (apply GJ.and; exact rfl; intro hg) | (apply GJ.or; exact rfl; intro hg))
  exact Wk.val hk (by rw [Int.toNat_natCast, List.getElem!_eq_getElem?_getD, hz]; rfl)
theorem dmatch_ok {q w : Nat} {d : DfaA} {a : Option Addr} {n c : Nat} {tx : List UInt8} (hD : DAt ro q d) (ho : DfaOk w d) (hb : Rds ro own a n c 1 (tx.map u8)) (hn : tx.length = n) (hk : K (.bool (matchA d tx)) ro own) : CallOk Tryz.prog 11 #[ptr' q, .slice a n c] ro own K := by
  subst hn
  have hmx := hb.max
  have hle := hb.le
  unfold maxLen at hmx
  refine CallOk.intro (args := [_, _]) (rs := [_]) T_ok Tryz.func11 Tryz.call11 rfl rfl (by kernel_rfl) rfl rfl ?_
  repeat (first | exact endA | refine wkP ?_ | refine opB (fun b => ?_) | refine opA (fun a' c' hc1 hc2 => ?_) | (apply GJ.and; exact rfl; intro hg) | (apply GJ.or; exact rfl; intro hg))
  refine LoopOk.at (ι := Nat) Keep.auto (fun i => [(10, .int .i64 (i : Int)), (5, .int .i64 (runA d (tx.take i)))]) (fun i => own) (fun i => i ≤ tx.length) (fun i => tx.length - i) 0 ?_ Sub.auto Sup.auto ?_
  · exact Nat.zero_le _
  rintro i i1
  dsimp only [List.cons_append, List.nil_append] at i1 ⊢
  by_cases hi : i < tx.length
  · obtain ⟨z, hz⟩ : ∃ z, tx[i]? = some z := ⟨_, List.getElem?_eq_getElem hi⟩
    have hzb : tx[((i : Nat) : Int).toNat]! = z := by rw [Int.toNat_natCast, List.getElem!_eq_getElem?_getD, hz]; rfl
    have htk : tx.take (i + 1) = tx.take i ++ [z] := by rw [List.take_add_one, hz]; rfl
    have hr : stepA d (runA d (tx.take i)) z.toNat = runA d (tx.take (i + 1)) := by rw [htk]; unfold runA; rw [List.foldl_append]; rfl
    generalize runA d (tx.take i) = s at *
    generalize hs2 : runA d (tx.take (i + 1)) = s2 at *
    repeat (first | exact endA | refine wkP ?_ | refine opB (fun b => ?_) | refine opA (fun a' c' hc1 hc2 => ?_) | (apply GJ.and; exact rfl; intro hg) | (apply GJ.or; exact rfl; intro hg))
    rw [hzb]
    refine dstep_ok (c := z.toNat) hD ho (UInt8.toNat_lt z) ?_
    rw [hr]
    repeat (first | exact endA | refine wkP ?_ | refine opB (fun b => ?_) | refine opA (fun a' c' hc1 hc2 => ?_) | (apply GJ.and; exact rfl; intro hg) | (apply GJ.or; exact rfl; intro hg))
    subst hs2
    refine Wk.id ⟨i + 1, ⟨rfl, ?_⟩, ?_, Sub.auto, Sup.auto⟩
    all_goals try dsimp only
    · omega
    · omega
  · obtain rfl : i = tx.length := by omega
    rw [List.take_length] at *
    repeat (first | exact endA | refine wkP ?_ | refine opB (fun b => ?_) | refine opA (fun a' c' hc1 hc2 => ?_) | (apply GJ.and; exact rfl; intro hg) | (apply GJ.or; exact rfl; intro hg))
    refine dends_ok hD ?_
    repeat (first | exact endA | refine wkP ?_ | refine opB (fun b => ?_) | refine opA (fun a' c' hc1 hc2 => ?_) | (apply GJ.and; exact rfl; intro hg) | (apply GJ.or; exact rfl; intro hg))
    exact Wk.id hk
end
end Go.Proofs.YtinbmhbfcoiefaaGreatDoor
end
section
/- Contracts of dfa: key; maps that number lists. -/
namespace Go.Proofs.YtinbmhbfcoiefaaGreatDoor
open Go Go.E
set_option linter.unusedVariables false
set_option linter.unusedSimpArgs false
set_option maxRecDepth 10000
theorem key_byte (n : Nat) : (Value.int .u8 ((n % 256 : Nat) : Int)) = u8 (UInt8.ofNat n) := by unfold u8; rw [UInt8.toNat_ofNat']
section
variable {ro : Ro} {own r : Chs} {K : Value → Ro → Chs → Prop} {g : Chunk → Chs}
theorem key_ok {a : Option Addr} {n c : Nat} {l : List Int} (hr : Rds ro own a n c 1 (l.map (Value.int .i64))) (hl : l.length = n) (hn : n ≤ 1000000) (ha : AdmK l) (hk : K (str (keyT l)) ro own) : CallOk Tryz.prog 51 #[.slice a n c] ro own K := by
  subst hl
  have hm := hr.max
  have hle := hr.le
  unfold maxLen at hm
  refine CallOk.intro (args := [_]) (rs := [_]) T_ok Tryz.func51 Tryz.call51 rfl rfl (by kernel_rfl) rfl rfl ?_
  repeat (first | exact endA | refine wkP ?_ | refine opB (fun b => ?_) | refine opA (fun a' c' hc1 hc2 => ?_) | (apply GJ.and; exact rfl; intro hg) | (apply GJ.or; exact rfl; intro hg))
  refine LoopOk.at (ι := Nat × Option Addr × Nat) Keep.auto (fun (i, ab, cb) => [(12, .int .i64 (i : Int)), (3, .slice ab (2 * i) cb)]) (fun (i, ab, cb) => .sl ab (2 * i) cb 5 1 ((keyT (l.take i)).map u8) :: own) (fun (i, ab, cb) => i ≤ l.length ∧ 2 * i ≤ cb ∧ cb ≤ maxLen) (fun (i, ab, cb) => l.length - i) (0, some ⟨b, 0, none⟩, 2 * l.length) ?_ Sub.auto Sup.auto ?_
  · exact ⟨Nat.zero_le _, Nat.zero_le _, by unfold maxLen; omega⟩
  rintro ⟨i, ab, cb⟩ ⟨i1, i2, i3⟩
  dsimp only [List.cons_append, List.nil_append] at i1 i2 i3 ⊢
  by_cases hi : i < l.length
  · obtain ⟨z, hz⟩ : ∃ z, l[i]? = some z := ⟨_, List.getElem?_eq_getElem hi⟩
    have hzb : l[((i : Nat) : Int).toNat]! = z := by rw [Int.toNat_natCast, List.getElem!_eq_getElem?_getD, hz]; rfl
    have hza := ha z (List.mem_of_getElem? hz)
    have htk : l.take (i + 1) = l.take i ++ [z] := by rw [List.take_add_one, hz]; rfl
    have hkl : (keyT (l.take i)).length = 2 * i := by rw [keyT_len, List.length_take]; omega
    repeat (first | exact endA | refine wkP ?_ | refine opB (fun b => ?_) | refine opA (fun a' c' hc1 hc2 => ?_) | (apply GJ.and; exact rfl; intro hg) | (apply GJ.or; exact rfl; intro hg))
    have hap : ((keyT (l.take i)).map u8) ++ [.int .u8 (l[(i : Int).toNat]! / 2 ^ Int.toNat 8 % 256), .int .u8 (l[(i : Int).toNat]! % 256)] = (keyT (l.take (i + 1))).map u8 := by
      obtain ⟨z, rfl⟩ : ∃ k : Nat, z = (k : Int) := ⟨z.toNat, by omega⟩
      rw [htk, keyT_snoc, List.map_append, hzb]
      have e1 : Value.int .u8 ((z : Int) / 2 ^ Int.toNat 8 % 256) = u8 (UInt8.ofNat ((z : Int).toNat / 256)) := by rw [← key_byte]; rfl
      have e2 : Value.int .u8 ((z : Int) % 256) = u8 (UInt8.ofNat (z : Int).toNat) := by rw [← key_byte]; rfl
      rw [e1, e2]; rfl
    rw [hap, show 2 * i + 2 = 2 * (i + 1) by omega]
    rw [show 2 * i + 2 = 2 * (i + 1) by omega] at hc1
    repeat (first | exact endA | refine wkP ?_ | refine opB (fun b => ?_) | refine opA (fun a' c' hc1 hc2 => ?_) | (apply GJ.and; exact rfl; intro hg) | (apply GJ.or; exact rfl; intro hg))
    refine Wk.id ⟨(i + 1, a', c'), ⟨rfl, ?_⟩, ?_, Sub.auto, Sup.auto⟩
    all_goals try dsimp only
    · exact ⟨by omega, hc1, hc2⟩
    · omega
  · obtain rfl : i = l.length := by omega
    rw [List.take_length] at *
    have hkl := keyT_len l
    repeat (first | exact endA | refine wkP ?_ | refine opB (fun b => ?_) | refine opA (fun a' c' hc1 hc2 => ?_) | (apply GJ.and; exact rfl; intro hg) | (apply GJ.or; exact rfl; intro hg))
    exact Wk.outS Sup.auto (.refl _) hk
end
end Go.Proofs.YtinbmhbfcoiefaaGreatDoor
end
section
/- Contracts of dfa: alive. -/
namespace Go.Proofs.YtinbmhbfcoiefaaGreatDoor
open Go Go.E
set_option linter.unusedVariables false
set_option linter.unusedSimpArgs false
set_option maxRecDepth 10000
structure AlvI (d : DfaA) (m0 m : List Bool) (ch : Bool) (P : Nat → Int → Prop) : Prop where
  len : m.length = d.next.length
  acc : ∀ i, getB d.acc i = true → getB m i = true
  live : ∀ i, getB m i = true → getB (liveA d) i = true
  same : ch = false → m = m0
  less : ch = true → m.count false < m0.count false
  cl : ch = false → ∀ s z, P s z → 0 ≤ z → getB m z.toNat = true → getB m s = true
theorem getB_some {m : List Bool} {i : Nat} {q : Bool} (h : m[i]? = some q) : getB m i = q := by unfold getB; rw [h]; rfl
theorem getB_set {m : List Bool} {i j : Nat} (hi : i < m.length) : getB (m.set i true) j = if j = i then true else getB m j := by
  unfold getB
  by_cases e : j = i
  · subst e; rw [List.getElem?_set_self hi, if_pos rfl]; rfl
  · rw [List.getElem?_set_ne (fun h => e h.symm), if_neg e]
theorem AlvI.skip {d : DfaA} {m0 m : List Bool} {ch : Bool} {P Q : Nat → Int → Prop} (h : AlvI d m0 m ch P) (hq : ch = false → ∀ s z, Q s z → P s z ∨ (0 ≤ z → getB m z.toNat = true → getB m s = true)) : AlvI d m0 m ch Q :=
  ⟨h.len, h.acc, h.live, h.same, h.less, fun hc s z hs h0 hz => (hq hc s z hs).elim (fun h1 => h.cl hc s z h1 h0 hz) (fun h1 => h1 h0 hz)⟩
theorem AlvI.put {w : Nat} {d : DfaA} {m0 m : List Bool} {ch : Bool} {P Q : Nat → Int → Prop} {i : Nat} {z : Int} (ho : DfaOk w d) (h : AlvI d m0 m ch P) (hz : z ∈ d.next[i]?.getD []) (h0 : 0 ≤ z) (hmz : getB m z.toNat = true) (hi : m[i]? = some false) : AlvI d m0 (m.set i true) true Q := by
  have hil := (List.getElem?_eq_some_iff.1 hi).1
  refine ⟨by rw [List.length_set, h.len], fun j hj => ?_, fun j hj => ?_, (fun e => by cases e), fun _ => ?_, (fun e => by cases e)⟩
  · rw [getB_set hil]
    split
    · rfl
    · exact h.acc j hj
  · rw [getB_set hil] at hj
    by_cases e : j = i
    · subst e
      exact liveA_closed ho j z hz h0 (h.live _ hmz)
    · rw [if_neg e] at hj; exact h.live j hj
  · have := count_set m i hi
    cases ch with
    | true => have := h.less rfl; omega
    | false => have := h.same rfl; subst this; omega
section
variable {ro : Ro} {own r : Chs} {K : Value → Ro → Chs → Prop} {g : Chunk → Chs}
theorem cloneB_ok {a : Option Addr} {n c : Nat} {cs : List Value} (hr : Rs ro a n c 1 cs) (h1 : ∀ u ∈ cs, u.oneCell' = true) (hn : n ≤ 100000000) (hk : ∀ a' c', n ≤ c' → c' ≤ maxLen → K (.slice a' n c') ro (.sl a' n c' 4 1 cs :: own)) :
    CallOk Tryz.prog 79 #[.slice a n c] ro own K := by
  have hln := hr.len
  have hle := hr.le
  refine CallOk.given (fun hsat => ?_)
  refine CallOk.intro (args := [_]) (rs := [_]) T_ok Tryz.func79 Tryz.call79 rfl rfl (by kernel_rfl) rfl rfl ?_
  repeat (first | exact endA | refine wkG ?_ | refine opB (fun b => ?_) | refine opA (fun a' c' hc1 hc2 => ?_) | (show GJ _ _ _ _ _ _ _; first | (apply GJ.and; exact rfl; intro hg) | (apply GJ.or; exact rfl; intro hg) | refine GJ.t omAuto ?_ | refine GJ.f omAuto ?_ | refine GJ.ft omAuto ?_ | refine GJ.ff omAuto ?_))
  refine Br.cases (fun hc => ?_) (fun hc => ?_)
  · subst hc
    have hn0 := hr.nilN hsat
    subst hn0
    obtain rfl : cs = [] := List.eq_nil_of_length_eq_zero (by omega)
    repeat (first | exact endA | refine wkG ?_ | refine opB (fun b => ?_) | refine opA (fun a' c' hc1 hc2 => ?_) | (show GJ _ _ _ _ _ _ _; first | (apply GJ.and; exact rfl; intro hg) | (apply GJ.or; exact rfl; intro hg) | refine GJ.t omAuto ?_ | refine GJ.f omAuto ?_ | refine GJ.ft omAuto ?_ | refine GJ.ff omAuto ?_))
    exact Wk.outS (Sup.nilc (Sup.all _)) (.refl _) (hk none 0 (Nat.le_refl _) (Nat.zero_le _))
  · repeat (first | exact endA | refine wkG ?_ | refine opB (fun b => ?_) | refine opA (fun a' c' hc1 hc2 => ?_) | (show GJ _ _ _ _ _ _ _; first | (apply GJ.and; exact rfl; intro hg) | (apply GJ.or; exact rfl; intro hg) | refine GJ.t omAuto ?_ | refine GJ.f omAuto ?_ | refine GJ.ft omAuto ?_ | refine GJ.ff omAuto ?_))
    exact Wk.id (hk _ _ (by omega) (by omega))
set_option maxHeartbeats 4000000 in
theorem dalive_ok {q w : Nat} {d : DfaA} (hD : DAt ro q d) (ho : DfaOk w d) (hn : d.next.length ≤ 4096)
    (hk : ∀ a c, d.next.length ≤ c → c ≤ maxLen → K (.slice a d.next.length c) ro (.sl a d.next.length c 4 1 (boolsV (liveA d)) :: own)) : CallOk Tryz.prog 57 #[ptr' q] ro own K := by
  obtain ⟨an, cn, aa, ca, hs, hd⟩ := hD.rd
  have hN := hd.ldN
  have hA := hd.ldA
  have hrs := hd.rs
  have hal := ho.acc
  have hcm := hrs.max
  have hcl := hrs.le
  unfold maxLen at hcm
  refine CallOk.intro (args := [_]) (rs := [_]) T_ok Tryz.func57 Tryz.call57 rfl rfl (by kernel_rfl) rfl rfl ?_
  repeat (first | exact endA | refine wkP ?_ | refine opB (fun b => ?_) | refine opA (fun a' c' hc1 hc2 => ?_) | (apply GJ.and; exact rfl; intro hg) | (apply GJ.or; exact rfl; intro hg))
  refine cloneB_ok hd.ra (fun u hu => by obtain ⟨b, _, rfl⟩ := List.mem_map.1 hu; rfl) (by omega) (fun ao co h1 h2 => ?_)
  rw [hal] at h1 ⊢
  repeat (first | exact endA | refine wkP ?_ | refine opB (fun b => ?_) | refine opA (fun a' c' hc1 hc2 => ?_) | (apply GJ.and; exact rfl; intro hg) | (apply GJ.or; exact rfl; intro hg))
  refine LoopOk.at (ι := List Bool × Bool) Keep.auto (fun (m, ch) => [(4, .bool ch)]) (fun (m, ch) => .sl ao d.next.length co 4 1 (boolsV m) :: own) (fun (m, ch) => m.length = d.next.length ∧ (∀ i, getB d.acc i = true → getB m i = true) ∧ (∀ i, getB m i = true → getB (liveA d) i = true) ∧ (ch = false → ClosedA d m)) (fun (m, ch) => 2 * m.count false + (if ch then 1 else 0)) (d.acc, true) ?_ Sub.auto Sup.auto ?_
  · exact ⟨hal, fun _ h => h, liveA_acc ho, (fun e => by cases e)⟩
  rintro ⟨m, ch⟩ ⟨j1, j2, j3, j4⟩
  dsimp only [List.cons_append, List.nil_append] at j1 j2 j3 j4 ⊢
  cases ch with
  | false =>
    have hfin := alive_fin ho j1 j2 j3 (j4 rfl)
    subst hfin
    repeat (first | exact endA | refine wkP ?_ | refine opB (fun b => ?_) | refine opA (fun a' c' hc1 hc2 => ?_) | (apply GJ.and; exact rfl; intro hg) | (apply GJ.or; exact rfl; intro hg))
    exact Wk.id (hk _ _ h1 h2)
  | true =>
    repeat (first | exact endA | refine wkP ?_ | refine opB (fun b => ?_) | refine opA (fun a' c' hc1 hc2 => ?_) | (apply GJ.and; exact rfl; intro hg) | (apply GJ.or; exact rfl; intro hg))
    refine LoopOk.at (ι := Nat × List Bool × Bool) Keep.auto (fun (i, m', ch) => [(20, .int .i64 (i : Int)), (4, .bool ch)]) (fun (i, m', ch) => .sl ao d.next.length co 4 1 (boolsV m') :: own) (fun (i, m', ch) => i ≤ d.next.length ∧ AlvI d m m' ch (fun s z => s < i ∧ z ∈ d.next[s]?.getD [])) (fun (i, m', ch) => d.next.length - i) (0, m, false) ?_ Sub.auto Sup.auto ?_
    · exact ⟨Nat.zero_le _, j1, j2, j3, fun _ => rfl, fun e => (by cases e), fun _ s z h => absurd h.1 (Nat.not_lt_zero _)⟩
    rintro ⟨i, m', ch⟩ ⟨i1, i2⟩
    dsimp only [List.cons_append, List.nil_append] at i1 i2 ⊢
    by_cases hi : i < d.next.length
    · obtain ⟨row, hrow⟩ : ∃ row, d.next[i]? = some row := ⟨_, List.getElem?_eq_getElem hi⟩
      obtain ⟨ar, cr, q1, q2⟩ := hd.rows i row hrow
      have hrm := q2.max
      have hrl := q2.le
      unfold maxLen at hrm
      repeat (first | exact endA | refine wkP ?_ | refine opB (fun b => ?_) | refine opA (fun a' c' hc1 hc2 => ?_) | (apply GJ.and; exact rfl; intro hg) | (apply GJ.or; exact rfl; intro hg))
      refine OpOk.load rfl rfl (Go.E.Ld.rs hrs (by rw [Int.toNat_natCast]; exact q1)) ?_
      repeat (first | exact endA | refine wkP ?_ | refine opB (fun b => ?_) | refine opA (fun a' c' hc1 hc2 => ?_) | (apply GJ.and; exact rfl; intro hg) | (apply GJ.or; exact rfl; intro hg))
      refine LoopOk.at (ι := Nat × List Bool × Bool) Keep.auto (fun (j, m', ch) => [(27, .int .i64 (j : Int)), (4, .bool ch)]) (fun (j, m', ch) => .sl ao d.next.length co 4 1 (boolsV m') :: own) (fun (j, m', ch) => j ≤ row.length ∧ AlvI d m m' ch (fun s z => (s < i ∧ z ∈ d.next[s]?.getD []) ∨ (s = i ∧ z ∈ row.take j))) (fun (j, m', ch) => row.length - j) (0, m', ch) ?_ Sub.auto Sup.auto ?_
      · exact ⟨Nat.zero_le _, i2.skip fun _ s z h => .inl (h.elim id fun h => by simp at h)⟩
      clear i2
      rintro ⟨j, m', ch⟩ ⟨k1, k2⟩
      dsimp only [List.cons_append, List.nil_append] at k1 k2 ⊢
      by_cases hj : j < row.length
      · obtain ⟨z, hz⟩ : ∃ z, row[j]? = some z := ⟨_, List.getElem?_eq_getElem hj⟩
        have hzr : row[((j : Nat) : Int).toNat]! = z := by rw [Int.toNat_natCast, List.getElem!_eq_getElem?_getD, hz]; rfl
        have hzto := ho.to row (List.mem_of_getElem? hrow) z (List.mem_of_getElem? hz)
        have htk : row.take (j + 1) = row.take j ++ [z] := by rw [List.take_add_one, hz]; rfl
        obtain ⟨p, hp⟩ : ∃ p, m'[i]? = some p := ⟨_, List.getElem?_eq_getElem (by rw [k2.len]; exact hi)⟩
        have hgp : (boolsV m')[i]? = some (.bool p) := by simp [boolsV, hp]
        have hnx : (0 ≤ z → getB m' z.toNat = true → getB m' i = true) → AlvI d m m' ch (fun s y => (s < i ∧ y ∈ d.next[s]?.getD []) ∨ (s = i ∧ y ∈ row.take (j + 1))) := fun hh => k2.skip fun _ s y h => by
          rcases h with h | ⟨h, h2⟩
          · exact .inl (.inl h)
          · rw [htk, List.mem_append, List.mem_singleton] at h2
            rcases h2 with h2 | rfl
            · exact .inl (.inr ⟨h, h2⟩)
            · subst h; exact .inr hh
        cases p with
        | true =>
          repeat (first | exact endA | refine wkP ?_ | refine opB (fun b => ?_) | refine opA (fun a' c' hc1 hc2 => ?_) | (apply GJ.and; exact rfl; intro hg) | (apply GJ.or; exact rfl; intro hg))
          refine OpOk.load rfl rfl (Ld.slAt' (k := i) (by rw [Int.toNat_natCast]) hgp) ?_
          repeat (first | exact endA | refine wkP ?_ | refine opB (fun b => ?_) | refine opA (fun a' c' hc1 hc2 => ?_) | (apply GJ.and; exact rfl; intro hg) | (apply GJ.or; exact rfl; intro hg))
          repeat (first | exact endA | refine wkP ?_ | refine opB (fun b => ?_) | refine opA (fun a' c' hc1 hc2 => ?_) | (apply GJ.and; exact rfl; intro hg) | (apply GJ.or; exact rfl; intro hg))
          refine Wk.id ⟨(j + 1, m', ch), ⟨rfl, ?_⟩, ?_, Sub.auto, Sup.auto⟩
          all_goals try dsimp only
          · exact ⟨by omega, hnx (fun _ _ => getB_some hp)⟩
          · omega
        | false =>
          by_cases hz0 : z < 0
          · repeat (first | exact endA | refine wkP ?_ | refine opB (fun b => ?_) | refine opA (fun a' c' hc1 hc2 => ?_) | (apply GJ.and; exact rfl; intro hg) | (apply GJ.or; exact rfl; intro hg))
            refine OpOk.load rfl rfl (Ld.slAt' (k := i) (by rw [Int.toNat_natCast]) hgp) ?_
            repeat (first | exact endA | refine wkP ?_ | refine opB (fun b => ?_) | refine opA (fun a' c' hc1 hc2 => ?_) | (apply GJ.and; exact rfl; intro hg) | (apply GJ.or; exact rfl; intro hg))
            repeat (first | exact endA | refine wkP ?_ | refine opB (fun b => ?_) | refine opA (fun a' c' hc1 hc2 => ?_) | (apply GJ.and; exact rfl; intro hg) | (apply GJ.or; exact rfl; intro hg))
            refine Wk.id ⟨(j + 1, m', ch), ⟨rfl, ?_⟩, ?_, Sub.auto, Sup.auto⟩
            all_goals try dsimp only
            · exact ⟨by omega, hnx (fun h => by omega)⟩
            · omega
          obtain ⟨u, rfl⟩ : ∃ u : Nat, z = (u : Int) := ⟨z.toNat, by omega⟩
          obtain ⟨p2, hp2⟩ : ∃ p, m'[u]? = some p := ⟨_, List.getElem?_eq_getElem (by rw [k2.len]; omega)⟩
          have hgp2 : (boolsV m')[u]? = some (.bool p2) := by simp [boolsV, hp2]
          have hlm := (boolsV_len m').trans k2.len
          cases p2 with
          | false =>
            repeat (first | exact endA | refine wkP ?_ | refine opB (fun b => ?_) | refine opA (fun a' c' hc1 hc2 => ?_) | (apply GJ.and; exact rfl; intro hg) | (apply GJ.or; exact rfl; intro hg))
            refine OpOk.load rfl rfl (Ld.slAt' (k := i) (by rw [Int.toNat_natCast]) hgp) ?_
            repeat (first | exact endA | refine wkP ?_ | refine opB (fun b => ?_) | refine opA (fun a' c' hc1 hc2 => ?_) | (apply GJ.and; exact rfl; intro hg) | (apply GJ.or; exact rfl; intro hg))
            refine OpOk.load rfl rfl (Ld.slAt' (k := u) (by rw [hzr]; rfl) hgp2) ?_
            repeat (first | exact endA | refine wkP ?_ | refine opB (fun b => ?_) | refine opA (fun a' c' hc1 hc2 => ?_) | (apply GJ.and; exact rfl; intro hg) | (apply GJ.or; exact rfl; intro hg))
            repeat (first | exact endA | refine wkP ?_ | refine opB (fun b => ?_) | refine opA (fun a' c' hc1 hc2 => ?_) | (apply GJ.and; exact rfl; intro hg) | (apply GJ.or; exact rfl; intro hg))
            refine Wk.id ⟨(j + 1, m', ch), ⟨rfl, ?_⟩, ?_, Sub.auto, Sup.auto⟩
            all_goals try dsimp only
            · exact ⟨by omega, hnx (fun _ h => by rw [Int.toNat_natCast, getB_some hp2] at h; cases h)⟩
            · omega
          | true =>
            have hpu := k2.put (Q := fun s y => (s < i ∧ y ∈ d.next[s]?.getD []) ∨ (s = i ∧ y ∈ row.take (j + 1))) ho (i := i) (z := (u : Int)) (by rw [hrow]; exact List.mem_of_getElem? hz) (by omega) (by rw [Int.toNat_natCast]; exact getB_some hp2) hp
            repeat (first | exact endA | refine wkP ?_ | refine opB (fun b => ?_) | refine opA (fun a' c' hc1 hc2 => ?_) | (apply GJ.and; exact rfl; intro hg) | (apply GJ.or; exact rfl; intro hg))
            refine OpOk.load rfl rfl (Ld.slAt' (k := i) (by rw [Int.toNat_natCast]) hgp) ?_
            repeat (first | exact endA | refine wkP ?_ | refine opB (fun b => ?_) | refine opA (fun a' c' hc1 hc2 => ?_) | (apply GJ.and; exact rfl; intro hg) | (apply GJ.or; exact rfl; intro hg))
            refine OpOk.load rfl rfl (Ld.slAt' (k := u) (by rw [hzr]; rfl) hgp2) ?_
            repeat (first | exact endA | refine wkP ?_ | refine opB (fun b => ?_) | refine opA (fun a' c' hc1 hc2 => ?_) | (apply GJ.and; exact rfl; intro hg) | (apply GJ.or; exact rfl; intro hg))
            refine OpOk.storeSlAt' (k := i) rfl rfl rfl rfl (by rw [Int.toNat_natCast]) (by rw [hlm]; exact hi) ?_
            rw [boolsV_set]
            repeat (first | exact endA | refine wkP ?_ | refine opB (fun b => ?_) | refine opA (fun a' c' hc1 hc2 => ?_) | (apply GJ.and; exact rfl; intro hg) | (apply GJ.or; exact rfl; intro hg))
            repeat (first | exact endA | refine wkP ?_ | refine opB (fun b => ?_) | refine opA (fun a' c' hc1 hc2 => ?_) | (apply GJ.and; exact rfl; intro hg) | (apply GJ.or; exact rfl; intro hg))
            refine Wk.id ⟨(j + 1, m'.set i true, true), ⟨rfl, ?_⟩, ?_, Sub.auto, Sup.auto⟩
            all_goals try dsimp only
            · exact ⟨by omega, hpu⟩
            · omega
      · obtain rfl : j = row.length := by omega
        rw [List.take_length] at k2
        repeat (first | exact endA | refine wkP ?_ | refine opB (fun b => ?_) | refine opA (fun a' c' hc1 hc2 => ?_) | (apply GJ.and; exact rfl; intro hg) | (apply GJ.or; exact rfl; intro hg))
        repeat (first | exact endA | refine wkP ?_ | refine opB (fun b => ?_) | refine opA (fun a' c' hc1 hc2 => ?_) | (apply GJ.and; exact rfl; intro hg) | (apply GJ.or; exact rfl; intro hg))
        refine Wk.id ⟨(i + 1, m', ch), ⟨rfl, ?_⟩, ?_, Sub.auto, Sup.auto⟩
        all_goals try dsimp only
        · refine ⟨by omega, k2.skip fun _ s y h => .inl ?_⟩
          by_cases e : s = i
          · subst e
            have h2 := h.2
            rw [hrow] at h2
            exact .inr ⟨rfl, h2⟩
          · exact .inl ⟨by omega, h.2⟩
        · omega
    · obtain rfl : i = d.next.length := by omega
      repeat (first | exact endA | refine wkP ?_ | refine opB (fun b => ?_) | refine opA (fun a' c' hc1 hc2 => ?_) | (apply GJ.and; exact rfl; intro hg) | (apply GJ.or; exact rfl; intro hg))
      repeat (first | exact endA | refine wkP ?_ | refine opB (fun b => ?_) | refine opA (fun a' c' hc1 hc2 => ?_) | (apply GJ.and; exact rfl; intro hg) | (apply GJ.or; exact rfl; intro hg))
      refine Wk.id ⟨(m', ch), ⟨rfl, ?_⟩, ?_, Sub.auto, Sup.auto⟩
      all_goals try dsimp only
      · refine ⟨i2.len, i2.acc, i2.live, fun hc s z hz h0 hm => i2.cl hc s z ⟨next_lt hz, hz⟩ h0 hm⟩
      · cases ch with
        | true => have := i2.less rfl; simp only [if_true]; omega
        | false => have := i2.same rfl; subst this; simp
end
end Go.Proofs.YtinbmhbfcoiefaaGreatDoor
end
section
/- Contracts of dfa: groups. -/
namespace Go.Proofs.YtinbmhbfcoiefaaGreatDoor
open Go Go.E
set_option linter.unusedVariables false
set_option linter.unusedSimpArgs false
set_option maxRecDepth 10000
def nV (k : Nat) : Value := .int .i64 (k : Int)
def intV (l : List Int) : List Value := l.map (Value.int .i64)
theorem intV_len (l : List Int) : (intV l).length = l.length := by simp [intV]
theorem intV_set (l : List Int) (k : Nat) (z : Int) : (intV l).set k (.int .i64 z) = intV (l.set k z) := by simp [intV, List.map_set]
theorem intV_zero (n : Nat) : List.replicate n (Value.int .i64 0) = intV (List.replicate n 0) := by simp [intV]
theorem fill_set {α : Type} {L : List α} {n i : Nat} {v z : α} (hL : L.length = n) (hv : L[i]? = some v) : (L.take i ++ List.replicate (n - i) z).set i v = L.take (i + 1) ++ List.replicate (n - (i + 1)) z := by
  have hi := (List.getElem?_eq_some_iff.1 hv).1
  have hl : (L.take i).length = i := by simp; omega
  rw [List.set_append_right _ _ (by omega), hl, Nat.sub_self, show n - i = (n - (i + 1)) + 1 by omega, List.replicate_succ, List.set_cons_zero, List.take_add_one, hv]
  simp
theorem fill_same {α : Type} {L : List α} {n i : Nat} {z : α} (hL : L.length = n) (hv : L[i]? = some z) : L.take i ++ List.replicate (n - i) z = L.take (i + 1) ++ List.replicate (n - (i + 1)) z := by
  have hi := (List.getElem?_eq_some_iff.1 hv).1
  rw [show n - i = (n - (i + 1)) + 1 by omega, List.replicate_succ, List.take_add_one, hv]
  simp
theorem fill_len {α : Type} {L : List α} {n i : Nat} {z : α} (hL : L.length = n) (hi : i ≤ n) : (L.take i ++ List.replicate (n - i) z).length = n := by simp; omega
theorem snoc_set {α : Type} {out : List α} {i n : Nat} {v z : α} (hl : out.length = i) (hi : i < n) : (out ++ List.replicate (n - i) z).set i v = (out ++ [v]) ++ List.replicate (n - (i + 1)) z := by
  rw [List.set_append_right _ _ (by omega), hl, Nat.sub_self, show n - i = (n - (i + 1)) + 1 by omega, List.replicate_succ, List.set_cons_zero]
  simp
theorem full_le {d : DfaA} {m : Nat} {g : List Int} (hl : g.length = d.next.length) (hm : FullG d m g) : m ≤ d.next.length := by
  have h1 : ∀ x ∈ (List.range m).map (fun k : Nat => (k : Int)), x ∈ g := fun x hx => by
    obtain ⟨k, hk, rfl⟩ := List.mem_map.1 hx
    obtain ⟨s, h1, _, h2⟩ := hm.all k (List.mem_range.1 hk)
    unfold getI' at h2
    rw [List.getElem?_eq_getElem (by rw [hl]; exact h1), Option.getD_some] at h2
    exact h2 ▸ List.getElem_mem _
  have h3 : ((List.range m).map (fun k : Nat => (k : Int))).Nodup := List.pairwise_map.2 (List.nodup_range.imp fun {x y} h e => h (by omega))
  have := nodup_le h3 h1
  rw [List.length_map, List.length_range, hl] at this; exact this
theorem bang {α : Type} [Inhabited α] {l : List α} {i : Nat} {x : α} (h : l[i]? = some x) : l[((i : Nat) : Int).toNat]! = x := by
  rw [Int.toNat_natCast, List.getElem!_eq_getElem?_getD, h]; rfl
/-- What holds ahead of each round. -/
structure GrpI (d : DfaA) (f m : Nat) (g : List Int) : Prop where
  ok : GrpOk d g
  full : m = 0 ∨ FullG d m g
  fuel : d.next.length < f + m
  fin : grpL d f m g = grpA d
  hi : ∀ s, s < d.next.length → getI' g s ≤ 4096
theorem GrpI.start {w : Nat} {d : DfaA} (h : DfaOk w d) (hs : SurA w d) : GrpI d (d.next.length + 1) 0 (grp0 d) := by
  refine ⟨grp0_ok h hs, .inl rfl, by omega, rfl, fun s hs1 => ?_⟩
  unfold getI' grp0
  rw [List.getElem?_map, List.getElem?_range hs1]
  show (if _ then (if _ then (1 : Int) else 0) else -1) ≤ 4096
  split
  · split <;> omega
  · omega
theorem GrpI.pos {d : DfaA} {f m : Nat} {g : List Int} (h : GrpI d f m g) : ∃ k, f = k + 1 := by
  have hm : m ≤ d.next.length := h.full.elim (fun e => by omega) (full_le h.ok.len)
  have := h.fuel
  exact ⟨f - 1, by omega⟩
theorem GrpI.done {d : DfaA} {f m : Nat} {g : List Int} (h : GrpI d (f + 1) m g) (he : (refA d g d.next.length 0 [] []).1.length = m) : (refA d g d.next.length 0 [] []).2 = grpA d := by
  have := h.fin
  rwa [grpL, if_pos he] at this
theorem GrpI.next {w : Nat} {d : DfaA} {f m : Nat} {g : List Int} (ho : DfaOk w d) (hs : SurA w d) (hn4 : d.next.length ≤ 4096) (h : GrpI d (f + 1) m g) (he : ¬ (refA d g d.next.length 0 [] []).1.length = m) : GrpI d f (refA d g d.next.length 0 [] []).1.length (refA d g d.next.length 0 [] []).2 := by
  have hf := h.fin
  rw [grpL, if_neg he] at hf
  have hn := ref_all d g
  generalize refA d g d.next.length 0 [] [] = r at *
  obtain ⟨o1, o2, o3⟩ := h.ok.ref ho hs hn
  have hfu := h.fuel
  have hle := full_le o1.len o2
  refine ⟨o1, .inr o2, ?_, hf, fun s hs1 => by have := o2.lt s hs1; omega⟩
  rcases h.full with hm | hm
  · omega
  · have := (stable_round h.ok hm hn).1; omega
theorem getI_some {g : List Int} {s : Nat} {z : Int} (h : g[s]? = some z) : getI' g s = z := by unfold getI'; rw [h]; rfl
theorem keyA_adm {w : Nat} {d : DfaA} {f m : Nat} {g : List Int} (ho : DfaOk w d) (h : GrpI d f m g) {i : Nat} (hi : i < d.next.length) : AdmK (keyA d g i) ∧ (keyA d g i).length = w + 1 := by
  have hr := List.getElem?_eq_getElem hi
  have hat : ∀ z : Int, (z = -1 ∨ (0 ≤ z ∧ z < d.next.length)) → -1 ≤ grpAt g z ∧ grpAt g z ≤ 4096 := fun z hz => by
    unfold grpAt
    split
    · exact ⟨h.ok.low _ (by omega), h.hi _ (by omega)⟩
    · omega
  refine ⟨fun z hz => ?_, ?_⟩
  · unfold keyA at hz
    rw [hr, Option.getD_some] at hz
    rcases List.mem_cons.1 hz with rfl | hz
    · have := h.ok.low i hi; have := h.hi i hi; omega
    · obtain ⟨y, hy, rfl⟩ := List.mem_map.1 hz
      have := hat y (ho.to _ (List.getElem_mem hi) y hy)
      omega
  · unfold keyA
    rw [hr, Option.getD_some, List.length_cons, List.length_map, ho.row _ (List.getElem_mem hi)]
section
variable {ro : Ro} {own r : Chs} {K : Value → Ro → Chs → Prop} {g : Chunk → Chs}
set_option maxHeartbeats 8000000 in
theorem dgroups_ok {q w : Nat} {d : DfaA} (hD : DAt ro q d) (ho : DfaOk w d) (hs : SurA w d) (hn : d.next.length ≤ 4096) (hw : w ≤ 256)
    (hk : ∀ a c, d.next.length ≤ c → c ≤ maxLen → K (.slice a d.next.length c) ro (.sl a d.next.length c 3 1 (intV (grpA d)) :: own)) : CallOk Tryz.prog 32 #[ptr' q] ro own K := by
  obtain ⟨an, cn, aa, ca, hsv, hd⟩ := hD.rd
  have hN := hd.ldN
  have hA := hd.ldA
  have hrs := hd.rs
  have hra := hd.ra
  have hal := ho.acc
  have hll := liveA_len ho
  have hg0 : (grp0 d).length = d.next.length := by simp [grp0]
  have hcm := hrs.max
  have hcl := hrs.le
  unfold maxLen at hcm
  refine CallOk.intro (args := [_]) (rs := [_]) T_ok Tryz.func32 Tryz.call32 rfl rfl (by kernel_rfl) rfl rfl ?_
  repeat (first | exact endA | refine wkP ?_ | refine opB (fun b => ?_) | refine opA (fun a' c' hc1 hc2 => ?_) | (apply GJ.and; exact rfl; intro hg) | (apply GJ.or; exact rfl; intro hg))
  refine dalive_ok hD ho hn (fun al cl l1 l2 => ?_)
  repeat (first | exact endA | refine wkP ?_ | refine opB (fun b => ?_) | refine opA (fun a' c' hc1 hc2 => ?_) | (apply GJ.and; exact rfl; intro hg) | (apply GJ.or; exact rfl; intro hg))
  refine dlen_ok hD ?_
  repeat (first | exact endA | refine wkP ?_ | refine opB (fun b => ?_) | refine opA (fun a' c' hc1 hc2 => ?_) | (apply GJ.and; exact rfl; intro hg) | (apply GJ.or; exact rfl; intro hg))
  rw [Int.toNat_natCast, intV_zero]
  refine LoopOk.at (ι := Nat) Keep.auto (fun i => [(23, .int .i64 (i : Int))]) (fun i => .sl (some ⟨b, 0, none⟩) d.next.length d.next.length 3 1 (intV ((grp0 d).take i ++ List.replicate (d.next.length - i) 0)) :: .sl al d.next.length cl 4 1 (boolsV (liveA d)) :: own) (fun i => i ≤ d.next.length) (fun i => d.next.length - i) 0 ?_ Sub.auto Sup.auto ?_
  · exact Nat.zero_le _
  rintro i i1
  dsimp only [List.cons_append, List.nil_append] at i1 ⊢
  have hfl := fill_len (z := (0 : Int)) hg0 i1
  have hfv := intV_len ((grp0 d).take i ++ List.replicate (d.next.length - i) 0)
  by_cases hi : i < d.next.length
  · obtain ⟨p, hp⟩ : ∃ p, (liveA d)[i]? = some p := ⟨_, List.getElem?_eq_getElem (by omega)⟩
    obtain ⟨e, he⟩ : ∃ p, d.acc[i]? = some p := ⟨_, List.getElem?_eq_getElem (by omega)⟩
    have hgp : (boolsV (liveA d))[i]? = some (.bool p) := by simp [boolsV, hp]
    have hge : (d.acc.map Value.bool)[i]? = some (.bool e) := by simp [he]
    have hgv : (grp0 d)[i]? = some (if p then (if e then 1 else 0) else -1) := by
      unfold grp0
      rw [List.getElem?_map, List.getElem?_range hi, Option.map_some, getB_some hp, getB_some he]
    cases p with
    | false =>
      have hfs := fill_set (z := (0 : Int)) hg0 hgv
      repeat (first | exact endA | refine wkP ?_ | refine opB (fun b => ?_) | refine opA (fun a' c' hc1 hc2 => ?_) | (apply GJ.and; exact rfl; intro hg) | (apply GJ.or; exact rfl; intro hg))
      rw [bang hp]
      repeat (first | exact endA | refine wkP ?_ | refine opB (fun b => ?_) | refine opA (fun a' c' hc1 hc2 => ?_) | (apply GJ.and; exact rfl; intro hg) | (apply GJ.or; exact rfl; intro hg))
      refine OpOk.storeSlAt' (k := i) rfl rfl rfl rfl (by rw [Int.toNat_natCast]) (by omega) ?_
      rw [intV_set, show (-1 : Int) = (if false = true then (if e = true then 1 else 0) else -1) from rfl, hfs]
      repeat (first | exact endA | refine wkP ?_ | refine opB (fun b => ?_) | refine opA (fun a' c' hc1 hc2 => ?_) | (apply GJ.and; exact rfl; intro hg) | (apply GJ.or; exact rfl; intro hg))
      repeat (first | exact endA | refine wkP ?_ | refine opB (fun b => ?_) | refine opA (fun a' c' hc1 hc2 => ?_) | (apply GJ.and; exact rfl; intro hg) | (apply GJ.or; exact rfl; intro hg))
      refine Wk.id ⟨i + 1, ⟨rfl, ?_⟩, ?_, Sub.auto, Sup.auto⟩
      all_goals try dsimp only
      · omega
      · omega
    | true =>
      repeat (first | exact endA | refine wkP ?_ | refine opB (fun b => ?_) | refine opA (fun a' c' hc1 hc2 => ?_) | (apply GJ.and; exact rfl; intro hg) | (apply GJ.or; exact rfl; intro hg))
      rw [bang hp]
      repeat (first | exact endA | refine wkP ?_ | refine opB (fun b => ?_) | refine opA (fun a' c' hc1 hc2 => ?_) | (apply GJ.and; exact rfl; intro hg) | (apply GJ.or; exact rfl; intro hg))
      rw [bang he]
      cases e with
      | true =>
        have hfs := fill_set (z := (0 : Int)) hg0 hgv
        repeat (first | exact endA | refine wkP ?_ | refine opB (fun b => ?_) | refine opA (fun a' c' hc1 hc2 => ?_) | (apply GJ.and; exact rfl; intro hg) | (apply GJ.or; exact rfl; intro hg))
        refine OpOk.storeSlAt' (k := i) rfl rfl rfl rfl (by rw [Int.toNat_natCast]) (by omega) ?_
        rw [intV_set, show (1 : Int) = (if true = true then (if true = true then 1 else 0) else -1) from rfl, hfs]
        repeat (first | exact endA | refine wkP ?_ | refine opB (fun b => ?_) | refine opA (fun a' c' hc1 hc2 => ?_) | (apply GJ.and; exact rfl; intro hg) | (apply GJ.or; exact rfl; intro hg))
        repeat (first | exact endA | refine wkP ?_ | refine opB (fun b => ?_) | refine opA (fun a' c' hc1 hc2 => ?_) | (apply GJ.and; exact rfl; intro hg) | (apply GJ.or; exact rfl; intro hg))
        refine Wk.id ⟨i + 1, ⟨rfl, ?_⟩, ?_, Sub.auto, Sup.auto⟩
        all_goals try dsimp only
        · omega
        · omega
      | false =>
        have hfs := fill_same (n := d.next.length) (z := (0 : Int)) hg0 hgv
        rw [hfs]
        repeat (first | exact endA | refine wkP ?_ | refine opB (fun b => ?_) | refine opA (fun a' c' hc1 hc2 => ?_) | (apply GJ.and; exact rfl; intro hg) | (apply GJ.or; exact rfl; intro hg))
        repeat (first | exact endA | refine wkP ?_ | refine opB (fun b => ?_) | refine opA (fun a' c' hc1 hc2 => ?_) | (apply GJ.and; exact rfl; intro hg) | (apply GJ.or; exact rfl; intro hg))
        refine Wk.id ⟨i + 1, ⟨rfl, ?_⟩, ?_, Sub.auto, Sup.auto⟩
        all_goals try dsimp only
        · omega
        · omega
  · obtain rfl : i = d.next.length := by omega
    rw [List.take_of_length_le (by omega), Nat.sub_self, List.replicate_zero, List.append_nil] at *
    repeat (first | exact endA | refine wkP ?_ | refine opB (fun b => ?_) | refine opA (fun a' c' hc1 hc2 => ?_) | (apply GJ.and; exact rfl; intro hg) | (apply GJ.or; exact rfl; intro hg))
    refine LoopOk.at (ι := Nat × Nat × List Int × Option Addr × Nat) Keep.auto (fun (f, m, gr, ag, cg) => [(6, .int .i64 (m : Int)), (4, .slice ag d.next.length cg)]) (fun (f, m, gr, ag, cg) => .sl ag d.next.length cg 3 1 (intV gr) :: own) (fun (f, m, gr, ag, cg) => GrpI d f m gr ∧ d.next.length ≤ cg ∧ cg ≤ maxLen) (fun (f, m, gr, ag, cg) => f) (d.next.length + 1, 0, grp0 d, some ⟨b, 0, none⟩, d.next.length) ?_ Sub.auto Sup.auto ?_
    · exact ⟨GrpI.start ho hs, Nat.le_refl _, by unfold maxLen; omega⟩
    rintro ⟨f, m, gr, ag, cg⟩ ⟨j1, j2, j3⟩
    dsimp only [List.cons_append, List.nil_append] at j1 j2 j3 ⊢
    obtain ⟨f, rfl⟩ := j1.pos
    have hgl := j1.ok.len
    repeat (first | exact endA | refine wkP ?_ | refine opB (fun b => ?_) | refine opA (fun a' c' hc1 hc2 => ?_) | (apply GJ.and; exact rfl; intro hg) | (apply GJ.or; exact rfl; intro hg))
    refine OpOk.makeMapG (kv := str) (vv := nV) (fun bM => ?_)
    repeat (first | exact endA | refine wkP ?_ | refine opB (fun b => ?_) | refine opA (fun a' c' hc1 hc2 => ?_) | (apply GJ.and; exact rfl; intro hg) | (apply GJ.or; exact rfl; intro hg))
    rw [Int.toNat_natCast, intV_zero]
    obtain ⟨bX, hbX⟩ : ∃ z : Nat, z = b := ⟨_, rfl⟩
    subst hbX
    have hR : refA d gr (d.next.length - 0) 0 [] [] = refA d gr d.next.length 0 [] [] := rfl
    obtain ⟨R, hRR⟩ : ∃ R, refA d gr d.next.length 0 [] [] = R := ⟨_, rfl⟩
    rw [hRR] at hR
    have hdone := j1.done
    have hnext := j1.next ho hs hn
    rw [hRR] at hdone hnext
    refine LoopOk.at (ι := Nat × List Int × List (List Int) × List (List UInt8 × Nat × Nat) × Nat) Keep.auto (fun (i, out, seen, M, cM) => [(56, .int .i64 (i : Int))]) (fun (i, out, seen, M, cM) => .sl (some ⟨bX, 0, none⟩) d.next.length d.next.length 3 1 (intV (out ++ List.replicate (d.next.length - i) 0)) :: .obj bM (mapG str nV M cM) :: .sl ag d.next.length cg 3 1 (intV gr) :: own) (fun (i, out, seen, M, cM) => i ≤ d.next.length ∧ out.length = i ∧ KeyM (w + 1) seen M ∧ refA d gr (d.next.length - i) i seen out = R) (fun (i, out, seen, M, cM) => d.next.length - i) (0, [], [], [], 0) ?_ Sub.auto Sup.auto ?_
    · exact ⟨Nat.zero_le _, rfl, KeyM.nil _, hR⟩
    rintro ⟨i, out, seen, M, cM⟩ ⟨k1, k2, k3, k4⟩
    dsimp only [List.cons_append, List.nil_append] at k1 k2 k3 k4 ⊢
    by_cases hi : i < d.next.length
    · obtain ⟨row, hrow⟩ : ∃ row, d.next[i]? = some row := ⟨_, List.getElem?_eq_getElem hi⟩
      obtain ⟨ar, cr, q1, q2⟩ := hd.rows i row hrow
      obtain ⟨z, hz⟩ : ∃ z, gr[i]? = some z := ⟨_, List.getElem?_eq_getElem (by omega)⟩
      have hzl := j1.ok.low i hi
      have hzh := j1.hi i hi
      have hzg := getI_some hz
      have hbz := bang hz
      have hka := keyA_adm ho j1 hi
      have hrm := q2.max
      have hrl := q2.le
      have hrw := ho.row row (List.mem_of_getElem? hrow)
      unfold maxLen at hrm
      have hss : ∀ v : Int, (intV (out ++ List.replicate (d.next.length - i) 0)).set i (.int .i64 v) = intV ((out ++ [v]) ++ List.replicate (d.next.length - (i + 1)) 0) := fun v => by rw [intV_set, snoc_set k2 hi]
      have hol : (intV (out ++ List.replicate (d.next.length - i) 0)).length = d.next.length := by rw [intV_len]; simp; omega
      rw [show d.next.length - i = (d.next.length - (i + 1)) + 1 by omega, refA, hzg] at k4
      rw [hzg] at hzl hzh
      by_cases h1 : z = -1
      · rw [if_pos h1] at k4
        subst h1
        repeat (first | exact endA | refine wkP ?_ | refine opB (fun b => ?_) | refine opA (fun a' c' hc1 hc2 => ?_) | (apply GJ.and; exact rfl; intro hg) | (apply GJ.or; exact rfl; intro hg))
        refine OpOk.load rfl rfl (Go.E.Ld.rs hrs (by rw [Int.toNat_natCast]; exact q1)) ?_
        repeat (first | exact endA | refine wkP ?_ | refine opB (fun b => ?_) | refine opA (fun a' c' hc1 hc2 => ?_) | (apply GJ.and; exact rfl; intro hg) | (apply GJ.or; exact rfl; intro hg))
        rw [bang hz]
        repeat (first | exact endA | refine wkP ?_ | refine opB (fun b => ?_) | refine opA (fun a' c' hc1 hc2 => ?_) | (apply GJ.and; exact rfl; intro hg) | (apply GJ.or; exact rfl; intro hg))
        refine OpOk.storeSlAt' (k := i) rfl rfl rfl rfl (by rw [Int.toNat_natCast]) (by omega) ?_
        rw [hss]
        repeat (first | exact endA | refine wkP ?_ | refine opB (fun b => ?_) | refine opA (fun a' c' hc1 hc2 => ?_) | (apply GJ.and; exact rfl; intro hg) | (apply GJ.or; exact rfl; intro hg))
        repeat (first | exact endA | refine wkP ?_ | refine opB (fun b => ?_) | refine opA (fun a' c' hc1 hc2 => ?_) | (apply GJ.and; exact rfl; intro hg) | (apply GJ.or; exact rfl; intro hg))
        refine Wk.id ⟨(i + 1, out ++ [-1], seen, M, cM), ⟨rfl, ?_⟩, ?_, Sub.auto, Sup.auto⟩
        all_goals try dsimp only
        · exact ⟨by omega, by simp [k2], k3, k4⟩
        · omega
      · rw [if_neg h1] at k4
        repeat (first | exact endA | refine wkP ?_ | refine opB (fun b => ?_) | refine opA (fun a' c' hc1 hc2 => ?_) | (apply GJ.and; exact rfl; intro hg) | (apply GJ.or; exact rfl; intro hg))
        refine OpOk.load rfl rfl (Go.E.Ld.rs hrs (by rw [Int.toNat_natCast]; exact q1)) ?_
        repeat (first | exact endA | refine wkP ?_ | refine opB (fun b => ?_) | refine opA (fun a' c' hc1 hc2 => ?_) | (apply GJ.and; exact rfl; intro hg) | (apply GJ.or; exact rfl; intro hg))
        rw [bang hz]
        repeat (first | exact endA | refine wkP ?_ | refine opB (fun b => ?_) | refine opA (fun a' c' hc1 hc2 => ?_) | (apply GJ.and; exact rfl; intro hg) | (apply GJ.or; exact rfl; intro hg))
        refine LoopOk.at (ι := Nat × Option Addr × Nat) Keep.auto (fun (j, a1, c1) => [(77, .int .i64 (j : Int)), (11, .slice a1 (j + 1) c1)]) (fun (j, a1, c1) => .sl a1 (j + 1) c1 3 1 (intV ((z + 1) :: (row.take j).map fun y => grpAt gr y + 1)) :: .sl (some ⟨bX, 0, none⟩) d.next.length d.next.length 3 1 (intV (out ++ List.replicate (d.next.length - i) 0)) :: .obj bM (mapG str nV M cM) :: .sl ag d.next.length cg 3 1 (intV gr) :: own) (fun (j, a1, c1) => j ≤ row.length ∧ j + 1 ≤ c1 ∧ c1 ≤ maxLen) (fun (j, a1, c1) => row.length - j) (0, some ⟨b, 0, none⟩, 1) ?_ Sub.auto Sup.auto ?_
        · exact ⟨Nat.zero_le _, Nat.le_refl _, by unfold maxLen; omega⟩
        rintro ⟨j, a1, c1⟩ ⟨n1, n2, n3⟩
        dsimp only [List.cons_append, List.nil_append] at n1 n2 n3 ⊢
        have htl : (intV ((z + 1) :: (row.take j).map fun y => grpAt gr y + 1)).length = j + 1 := by rw [intV_len]; simp; omega
        by_cases hj : j < row.length
        · obtain ⟨y, hy⟩ : ∃ y, row[j]? = some y := ⟨_, List.getElem?_eq_getElem hj⟩
          have hby := bang hy
          have hyto := ho.to row (List.mem_of_getElem? hrow) y (List.mem_of_getElem? hy)
          have htk : row.take (j + 1) = row.take j ++ [y] := by rw [List.take_add_one, hy]; rfl
          have happ : intV ((z + 1) :: (row.take j).map fun y => grpAt gr y + 1) ++ [.int .i64 (grpAt gr y + 1)] = intV ((z + 1) :: (row.take (j + 1)).map fun y => grpAt gr y + 1) := by rw [htk]; simp [intV]
          by_cases hy0 : y < 0
          · have hgy : grpAt gr y = y := by unfold grpAt; rw [if_neg (by omega)]
            rw [hgy] at happ
            repeat (first | exact endA | refine wkP ?_ | refine opB (fun b => ?_) | refine opA (fun a' c' hc1 hc2 => ?_) | (apply GJ.and; exact rfl; intro hg) | (apply GJ.or; exact rfl; intro hg))
            rw [hby, happ]
            repeat (first | exact endA | refine wkP ?_ | refine opB (fun b => ?_) | refine opA (fun a' c' hc1 hc2 => ?_) | (apply GJ.and; exact rfl; intro hg) | (apply GJ.or; exact rfl; intro hg))
            repeat (first | exact endA | refine wkP ?_ | refine opB (fun b => ?_) | refine opA (fun a' c' hc1 hc2 => ?_) | (apply GJ.and; exact rfl; intro hg) | (apply GJ.or; exact rfl; intro hg))
            refine Wk.id ⟨(j + 1, a', c'), ⟨rfl, ?_⟩, ?_, Sub.auto, Sup.auto⟩
            all_goals try dsimp only
            · exact ⟨by omega, hc1, hc2⟩
            · omega
          · obtain ⟨u, rfl⟩ : ∃ u : Nat, y = (u : Int) := ⟨y.toNat, by omega⟩
            obtain ⟨x, hx⟩ : ∃ x, gr[u]? = some x := ⟨_, List.getElem?_eq_getElem (by omega)⟩
            have hgy : grpAt gr (u : Int) = x := by unfold grpAt; rw [if_pos (by omega), Int.toNat_natCast, getI_some hx]
            have hxl := j1.ok.low u (by omega)
            have hxh := j1.hi u (by omega)
            rw [getI_some hx] at hxl hxh
            have hbx := bang hx
            rw [hgy] at happ
            repeat (first | exact endA | refine wkP ?_ | refine opB (fun b => ?_) | refine opA (fun a' c' hc1 hc2 => ?_) | (apply GJ.and; exact rfl; intro hg) | (apply GJ.or; exact rfl; intro hg))
            rw [hby, hbx]
            refine ⟨⟨by omega, by omega⟩, ?_⟩
            repeat (first | exact endA | refine wkP ?_ | refine opB (fun b => ?_) | refine opA (fun a' c' hc1 hc2 => ?_) | (apply GJ.and; exact rfl; intro hg) | (apply GJ.or; exact rfl; intro hg))
            rw [happ]
            repeat (first | exact endA | refine wkP ?_ | refine opB (fun b => ?_) | refine opA (fun a' c' hc1 hc2 => ?_) | (apply GJ.and; exact rfl; intro hg) | (apply GJ.or; exact rfl; intro hg))
            repeat (first | exact endA | refine wkP ?_ | refine opB (fun b => ?_) | refine opA (fun a' c' hc1 hc2 => ?_) | (apply GJ.and; exact rfl; intro hg) | (apply GJ.or; exact rfl; intro hg))
            refine Wk.id ⟨(j + 1, a', c'), ⟨rfl, ?_⟩, ?_, Sub.auto, Sup.auto⟩
            all_goals try dsimp only
            · exact ⟨by omega, hc1, hc2⟩
            · omega
        · obtain rfl : j = row.length := by omega
          rw [List.take_length] at *
          have hkey : (z + 1) :: row.map (fun y => grpAt gr y + 1) = keyA d gr i := by unfold keyA; rw [hrow, hzg]; rfl
          rw [hkey] at *
          repeat (first | exact endA | refine wkP ?_ | refine opB (fun b => ?_) | refine opA (fun a' c' hc1 hc2 => ?_) | (apply GJ.and; exact rfl; intro hg) | (apply GJ.or; exact rfl; intro hg))
          have hkr : Rds ro (.sl a1 (row.length + 1) c1 3 1 (intV (keyA d gr i)) :: .sl (some ⟨bX, 0, none⟩) d.next.length d.next.length 3 1 (intV (out ++ List.replicate (d.next.length - i) 0)) :: .obj bM (mapG str nV M cM) :: .sl ag d.next.length cg 3 1 (intV gr) :: own) a1 (row.length + 1) c1 1 ((keyA d gr i).map (Value.int .i64)) := Rds.hasSl n2 n3 (by show (intV _).length = _; rw [intV_len, hka.2]; omega)
          refine key_ok (l := keyA d gr i) hkr (by rw [hka.2]; omega) (by omega) hka.1 ?_
          have hkl : (keyT (keyA d gr i)).length ≤ maxLen := by rw [keyT_len, hka.2]; unfold maxLen; omega
          have hgk := k3.at' _ hka.1
          repeat (first | exact endA | refine wkP ?_ | refine opB (fun b => ?_) | refine opA (fun a' c' hc1 hc2 => ?_) | (apply GJ.and; exact rfl; intro hg) | (apply GJ.or; exact rfl; intro hg))
          refine OpOk.lookupOkG (kt := 9) (et := 3) (kv := str) (vv := nV) (k := keyT (keyA d gr i)) (z := .int .i64 0) rfl rfl (by kernel_rfl) (KeyEnc.text (by kernel_rfl)) k3.map hkl (by kernel_rfl) ?_
          rw [hgk]
          cases hidx : seen.idxOf? (keyA d gr i) with
          | some u =>
            rw [hidx] at k4
            dsimp only at k4
            simp only [Option.map_some, Option.getD_some, Option.isSome_some, nV]
            repeat (first | exact endA | refine wkP ?_ | refine opB (fun b => ?_) | refine opA (fun a' c' hc1 hc2 => ?_) | (apply GJ.and; exact rfl; intro hg) | (apply GJ.or; exact rfl; intro hg))
            refine OpOk.storeSlAt' (k := i) rfl rfl rfl rfl (by rw [Int.toNat_natCast]) (by omega) ?_
            rw [hss]
            repeat (first | exact endA | refine wkP ?_ | refine opB (fun b => ?_) | refine opA (fun a' c' hc1 hc2 => ?_) | (apply GJ.and; exact rfl; intro hg) | (apply GJ.or; exact rfl; intro hg))
            repeat (first | exact endA | refine wkP ?_ | refine opB (fun b => ?_) | refine opA (fun a' c' hc1 hc2 => ?_) | (apply GJ.and; exact rfl; intro hg) | (apply GJ.or; exact rfl; intro hg))
            refine Wk.id ⟨(i + 1, out ++ [(u : Int)], seen, M, cM), ⟨rfl, ?_⟩, ?_, Sub.auto, Sup.auto⟩
            all_goals try dsimp only
            · exact ⟨by omega, by simp [k2], k3, k4⟩
            · omega
          | none =>
            rw [hidx] at k4
            dsimp only at k4
            have hpush := k3.push (by omega) hka.1 (Nat.le_of_eq hka.2) hidx cM
            have hMl := k3.len
            simp only [Option.map_none, Option.getD_none, Option.isSome_none]
            repeat (first | exact endA | refine wkP ?_ | refine opB (fun b => ?_) | refine opA (fun a' c' hc1 hc2 => ?_) | (apply GJ.and; exact rfl; intro hg) | (apply GJ.or; exact rfl; intro hg))
            refine OpOk.lenG (kv := str) (vv := nV) (et := 3) (kt := 9) rfl (by kernel_rfl) ?_
            rw [hMl]
            repeat (first | exact endA | refine wkP ?_ | refine opB (fun b => ?_) | refine opA (fun a' c' hc1 hc2 => ?_) | (apply GJ.and; exact rfl; intro hg) | (apply GJ.or; exact rfl; intro hg))
            refine key_ok (l := keyA d gr i) hkr (by rw [hka.2]; omega) (by omega) hka.1 ?_
            repeat (first | exact endA | refine wkP ?_ | refine opB (fun b => ?_) | refine opA (fun a' c' hc1 hc2 => ?_) | (apply GJ.and; exact rfl; intro hg) | (apply GJ.or; exact rfl; intro hg))
            refine OpOk.mapUpdateG (kt := 9) (et := 3) (kv := str) (vv := nV) (k := keyT (keyA d gr i)) (v := seen.length) rfl rfl rfl (by kernel_rfl) (KeyEnc.text (by kernel_rfl)) k3.map hkl (fun c2 => ?_)
            repeat (first | exact endA | refine wkP ?_ | refine opB (fun b => ?_) | refine opA (fun a' c' hc1 hc2 => ?_) | (apply GJ.and; exact rfl; intro hg) | (apply GJ.or; exact rfl; intro hg))
            refine OpOk.storeSlAt' (k := i) rfl rfl rfl rfl (by rw [Int.toNat_natCast]) (by omega) ?_
            rw [hss]
            repeat (first | exact endA | refine wkP ?_ | refine opB (fun b => ?_) | refine opA (fun a' c' hc1 hc2 => ?_) | (apply GJ.and; exact rfl; intro hg) | (apply GJ.or; exact rfl; intro hg))
            repeat (first | exact endA | refine wkP ?_ | refine opB (fun b => ?_) | refine opA (fun a' c' hc1 hc2 => ?_) | (apply GJ.and; exact rfl; intro hg) | (apply GJ.or; exact rfl; intro hg))
            refine Wk.id ⟨(i + 1, out ++ [(seen.length : Int)], seen ++ [keyA d gr i], putG M cM (keyT (keyA d gr i)) seen.length, c2), ⟨rfl, ?_⟩, ?_, Sub.auto, Sup.auto⟩
            all_goals try dsimp only
            · exact ⟨by omega, by simp [k2], hpush, k4⟩
            · omega
    · obtain rfl : i = d.next.length := by omega
      rw [Nat.sub_self, refA] at k4
      subst k4
      rw [Nat.sub_self, List.replicate_zero, List.append_nil]
      have hMl := k3.len
      dsimp only at hdone hnext
      repeat (first | exact endA | refine wkP ?_ | refine opB (fun b => ?_) | refine opA (fun a' c' hc1 hc2 => ?_) | (apply GJ.and; exact rfl; intro hg) | (apply GJ.or; exact rfl; intro hg))
      refine OpOk.lenG (kv := str) (vv := nV) (et := 3) (kt := 9) rfl (by kernel_rfl) ?_
      rw [hMl]
      repeat (first | exact endA | refine wkP ?_ | refine opB (fun b => ?_) | refine opA (fun a' c' hc1 hc2 => ?_) | (apply GJ.and; exact rfl; intro hg) | (apply GJ.or; exact rfl; intro hg))
      by_cases he : seen.length = m
      · have hfin := hdone he
        subst hfin
        repeat (first | exact endA | refine wkP ?_ | refine opB (fun b => ?_) | refine opA (fun a' c' hc1 hc2 => ?_) | (apply GJ.and; exact rfl; intro hg) | (apply GJ.or; exact rfl; intro hg))
        exact Wk.outS Sup.auto (.refl _) (hk _ _ (Nat.le_refl _) (by unfold maxLen; omega))
      · have hnx := hnext he
        repeat (first | exact endA | refine wkP ?_ | refine opB (fun b => ?_) | refine opA (fun a' c' hc1 hc2 => ?_) | (apply GJ.and; exact rfl; intro hg) | (apply GJ.or; exact rfl; intro hg))
        refine OpOk.lenG (kv := str) (vv := nV) (et := 3) (kt := 9) rfl (by kernel_rfl) ?_
        rw [hMl]
        repeat (first | exact endA | refine wkP ?_ | refine opB (fun b => ?_) | refine opA (fun a' c' hc1 hc2 => ?_) | (apply GJ.and; exact rfl; intro hg) | (apply GJ.or; exact rfl; intro hg))
        refine Wk.id ⟨(f, seen.length, out, some ⟨bX, 0, none⟩, d.next.length), ⟨rfl, ?_⟩, ?_, Sub.auto, Sup.auto⟩
        all_goals try dsimp only
        · exact ⟨hnx, Nat.le_refl _, by unfold maxLen; omega⟩
        · omega
end
end Go.Proofs.YtinbmhbfcoiefaaGreatDoor
end
section
/- Contracts of dfa: narrow. -/
namespace Go.E
open Go
theorem Take.ofMem {c : Chunk} : ∀ {l : Chs}, c ∈ l → ∃ r, Take l c r ∧ l.Perm (c :: r)
  | [], h => by cases h
  | x :: l, h => by
    rcases List.mem_cons.1 h with rfl | h
    · exact ⟨l, Take.hit _ _, .refl _⟩
    · obtain ⟨r, h1, h2⟩ := Take.ofMem h
      exact ⟨x :: r, Take.miss _ h1, (h2.cons x).trans (List.Perm.swap _ _ _)⟩
theorem Sup.ofPerm : ∀ {o l : Chs}, l.Perm o → Sup l o
  | [], l, h => Sup.nil _
  | c :: o, l, h => by
    obtain ⟨r, h1, h2⟩ := Take.ofMem (l := l) (c := c) (h.symm.subset (List.mem_cons_self ..))
    exact Sup.cons h1 (Sup.ofPerm ((List.perm_cons c).1 (h2.symm.trans h)))
end Go.E
namespace Go.Proofs.YtinbmhbfcoiefaaGreatDoor
open Go Go.E
set_option linter.unusedVariables false
set_option linter.unusedSimpArgs false
set_option maxRecDepth 10000
/-- A row of numbers of one's own: where it lies, how much room it has, what is in it. -/
abbrev RowJ := (Option Addr × Nat) × List Int
def hdrJ (r : RowJ) : Value := .slice r.1.1 r.2.length r.1.2
def rowJ (r : RowJ) : Chunk := .sl r.1.1 r.2.length r.1.2 3 1 (intV r.2)
def nilJ : RowJ := ((none, 0), [])
theorem rowsJ_split {R : List RowJ} {i : Nat} {x : RowJ} (h : R[i]? = some x) (r : Chs) : (R.map rowJ ++ r).Perm (rowJ x :: ((R.take i ++ R.drop (i + 1)).map rowJ ++ r)) := by
  obtain ⟨hi, hx⟩ := List.getElem?_eq_some_iff.1 h
  have e : R = R.take i ++ x :: R.drop (i + 1) := by rw [← hx, ← List.drop_eq_getElem_cons hi, List.take_append_drop]
  have e2 := congrArg (List.map rowJ) e
  rw [List.map_append, List.map_cons] at e2
  rw [e2, List.map_append, List.append_assoc, List.append_assoc, List.cons_append]
  exact List.perm_middle
theorem rowsJ_join {R : List RowJ} {i : Nat} (hi : i < R.length) (y : RowJ) (r : Chs) : (rowJ y :: ((R.take i ++ R.drop (i + 1)).map rowJ ++ r)).Perm ((R.set i y).map rowJ ++ r) := by
  rw [List.set_eq_take_append_cons_drop, if_pos hi, List.map_append, List.map_append, List.map_cons, List.append_assoc, List.append_assoc, List.cons_append]
  exact List.perm_middle.symm
theorem Sup.nilsJ (n : Nat) {l o : Chs} (h : Sup l o) : Sup l ((List.replicate n nilJ).map rowJ ++ o) := by
  induction n with
  | zero => exact h
  | succ n ih => rw [List.replicate_succ]; exact Sup.nilc ih
theorem supJ {R : List RowJ} {s : Nat} (pre r : Chs) (hs : s ≤ R.length) : Sup (pre ++ (R.map rowJ ++ r)) (rowJ (R[s]?.getD nilJ) :: (pre ++ ((R.take s ++ R.drop (s + 1)).map rowJ ++ r))) := by
  by_cases h : s < R.length
  · obtain ⟨x, hx⟩ : ∃ x, R[s]? = some x := ⟨_, List.getElem?_eq_getElem h⟩
    rw [hx]
    exact Sup.ofPerm (((rowsJ_split hx r).append_left pre).trans List.perm_middle)
  · have e : R.take s ++ R.drop (s + 1) = R := by rw [List.take_of_length_le (by omega), List.drop_eq_nil_of_le (by omega), List.append_nil]
    rw [e, List.getElem?_eq_none (by omega)]
    exact Sup.nilc (Sup.all _)
theorem supJn {R : List RowJ} {s : Nat} (y : RowJ) (pre r : Chs) (hs : s < R.length) : Sup (rowJ y :: (pre ++ ((R.take s ++ R.drop (s + 1)).map rowJ ++ r))) (rowJ ((R.set s y)[s + 1]?.getD nilJ) :: (pre ++ (((R.set s y).take (s + 1) ++ (R.set s y).drop (s + 1 + 1)).map rowJ ++ r))) := by
  have hp : (rowJ y :: (pre ++ ((R.take s ++ R.drop (s + 1)).map rowJ ++ r))).Perm (pre ++ ((R.set s y).map rowJ ++ r)) := List.perm_middle.symm.trans ((rowsJ_join hs y r).append_left pre)
  generalize R.set s y = S at *
  by_cases h : s + 1 < S.length
  · obtain ⟨x, hx⟩ : ∃ x, S[s + 1]? = some x := ⟨_, List.getElem?_eq_getElem h⟩
    rw [hx]
    exact Sup.ofPerm (hp.trans (((rowsJ_split hx r).append_left pre).trans List.perm_middle))
  · have e : S.take (s + 1) ++ S.drop (s + 1 + 1) = S := by rw [List.take_of_length_le (by omega), List.drop_eq_nil_of_le (by omega), List.append_nil]
    rw [e, List.getElem?_eq_none (by omega)]
    exact Sup.nilc (Sup.ofPerm hp)
/-- The rows of the classes that are found. -/
def rowsJ (n : Nat) (seen : List (List Int)) : List (List Int) := (List.range n).map fun s => seen.map fun col => (col[s]?.getD 0) - 1
theorem rowsJ_nil (n : Nat) : rowsJ n [] = List.replicate n [] := by
  apply List.ext_getElem?
  intro i
  unfold rowsJ
  rw [List.getElem?_map, List.getElem?_replicate]
  by_cases h : i < n
  · rw [List.getElem?_range h, if_pos h]; rfl
  · rw [List.getElem?_eq_none (by simp; omega), if_neg h]; rfl
theorem rowsJ_get {n s : Nat} (seen : List (List Int)) (h : s < n) : (rowsJ n seen)[s]? = some (seen.map fun col => (col[s]?.getD 0) - 1) := by
  unfold rowsJ
  rw [List.getElem?_map, List.getElem?_range h]; rfl
/-- Rows of which the first ones are longer by a column. -/
def mixJ (n : Nat) (seen : List (List Int)) (col : List Int) (s : Nat) : List (List Int) := (rowsJ n (seen ++ [col])).take s ++ (rowsJ n seen).drop s
theorem mixJ_zero (n : Nat) (seen : List (List Int)) (col : List Int) : mixJ n seen col 0 = rowsJ n seen := by simp [mixJ]
theorem rowsJ_len (n : Nat) (seen : List (List Int)) : (rowsJ n seen).length = n := by simp [rowsJ]
theorem mixJ_all (n : Nat) (seen : List (List Int)) (col : List Int) : mixJ n seen col n = rowsJ n (seen ++ [col]) := by
  unfold mixJ
  rw [List.take_of_length_le (by rw [rowsJ_len]; exact Nat.le_refl _), List.drop_eq_nil_of_le (by rw [rowsJ_len]; exact Nat.le_refl _), List.append_nil]
theorem mixJ_get {n s : Nat} (seen : List (List Int)) (col : List Int) (h : s < n) : (mixJ n seen col s)[s]? = some (seen.map fun c => (c[s]?.getD 0) - 1) := by
  unfold mixJ
  rw [List.getElem?_append_right (by simp [rowsJ_len]; omega), List.length_take, rowsJ_len, Nat.min_eq_left (by omega), Nat.sub_self, List.getElem?_drop, Nat.add_zero]
  exact rowsJ_get seen h
theorem mixJ_set {n s : Nat} (seen : List (List Int)) (col : List Int) {z : Int} (h : s < n) (hz : col[s]? = some z) : (mixJ n seen col s).set s ((seen.map fun c => (c[s]?.getD 0) - 1) ++ [z - 1]) = mixJ n seen col (s + 1) := by
  have hg := rowsJ_get (seen ++ [col]) h
  unfold mixJ
  have hl : ((rowsJ n (seen ++ [col])).take s).length = s := by simp [rowsJ_len]; omega
  rw [List.set_append_right _ _ (by omega), hl, Nat.sub_self, List.drop_eq_getElem_cons (by rw [rowsJ_len]; exact h), List.set_cons_zero, List.take_add_one, hg]
  simp [hz]
/-- What holds byte by byte. -/
structure NarI (d : DfaA) (c : Nat) (seen : List (List Int)) (out : List Nat) : Prop where
  fin : narL d (256 - c) c seen out = narL d 256 0 [] []
  len : out.length = c
  few : seen.length ≤ c
theorem NarI.start (d : DfaA) : NarI d 0 [] [] := ⟨rfl, rfl, Nat.le_refl _⟩
theorem NarI.old {d : DfaA} {c k : Nat} {seen : List (List Int)} {out : List Nat} (h : NarI d c seen out) (hc : c < 256) (hk : seen.idxOf? (colA d c) = some k) : NarI d (c + 1) seen (out ++ [k]) := by
  refine ⟨?_, by simp [h.len], by have := h.few; omega⟩
  have := h.fin
  rw [show 256 - c = (256 - (c + 1)) + 1 by omega, narL, hk] at this
  exact this
theorem NarI.new {d : DfaA} {c : Nat} {seen : List (List Int)} {out : List Nat} (h : NarI d c seen out) (hc : c < 256) (hk : seen.idxOf? (colA d c) = none) : NarI d (c + 1) (seen ++ [colA d c]) (out ++ [seen.length]) := by
  refine ⟨?_, by simp [h.len], by have := h.few; simp; omega⟩
  have := h.fin
  rw [show 256 - c = (256 - (c + 1)) + 1 by omega, narL, hk] at this
  exact this
theorem colA_adm {w : Nat} {d : DfaA} (ho : DfaOk w d) (hn : d.next.length ≤ 1024) {c : Nat} (hc : c < 256) : AdmK (colA d c) ∧ (colA d c).length = d.next.length := by
  refine ⟨fun z hz => ?_, by simp [colA]⟩
  obtain ⟨s, hs, e⟩ := List.getElem_of_mem hz
  have hs : s < d.next.length := by simpa [colA] using hs
  have h1 := col_get ho hs hc
  rw [List.getElem?_eq_getElem (by simpa [colA] using hs), e] at h1
  rw [Option.some.inj h1]
  rcases step_to ho (s : Int) hc with h | ⟨t, h, h2⟩ <;> rw [h] <;> omega
def u8V (k : Nat) : Value := .int .u8 (k : Int)
section
variable {ro : Ro} {own r : Chs} {K : Value → Ro → Chs → Prop} {g : Chunk → Chs}
set_option maxHeartbeats 8000000 in
theorem dnarrow_ok {q w : Nat} {d : DfaA} (hD : DAt ro q d) (ho : DfaOk w d) (hn : d.next.length ≤ 1024)
    (hk : ∀ ro' p, Le ro ro' → DAt ro' p (narrowA d) → K (ptr' p) ro' own) : CallOk Tryz.prog 33 #[ptr' q] ro own K := by
  obtain ⟨an, cn, aa, ca, hsv, hd⟩ := hD.rd
  have hN := hd.ldN
  have hA := hd.ldA
  have hrs := hd.rs
  have hra := hd.ra
  have hcm := hrs.max
  have hcl := hrs.le
  unfold maxLen at hcm
  refine CallOk.intro (args := [_]) (rs := [_]) T_ok Tryz.func33 Tryz.call33 rfl rfl (by kernel_rfl) rfl rfl ?_
  repeat (first | exact endA | refine wkP ?_ | refine opB (fun b => ?_) | refine opA (fun a' c' hc1 hc2 => ?_) | (apply GJ.and; exact rfl; intro hg) | (apply GJ.or; exact rfl; intro hg))
  refine dlen_ok hD ?_
  repeat (first | exact endA | refine wkP ?_ | refine opB (fun b => ?_) | refine opA (fun a' c' hc1 hc2 => ?_) | (apply GJ.and; exact rfl; intro hg) | (apply GJ.or; exact rfl; intro hg))
  refine OpOk.makeMapG (kv := str) (vv := u8V) (fun bM => ?_)
  repeat (first | exact endA | refine wkP ?_ | refine opB (fun b => ?_) | refine opA (fun a' c' hc1 hc2 => ?_) | (apply GJ.and; exact rfl; intro hg) | (apply GJ.or; exact rfl; intro hg))
  rename_i bN
  have hN0 : (List.replicate (d.next.length : Int).toNat (Value.slice none 0 0)) = (List.replicate d.next.length nilJ).map hdrJ := by rw [Int.toNat_natCast, List.map_replicate]; rfl
  rw [hN0, Int.toNat_natCast]
  have hst : rowsJ d.next.length [] = (List.replicate d.next.length nilJ).map (·.2) := by rw [rowsJ_nil, List.map_replicate]; rfl
  refine LoopOk.at (ι := Nat × List Nat × List (List Int) × List (List UInt8 × Nat × Nat) × Nat × List RowJ) Keep.auto (fun (c, out, seen, M, cM, R) => [(22, .int .i64 (c : Int))])
    (fun (c, out, seen, M, cM, R) => .blk b 49 (autV (out ++ List.replicate (256 - c) 0) (.slice (some ⟨bN, 0, none⟩) d.next.length d.next.length) (.slice aa d.acc.length ca)) :: .obj bM (mapG str u8V M cM) :: .sl (some ⟨bN, 0, none⟩) d.next.length d.next.length 50 1 (R.map hdrJ) :: (R.map rowJ ++ own))
    (fun (c, out, seen, M, cM, R) => c ≤ 256 ∧ NarI d c seen out ∧ KeyM d.next.length seen M ∧ R.map (·.2) = rowsJ d.next.length seen) (fun (c, out, seen, M, cM, R) => 256 - c) (0, [], [], [], 0, List.replicate d.next.length nilJ) ?_ Sub.auto (Sup.cons Take.auto (Sup.cons Take.auto (Sup.cons Take.auto (Sup.nilsJ _ (Sup.all _))))) ?_
  · exact ⟨Nat.zero_le _, NarI.start d, KeyM.nil _, hst.symm⟩
  rintro ⟨c, out, seen, M, cM, R⟩ ⟨i1, i2, i3, i4⟩
  dsimp only [List.cons_append, List.nil_append] at i1 i2 i3 i4 ⊢
  have hRl : R.length = d.next.length := by have := congrArg List.length i4; rwa [List.length_map, rowsJ_len] at this
  have hol := i2.len
  have hCl : (out ++ List.replicate (256 - c) 0).length = 256 := by simp; omega
  by_cases hc : c < 256
  · obtain ⟨hka, hkl⟩ := colA_adm ho hn hc
    have hgk := i3.at' _ hka
    have hold := fun k => i2.old (k := k) hc
    have hnew := i2.new hc
    have hpush := i3.push (by omega) hka (by omega)
    obtain ⟨hcw, hcc⟩ := cls_lt ho hc
    have hC := hd.ldC c _ hcc
    have hcg : ∀ s, s < d.next.length → (colA d c)[s]? = some (stepA d (s : Int) c + 1) := fun s hs => col_get ho hs hc
    have hss : ∀ u : Nat, (autV (out ++ List.replicate (256 - c) 0) (.slice (some ⟨bN, 0, none⟩) d.next.length d.next.length) (.slice aa d.acc.length ca)).set (0 + 0 + ((c : Nat) : Int).toNat * 1) (.int .u8 (u : Int)) = autV ((out ++ [u]) ++ List.replicate (256 - (c + 1)) 0) (.slice (some ⟨bN, 0, none⟩) d.next.length d.next.length) (.slice aa d.acc.length ca) := fun u => by
      rw [show 0 + 0 + ((c : Nat) : Int).toNat * 1 = c by simp, aut_set (by omega), snoc_set hol hc]
    have hsl := autV_len hCl (.slice (some ⟨bN, 0, none⟩) d.next.length d.next.length) (.slice aa d.acc.length ca)
    generalize colA d c = col at *
    repeat (first | exact endA | refine wkP ?_ | refine opB (fun b => ?_) | refine opA (fun a' c' hc1 hc2 => ?_) | (apply GJ.and; exact rfl; intro hg) | (apply GJ.or; exact rfl; intro hg))
    refine LoopOk.at (ι := Nat × Option Addr × Nat) Keep.auto (fun (j, a1, c1) => [(30, .int .i64 (j : Int)), (6, .slice a1 j c1)]) (fun (j, a1, c1) => .sl a1 j c1 3 1 (intV (col.take j)) :: .blk b 49 (autV (out ++ List.replicate (256 - c) 0) (.slice (some ⟨bN, 0, none⟩) d.next.length d.next.length) (.slice aa d.acc.length ca)) :: .obj bM (mapG str u8V M cM) :: .sl (some ⟨bN, 0, none⟩) d.next.length d.next.length 50 1 (R.map hdrJ) :: (R.map rowJ ++ own)) (fun (j, a1, c1) => j ≤ d.next.length ∧ j ≤ c1 ∧ c1 ≤ maxLen) (fun (j, a1, c1) => d.next.length - j) (0, none, 0) ?_ Sub.auto Sup.auto ?_
    · exact ⟨Nat.zero_le _, Nat.le_refl _, Nat.zero_le _⟩
    rintro ⟨j, a1, c1⟩ ⟨j1, j2, j3⟩
    dsimp only [List.cons_append, List.nil_append] at j1 j2 j3 ⊢
    have htl : (intV (col.take j)).length = j := by rw [intV_len]; simp; omega
    by_cases hj : j < d.next.length
    · obtain ⟨row, hrow⟩ : ∃ row, d.next[j]? = some row := ⟨_, List.getElem?_eq_getElem hj⟩
      obtain ⟨ar, cr, q1, q2⟩ := hd.rows j row hrow
      have hrl := ho.row row (List.mem_of_getElem? hrow)
      obtain ⟨k, row', p1, p2, p3, p4⟩ := step_at ho hj hc
      rw [hrow] at p3; cases p3
      rw [hcc] at p1; cases p1
      have hbr := bang p4
      have hst := step_to ho (j : Int) hc
      have hcj := hcg j hj
      generalize stepA d (j : Int) c = z at *
      have htk : col.take (j + 1) = col.take j ++ [z + 1] := by rw [List.take_add_one, hcj]; rfl
      repeat (first | exact endA | refine wkP ?_ | refine opB (fun b => ?_) | refine opA (fun a' c' hc1 hc2 => ?_) | (apply GJ.and; exact rfl; intro hg) | (apply GJ.or; exact rfl; intro hg))
      refine OpOk.load rfl rfl (Go.E.Ld.rs hrs (by rw [Int.toNat_natCast]; exact q1)) ?_
      repeat (first | exact endA | refine wkP ?_ | refine opB (fun b => ?_) | refine opA (fun a' c' hc1 hc2 => ?_) | (apply GJ.and; exact rfl; intro hg) | (apply GJ.or; exact rfl; intro hg))
      refine OpOk.load rfl rfl (hC.ldE (by simp)) ?_
      repeat (first | exact endA | refine wkP ?_ | refine opB (fun b => ?_) | refine opA (fun a' c' hc1 hc2 => ?_) | (apply GJ.and; exact rfl; intro hg) | (apply GJ.or; exact rfl; intro hg))
      rw [hbr]
      refine ⟨⟨by omega, by omega⟩, ?_⟩
      repeat (first | exact endA | refine wkP ?_ | refine opB (fun b => ?_) | refine opA (fun a' c' hc1 hc2 => ?_) | (apply GJ.and; exact rfl; intro hg) | (apply GJ.or; exact rfl; intro hg))
      have hap : intV (col.take j) ++ [.int .i64 (z + 1)] = intV (col.take (j + 1)) := by rw [htk]; simp [intV]
      rw [hap]
      repeat (first | exact endA | refine wkP ?_ | refine opB (fun b => ?_) | refine opA (fun a' c' hc1 hc2 => ?_) | (apply GJ.and; exact rfl; intro hg) | (apply GJ.or; exact rfl; intro hg))
      refine Wk.id ⟨(j + 1, a', c'), ⟨rfl, ?_⟩, ?_, Sub.auto, Sup.auto⟩
      all_goals try dsimp only
      · exact ⟨by omega, hc1, hc2⟩
      · omega
    · obtain rfl : j = d.next.length := by omega
      have htc : col.take d.next.length = col := List.take_of_length_le (by omega)
      rw [htc] at *
      have hkt : (keyT col).length ≤ maxLen := by rw [keyT_len, hkl]; unfold maxLen; omega
      have hfew := i2.few
      repeat (first | exact endA | refine wkP ?_ | refine opB (fun b => ?_) | refine opA (fun a' c' hc1 hc2 => ?_) | (apply GJ.and; exact rfl; intro hg) | (apply GJ.or; exact rfl; intro hg))
      have hkr : Rds ro (.sl a1 d.next.length c1 3 1 (intV col) :: .blk b 49 (autV (out ++ List.replicate (256 - c) 0) (.slice (some ⟨bN, 0, none⟩) d.next.length d.next.length) (.slice aa d.acc.length ca)) :: .obj bM (mapG str u8V M cM) :: .sl (some ⟨bN, 0, none⟩) d.next.length d.next.length 50 1 (R.map hdrJ) :: (R.map rowJ ++ own)) a1 d.next.length c1 1 (col.map (Value.int .i64)) := Rds.hasSl j2 j3 (by show (intV _).length = _; rw [intV_len, hkl, Nat.mul_one])
      refine key_ok (l := col) hkr hkl (by omega) hka ?_
      repeat (first | exact endA | refine wkP ?_ | refine opB (fun b => ?_) | refine opA (fun a' c' hc1 hc2 => ?_) | (apply GJ.and; exact rfl; intro hg) | (apply GJ.or; exact rfl; intro hg))
      refine OpOk.lookupOkG (kt := 9) (et := 5) (kv := str) (vv := u8V) (k := keyT col) (z := .int .u8 0) rfl rfl (by kernel_rfl) (KeyEnc.text (by kernel_rfl)) i3.map hkt (by kernel_rfl) ?_
      rw [hgk]
      cases hidx : seen.idxOf? col with
      | some u =>
        have hold := hold u hidx
        have hu : u < seen.length := (List.findIdx?_eq_some_iff_getElem.1 hidx).1
        simp only [Option.map_some, Option.getD_some, Option.isSome_some, u8V]
        repeat (first | exact endA | refine wkP ?_ | refine opB (fun b => ?_) | refine opA (fun a' c' hc1 hc2 => ?_) | (apply GJ.and; exact rfl; intro hg) | (apply GJ.or; exact rfl; intro hg))
        refine OpOk.storeAt rfl rfl rfl rfl (by rw [hsl]; simp; omega) ?_
        rw [hss]
        repeat (first | exact endA | refine wkP ?_ | refine opB (fun b => ?_) | refine opA (fun a' c' hc1 hc2 => ?_) | (apply GJ.and; exact rfl; intro hg) | (apply GJ.or; exact rfl; intro hg))
        repeat (first | exact endA | refine wkP ?_ | refine opB (fun b => ?_) | refine opA (fun a' c' hc1 hc2 => ?_) | (apply GJ.and; exact rfl; intro hg) | (apply GJ.or; exact rfl; intro hg))
        refine Wk.id ⟨(c + 1, out ++ [u], seen, M, cM, R), ⟨rfl, ?_⟩, ?_, Sub.auto, Sup.auto⟩
        all_goals try dsimp only
        · exact ⟨by omega, hold, i3, i4⟩
        · omega
      | none =>
        have hnew := hnew hidx
        have hpush := hpush hidx cM
        have hMl := i3.len
        simp only [Option.map_none, Option.getD_none, Option.isSome_none]
        repeat (first | exact endA | refine wkP ?_ | refine opB (fun b => ?_) | refine opA (fun a' c' hc1 hc2 => ?_) | (apply GJ.and; exact rfl; intro hg) | (apply GJ.or; exact rfl; intro hg))
        refine OpOk.lenG (kv := str) (vv := u8V) (et := 5) (kt := 9) rfl (by kernel_rfl) ?_
        rw [hMl]
        repeat (first | exact endA | refine wkP ?_ | refine opB (fun b => ?_) | refine opA (fun a' c' hc1 hc2 => ?_) | (apply GJ.and; exact rfl; intro hg) | (apply GJ.or; exact rfl; intro hg))
        rw [show ((seen.length : Nat) : Int) % 256 = (seen.length : Int) by omega]
        refine key_ok (l := col) hkr hkl (by omega) hka ?_
        repeat (first | exact endA | refine wkP ?_ | refine opB (fun b => ?_) | refine opA (fun a' c' hc1 hc2 => ?_) | (apply GJ.and; exact rfl; intro hg) | (apply GJ.or; exact rfl; intro hg))
        refine OpOk.mapUpdateG (kt := 9) (et := 5) (kv := str) (vv := u8V) (k := keyT col) (v := seen.length) rfl rfl rfl (by kernel_rfl) (KeyEnc.text (by kernel_rfl)) i3.map hkt (fun c2 => ?_)
        generalize putG M cM (keyT col) seen.length = M2 at *
        repeat (first | exact endA | refine wkP ?_ | refine opB (fun b => ?_) | refine opA (fun a' c' hc1 hc2 => ?_) | (apply GJ.and; exact rfl; intro hg) | (apply GJ.or; exact rfl; intro hg))
        refine LoopOk.at (ι := Nat × List RowJ) Keep.auto (fun (s, S) => [(69, .int .i64 (s : Int))])
          (fun (s, S) => rowJ (S[s]?.getD nilJ) :: ([.sl a1 d.next.length c1 3 1 (intV col), .blk b 49 (autV (out ++ List.replicate (256 - c) 0) (.slice (some ⟨bN, 0, none⟩) d.next.length d.next.length) (.slice aa d.acc.length ca)), .obj bM (mapG str u8V M2 c2), .sl (some ⟨bN, 0, none⟩) d.next.length d.next.length 50 1 (S.map hdrJ)] ++ ((S.take s ++ S.drop (s + 1)).map rowJ ++ own)))
          (fun (s, S) => s ≤ d.next.length ∧ S.length = d.next.length ∧ S.map (·.2) = mixJ d.next.length seen col s) (fun (s, S) => d.next.length - s) (0, R) ?_ Sub.auto (supJ (s := 0) (R := R) [_, _, _, _] own (Nat.zero_le _)) ?_
        · exact ⟨Nat.zero_le _, hRl, by rw [mixJ_zero]; exact i4⟩
        rintro ⟨s, S⟩ ⟨s1, s2, s3⟩
        dsimp only [List.cons_append, List.nil_append] at s1 s2 s3 ⊢
        by_cases hs : s < d.next.length
        · obtain ⟨x, hx⟩ : ∃ x, S[s]? = some x := ⟨_, List.getElem?_eq_getElem (by omega)⟩
          have hxr : x.2 = seen.map fun c => (c[s]?.getD 0) - 1 := by
            have := mixJ_get seen col hs
            rw [← s3, List.getElem?_map, hx] at this
            exact Option.some.inj this
          have hcs := hcg s hs
          have hst := step_to ho (s : Int) hc
          generalize stepA d (s : Int) c = z at *
          have hms := mixJ_set seen col hs hcs
          have hbz := bang hcs
          have hbx := bang hx
          rw [hx]
          obtain ⟨⟨ra, rc⟩, rl⟩ := x
          simp only [Option.getD_some, rowJ] at hxr ⊢
          have hrl := intV_len rl
          have hrlen : rl.length = seen.length := by rw [hxr]; simp
          repeat (first | exact endA | refine wkT ?_ | refine opB (fun b => ?_) | refine opA (fun a' c' hc1 hc2 => ?_) | (apply GJ.and; exact rfl; intro hg) | (apply GJ.or; exact rfl; intro hg))
          refine Bs.mk ⟨[.sl a1 d.next.length c1 3 1 (intV col), .blk b 49 (autV (out ++ List.replicate (256 - c) 0) (.slice (some ⟨bN, 0, none⟩) d.next.length d.next.length) (.slice aa d.acc.length ca)), .sl (some ⟨bN, 0, none⟩) d.next.length d.next.length 50 1 (S.map hdrJ)], Sup.auto, ?_⟩
          repeat (first | exact endA | refine wkU ?_ | (show QOk _ _ _ _ _ _ _; refine QOk.build rfl rfl Nf.auto ?_) | (show GJ _ _ _ _ _ _ _; first | with_reducible refine GJ.neF ?_ | with_reducible refine GJ.neT ?_) | (show Br _ _ _; with_reducible refine Br.ne ?_) | refine opB (fun b => ?_) | refine opA (fun a' c' hc1 hc2 => ?_) | (apply GJ.and; exact rfl; intro hg) | (apply GJ.or; exact rfl; intro hg))
          rw [hbx]
          dsimp only [hdrJ]
          repeat (first | exact endA | refine wkU ?_ | (show QOk _ _ _ _ _ _ _; refine QOk.build rfl rfl Nf.auto ?_) | (show GJ _ _ _ _ _ _ _; first | with_reducible refine GJ.neF ?_ | with_reducible refine GJ.neT ?_) | (show Br _ _ _; with_reducible refine Br.ne ?_) | refine opB (fun b => ?_) | refine opA (fun a' c' hc1 hc2 => ?_) | (apply GJ.and; exact rfl; intro hg) | (apply GJ.or; exact rfl; intro hg))
          rw [hbz]
          refine ⟨⟨by omega, by omega⟩, ?_⟩
          repeat (first | exact endA | refine wkU ?_ | (show QOk _ _ _ _ _ _ _; refine QOk.build rfl rfl Nf.auto ?_) | (show GJ _ _ _ _ _ _ _; first | with_reducible refine GJ.neF ?_ | with_reducible refine GJ.neT ?_) | (show Br _ _ _; with_reducible refine Br.ne ?_) | refine opB (fun b => ?_) | refine opA (fun a' c' hc1 hc2 => ?_) | (apply GJ.and; exact rfl; intro hg) | (apply GJ.or; exact rfl; intro hg))
          rw [Int.toNat_natCast]
          refine OpOk.storeSl (k := s) rfl rfl rfl rfl (by rw [List.length_map, s2]; exact hs) ?_
          repeat (first | exact endA | refine wkU ?_ | (show QOk _ _ _ _ _ _ _; refine QOk.build rfl rfl Nf.auto ?_) | (show GJ _ _ _ _ _ _ _; first | with_reducible refine GJ.neF ?_ | with_reducible refine GJ.neT ?_) | (show Br _ _ _; with_reducible refine Br.ne ?_) | refine opB (fun b => ?_) | refine opA (fun a' c' hc1 hc2 => ?_) | (apply GJ.and; exact rfl; intro hg) | (apply GJ.or; exact rfl; intro hg))
          have e1 : rl.length + 1 = (rl ++ [z + 1 - 1]).length := by simp
          have e2 : intV rl ++ [.int .i64 (z + 1 - 1)] = intV (rl ++ [z + 1 - 1]) := by simp [intV]
          have e3 : (S.map hdrJ).set s (.slice a' (rl ++ [z + 1 - 1]).length c') = (S.set s ((a', c'), rl ++ [z + 1 - 1])).map hdrJ := by rw [List.map_set]; rfl
          rw [e1] at hc1 ⊢
          rw [e2, e3]
          repeat (first | exact endA | refine wkP ?_ | refine opB (fun b => ?_) | refine opA (fun a' c' hc1 hc2 => ?_) | (apply GJ.and; exact rfl; intro hg) | (apply GJ.or; exact rfl; intro hg))
          refine Wk.id ⟨(s + 1, S.set s ((a', c'), rl ++ [z + 1 - 1])), ⟨rfl, ?_⟩, ?_, Sub.auto, (supJn ((a', c'), rl ++ [z + 1 - 1]) [_, _, _, _] own (by omega))⟩
          all_goals try dsimp only
          · refine ⟨by omega, by rw [List.length_set, s2], ?_⟩
            rw [List.map_set, s3, ← hms, hxr]
          · omega
        · obtain rfl : s = d.next.length := by omega
          rw [mixJ_all] at s3
          have e : S.take d.next.length ++ S.drop (d.next.length + 1) = S := by rw [List.take_of_length_le (by omega), List.drop_eq_nil_of_le (by omega), List.append_nil]
          rw [e]
          repeat (first | exact endA | refine wkP ?_ | refine opB (fun b => ?_) | refine opA (fun a' c' hc1 hc2 => ?_) | (apply GJ.and; exact rfl; intro hg) | (apply GJ.or; exact rfl; intro hg))
          refine OpOk.storeAt rfl rfl rfl rfl (by rw [hsl]; simp; omega) ?_
          rw [hss]
          repeat (first | exact endA | refine wkP ?_ | refine opB (fun b => ?_) | refine opA (fun a' c' hc1 hc2 => ?_) | (apply GJ.and; exact rfl; intro hg) | (apply GJ.or; exact rfl; intro hg))
          repeat (first | exact endA | refine wkP ?_ | refine opB (fun b => ?_) | refine opA (fun a' c' hc1 hc2 => ?_) | (apply GJ.and; exact rfl; intro hg) | (apply GJ.or; exact rfl; intro hg))
          refine Wk.id ⟨(c + 1, out ++ [seen.length], seen ++ [col], M2, c2, S), ⟨rfl, ?_⟩, ?_, Sub.auto, Sup.auto⟩
          all_goals try dsimp only
          · exact ⟨by omega, hnew, hpush, s3⟩
          · omega
  · have hc6 : c = 256 := by omega
    subst hc6
    have hfin := i2.fin
    rw [show 256 - 256 = 0 from rfl, narL] at hfin
    have hC0 : out ++ List.replicate (256 - 256) 0 = out := by simp
    rw [hC0] at hCl ⊢
    repeat (first | exact endA | refine wkP ?_ | refine opB (fun b => ?_) | refine opA (fun a' c' hc1 hc2 => ?_) | (apply GJ.and; exact rfl; intro hg) | (apply GJ.or; exact rfl; intro hg))
    refine Wk.freezeL (l := .blk b 49 (autV out (.slice (some ⟨bN, 0, none⟩) d.next.length d.next.length) (.slice aa d.acc.length ca)) :: .sl (some ⟨bN, 0, none⟩) d.next.length d.next.length 50 1 (R.map hdrJ) :: R.map rowJ) (rest := .obj bM (mapG str u8V M cM) :: own) ?_ (fun ro2 hl2 hc2 => ?_)
    · refine (List.Perm.cons _ ?_)
      refine (List.Perm.swap _ _ _).trans (List.Perm.cons _ ?_)
      exact List.perm_middle.symm
    have hnar : narrowA d = ⟨out, rowsJ d.next.length seen, d.acc⟩ := by unfold narrowA; rw [← hfin]; rfl
    refine Wk.outS (Sup.drop _ (Sup.all _)) (.refl _) (hk ro2 b hl2 ?_)
    rw [hnar]
    refine ⟨⟨some ⟨bN, 0, none⟩, d.next.length, aa, ca, R.map hdrJ, ?_, hCl, ?_, fun i row hi => ?_, Rs.up hra⟩⟩
    · dsimp only
      rw [rowsJ_len]
      exact hc2 _ (List.mem_cons_self ..)
    · dsimp only
      rw [rowsJ_len]
      exact Rs.last (hc2 _ (List.mem_cons_of_mem _ (List.mem_cons_self ..)))
    · dsimp only at hi
      rw [← i4, List.getElem?_map] at hi
      obtain ⟨x, hx, rfl⟩ := Option.map_eq_some_iff.1 hi
      refine ⟨x.1.1, x.1.2, by rw [List.getElem?_map, hx]; rfl, ?_⟩
      exact Rs.last (t := 3) (hc2 (rowJ x) (List.mem_cons_of_mem _ (List.mem_cons_of_mem _ (List.mem_map_of_mem (List.mem_of_getElem? hx)))))
end
end Go.Proofs.YtinbmhbfcoiefaaGreatDoor
end
section
/- Contracts of dfa: Least. -/
namespace Go.Proofs.YtinbmhbfcoiefaaGreatDoor
open Go Go.E
set_option linter.unusedVariables false
set_option linter.unusedSimpArgs false
set_option maxRecDepth 10000
/-- A map that numbers groups, in the order in which their states are met. -/
structure OrdM (g : List Int) (order : List Nat) (M : List (Int × Nat × Nat)) : Prop where
  map : MapOk (fun _ => True) M
  at' : ∀ z, getG M z = order.findIdx? fun s => getI' g s == z
theorem OrdM.start (g : List Int) (c : Nat) : OrdM g [0] (putG [] c (getI' g 0) 0) := by
  refine ⟨MapOk.nil.put trivial c 0, fun z => ?_⟩
  rw [getG_putG, List.findIdx?_cons]
  by_cases e : z = getI' g 0
  · rw [if_pos e]; simp [e]
  · rw [if_neg e]
    have : (getI' g 0 == z) = false := by simpa using fun h => e h.symm
    rw [this]; rfl
theorem OrdM.push {g : List Int} {order : List Nat} {M : List (Int × Nat × Nat)} (h : OrdM g order M) {s : Nat} (hn : order.findIdx? (fun t => getI' g t == getI' g s) = none) (c : Nat) : OrdM g (order ++ [s]) (putG M c (getI' g s) order.length) := by
  refine ⟨h.map.put trivial c _, fun z => ?_⟩
  rw [getG_putG, List.findIdx?_append, List.findIdx?_cons]
  by_cases e : z = getI' g s
  · subst e
    rw [if_pos rfl, hn]; simp
  · rw [if_neg e, h.at' z]
    have : (getI' g s == z) = false := by simpa using fun h => e h.symm
    rw [this]
    cases order.findIdx? fun t => getI' g t == z <;> simp
theorem OrdI.step {w : Nat} {a : DfaA} {g : List Int} {order : List Nat} {next : List (List Int)} {acc : List Bool} {cur : Nat} {order2 : List Nat} {row2 : List Int} (h : OrdI a g w order next acc) (hcur : order[next.length]? = some cur) (hr : RowI a g cur w order order2 row2 256) : OrdI a g w order2 (next ++ [row2]) (acc ++ [getB a.acc cur]) := by
  obtain ⟨e, he⟩ := hr.pre
  have hlt := (List.getElem?_eq_some_iff.1 hcur).1
  have hold : ∀ (i t : Nat), order[i]? = some t → order2[i]? = some t := fun i t hi => by
    rw [he, List.getElem?_append_left (List.getElem?_eq_some_iff.1 hi).1, hi]
  have hold2 : ∀ (i t : Nat), i < order.length → order2[i]? = some t → order[i]? = some t := fun i t h1 hi => by
    rw [he, List.getElem?_append_left h1] at hi; exact hi
  have hsn : (next ++ [row2])[next.length]? = some row2 := snoc_new _ _
  refine ⟨hr.ord, ?_, by simp [h.alen], ?_, ?_, ?_, ?_⟩
  · rw [he]; simp; omega
  · intro s r cs hs hcs
    rcases snoc_get hs with ⟨h1, h2⟩ | ⟨h1, h2⟩
    · obtain ⟨q1, q2⟩ := h.row s r cs h2 (hold2 s cs (by have := h.nlen; omega) hcs)
      refine ⟨q1, fun c hc => ?_⟩
      rcases q2 c hc with q | ⟨i, t, q3, q4, q5⟩
      · exact .inl q
      · exact .inr ⟨i, t, q3, hold _ _ q4, q5⟩
    · subst h1; subst h2
      have hcc := hold2 _ _ hlt hcs
      rw [hcur] at hcc; cases hcc
      exact ⟨hr.len, fun c hc => hr.at' c hc⟩
  · intro s cs hs hcs
    rw [List.length_append, List.length_singleton] at hs
    by_cases e1 : s < next.length
    · exact snoc_old (h.acc s cs e1 (hold2 s cs (by have := h.nlen; omega) hcs))
    · have e2 : s = next.length := by omega
      subst e2
      have hcc := hold2 _ _ hlt hcs
      rw [hcur] at hcc; cases hcc
      rw [← h.alen]; exact snoc_new _ _
  · intro u h0 h1
    by_cases e1 : u < order.length
    · obtain ⟨s, c, r, q1, q2, q3, q4⟩ := h.met u h0 e1
      exact ⟨s, c, r, q1, q2, snoc_old q3, q4⟩
    · obtain ⟨d, hd, hrd⟩ := hr.new u (by omega) h1
      exact ⟨next.length, d, row2, by omega, hd, hsn, hrd⟩
  · intro s c r t hs hc ht u hu1 hu2
    rcases snoc_get hs with ⟨h1, h2⟩ | ⟨h1, h2⟩
    · obtain ⟨s2, c2, r2, q1, q2, q3, q4⟩ := h.first s c r t h2 hc ht u hu1 hu2
      exact ⟨s2, c2, r2, q1, q2, snoc_old q3, q4⟩
    · subst h1; subst h2
      by_cases e1 : u < order.length
      · obtain ⟨s, c3, r3, q1, q2, q3, q4⟩ := h.met u hu1 e1
        exact ⟨s, c3, r3, .inl (List.getElem?_eq_some_iff.1 q3).1, q2, snoc_old q3, q4⟩
      · obtain ⟨e, he1, he2⟩ := hr.first c t hc ht u (by omega) hu2
        exact ⟨next.length, e, r, .inr ⟨rfl, he1⟩, by omega, hsn, he2⟩
theorem Nf.self : ∀ l : List Value, Nf l l
  | [] => Nf.nil
  | x :: l => Nf.cons x (Nf.self l)
theorem freezeC {P : Program} {f : FuncId} {args : Array Value} {ro : Ro} {l own' own : Chs} {K : Value → Ro → Chs → Prop} (hp : own.Perm (l ++ own')) (h : ∀ ro', Le ro ro' → (∀ c ∈ l, c.holds ro') → CallOk P f args ro' own' K) : CallOk P f args ro own K :=
  ⟨fun w hw => by
    obtain ⟨r1, h1, h2, h3⟩ := Sat.freezeL (hw.perm hp)
    exact ((h r1 h1 h2).run w h3).mono fun v w' ⟨hh, ro2, own2, hl2, hs2, hk⟩ => ⟨hh, ro2, own2, h1.trans hl2, hs2, hk⟩⟩
/-- Rows that last, behind their headers. -/
structure RowsH (ro : Ro) (rows : List (List Int)) (H : List Value) : Prop where
  len : H.length = rows.length
  row : ∀ (i : Nat) (row : List Int), rows[i]? = some row → ∃ (ar : Option Addr) (cr : Nat), H[i]? = some (.slice ar row.length cr) ∧ Rs ro ar row.length cr 1 (row.map (Value.int .i64))
theorem RowsH.nil (ro : Ro) : RowsH ro [] [] := ⟨rfl, fun i row h => by simp at h⟩
theorem RowsH.le {ro ro' : Ro} {rows : List (List Int)} {H : List Value} (h : RowsH ro rows H) (hl : Le ro ro') : RowsH ro' rows H := ⟨h.len, fun i row hr => by
  obtain ⟨ar, cr, h1, h2⟩ := h.row i row hr
  exact ⟨ar, cr, h1, Rs.up h2⟩⟩
theorem RowsH.snoc {ro : Ro} {rows : List (List Int)} {H : List Value} (h : RowsH ro rows H) {row : List Int} {ar : Option Addr} {cr : Nat} (hr : Rs ro ar row.length cr 1 (row.map (Value.int .i64))) : RowsH ro (rows ++ [row]) (H ++ [.slice ar row.length cr]) := ⟨by simp [h.len], fun i x hx => by
  rcases snoc_get hx with ⟨h1, h2⟩ | ⟨h1, h2⟩
  · obtain ⟨a, c, p1, p2⟩ := h.row i x h2
    exact ⟨a, c, snoc_old p1, p2⟩
  · subst h1; subst h2
    exact ⟨ar, cr, by rw [← h.len]; exact snoc_new _ _, hr⟩⟩
section
variable {ro : Ro} {own r : Chs} {K : Value → Ro → Chs → Prop} {g : Chunk → Chs}
set_option maxHeartbeats 8000000 in
theorem dleast_ok {q w : Nat} {d : DfaA} (hD : DAt ro q d) (ho : DfaOk w d) (hs : SurA w d) (hw : w ≤ 256) (hp : 0 < d.next.length) (hn : d.next.length ≤ 1024)
    (hk : ∀ ro' p, Le ro ro' → DAt ro' p (leastA d) → K (ptr' p) ro' own) : CallOk Tryz.prog 14 #[ptr' q] ro own K := by
  obtain ⟨an, cn, aa, ca, hsv, hd⟩ := hD.rd
  have hN := hd.ldN
  have hA := hd.ldA
  have hrs := hd.rs
  have hra := hd.ra
  have hal := ho.acc
  have hcm := hrs.max
  have hcl := hrs.le
  unfold maxLen at hcm
  have hgf := (grp_fin ho hs).ok
  have hgl := hgf.len
  unfold leastA at hk
  rw [if_neg (by intro e; rw [e] at hp; cases hp)] at hk
  obtain ⟨gr, hgr⟩ : ∃ gr, gr = grpA d := ⟨_, rfl⟩
  rw [← hgr] at hk hgf hgl
  refine CallOk.intro (args := [_]) (rs := [_]) T_ok Tryz.func14 Tryz.call14 rfl rfl (by kernel_rfl) rfl rfl ?_
  repeat (first | exact endA | refine wkP ?_ | refine opB (fun b => ?_) | refine opA (fun a' c' hc1 hc2 => ?_) | (apply GJ.and; exact rfl; intro hg) | (apply GJ.or; exact rfl; intro hg))
  refine dlen_ok hD ?_
  repeat (first | exact endA | refine wkP ?_ | refine opB (fun b => ?_) | refine opA (fun a' c' hc1 hc2 => ?_) | (apply GJ.and; exact rfl; intro hg) | (apply GJ.or; exact rfl; intro hg))
  refine dgroups_ok hD ho hs (by omega) hw (fun ag cg g1 g2 => ?_)
  rw [← hgr]
  have hgI := intV_len gr
  obtain ⟨z0, hz0⟩ : ∃ z, gr[0]? = some z := ⟨_, List.getElem?_eq_getElem (by omega)⟩
  have hb0 := bang hz0
  have hb1 : gr[Int.toNat 0]! = z0 := hb0
  rw [getI_some hz0] at hk
  by_cases h0 : z0 = -1
  · rw [if_pos h0] at hk
    subst h0
    repeat (first | exact endA | refine wkP ?_ | refine opB (fun b => ?_) | refine opA (fun a' c' hc1 hc2 => ?_) | (apply GJ.and; exact rfl; intro hg) | (apply GJ.or; exact rfl; intro hg))
    refine Wk.freezeL (l := [_, _, _, _]) (.refl _) (fun ro2 hl2 hc2 => ?_)
    refine Wk.outS (Sup.drop _ (Sup.drop _ (Sup.all _))) (.refl _) (hk ro2 _ hl2 ?_)
    refine ⟨⟨_, _, _, _, _, hc2 _ (List.mem_cons_self ..), by simp [deadA], Rs.last (hc2 _ (List.mem_cons_of_mem _ (List.mem_cons_of_mem _ (List.mem_cons_self ..)))), fun i row hi => ?_, Rs.last (hc2 _ (List.mem_cons_of_mem _ (List.mem_cons_self ..)))⟩⟩
    cases i with
    | zero =>
      cases hi
      exact ⟨_, _, rfl, Rs.last (hc2 _ (List.mem_cons_of_mem _ (List.mem_cons_of_mem _ (List.mem_cons_of_mem _ (List.mem_cons_self ..)))))⟩
    | succ i => cases hi
  · rw [if_neg h0] at hk
    obtain ⟨Z, hZ⟩ : ∃ Z, Z = ordL d gr (d.next.length + 1) [0] [] [] := ⟨_, rfl⟩
    rw [← hZ] at hk
    have hl0 : LiveA d 0 := Classical.byContradiction fun hh => h0 (by rw [← getI_some hz0]; exact (hgf.dead 0 hp).2 hh)
    have hI0 : OrdI d gr w [0] [] [] := ⟨⟨rfl, (fun s hs => by rw [List.mem_singleton] at hs; rw [hs]; exact hp), (fun s hs => by rw [List.mem_singleton] at hs; rw [hs]; exact hl0), by simp⟩, by simp, rfl, (fun s r cur hs => by simp at hs), (fun s cur hs => by simp at hs), (fun u h0 h1 => by simp at h1; omega), fun s c r t hs => by simp at hs⟩
    have hM0 := OrdM.start gr
    rw [getI_some hz0] at hM0
    have hwd := width_is ho hp
    obtain ⟨C0, hC0⟩ : ∃ C : List Nat, C = List.replicate 256 0 := ⟨_, rfl⟩
    have hC0l : C0.length = 256 := by rw [hC0]; simp
    repeat (first | exact endA | refine wkP ?_ | refine opB (fun b => ?_) | refine opA (fun a' c' hc1 hc2 => ?_) | (apply GJ.and; exact rfl; intro hg) | (apply GJ.or; exact rfl; intro hg))
    obtain ⟨bO, hbO⟩ : ∃ z : Nat, z = b := ⟨_, rfl⟩
    subst hbO
    refine OpOk.makeMapG (kv := Value.int .i64) (vv := nV) (fun bM => ?_)
    repeat (first | exact endA | refine wkP ?_ | refine opB (fun b => ?_) | refine opA (fun a' c' hc1 hc2 => ?_) | (apply GJ.and; exact rfl; intro hg) | (apply GJ.or; exact rfl; intro hg))
    rw [hb1]
    refine OpOk.insertG (OpOk.mapUpdateG (kt := 3) (et := 3) (kv := Value.int .i64) (vv := nV) (k := z0) (v := 0) rfl rfl rfl (by kernel_rfl) (KeyEnc.int (by kernel_rfl)) MapOk.nil trivial (fun c1 => ?_))
    repeat (first | exact endA | refine wkP ?_ | refine opB (fun b => ?_) | refine opA (fun a' c' hc1 hc2 => ?_) | (apply GJ.and; exact rfl; intro hg) | (apply GJ.or; exact rfl; intro hg))
    refine LoopOk.auto (ι := (List Nat × Option Addr × Nat) × (List (List Int) × List Value × Option Addr × Nat) × (List Bool × Option Addr × Nat) × List (Int × Nat × Nat) × Nat) Keep.auto (fun ((order, ao, co), (nx, H, an2, cn2), (acc, aa2, ca2), M, cM) => [(7, .int .i64 (nx.length : Int)), (6, .slice ao order.length co)])
      (fun ((order, ao, co), (nx, H, an2, cn2), (acc, aa2, ca2), M, cM) => .sl ao order.length co 3 1 (natsV order) :: .obj bM (mapG (Value.int .i64) nV M cM) :: .blk bO 49 (autV C0 (.slice an2 nx.length cn2) (.slice aa2 acc.length ca2)) :: .sl an2 nx.length cn2 50 1 H :: .sl aa2 acc.length ca2 4 1 (boolsV acc) :: .sl ag d.next.length cg 3 1 (intV gr) :: own)
      (fun ((order, ao, co), (nx, H, an2, cn2), (acc, aa2, ca2), M, cM) ro2 => OrdI d gr w order nx acc ∧ ordL d gr (d.next.length + 1 - nx.length) order nx acc = Z ∧ OrdM gr order M ∧ RowsH ro2 nx H ∧ (order.length ≤ co ∧ co ≤ maxLen) ∧ (nx.length ≤ cn2 ∧ cn2 ≤ maxLen) ∧ (acc.length ≤ ca2 ∧ ca2 ≤ maxLen))
      (fun ((order, ao, co), (nx, H, an2, cn2), (acc, aa2, ca2), M, cM) => d.next.length - nx.length) (([0], some ⟨b, 0, none⟩, 1), ([], [], none, 0), ([], none, 0), _, _) ?_ Sub.auto (by subst hC0; exact Sup.auto) ?_
    · exact ⟨hI0, hZ.symm, hM0 0, RowsH.nil _, ⟨Nat.le_refl _, by unfold maxLen; decide⟩, ⟨Nat.le_refl _, Nat.zero_le _⟩, ⟨Nat.le_refl _, Nat.zero_le _⟩⟩
    rintro ⟨⟨order, ao, co⟩, ⟨nx, H, an2, cn2⟩, ⟨acc, aa2, ca2⟩, M, cM⟩ ro2 hl2 ⟨i1, i2, i3, i4, ⟨i5, i6⟩, ⟨i7, i8⟩, ⟨i9, i10⟩⟩
    dsimp only [List.cons_append, List.nil_append] at i1 i2 i3 i4 i5 i6 i7 i8 i9 i10 ⊢
    have hol := ord_len (w := w) i1.ord
    have hnl := i1.nlen
    have hacl := i1.alen
    have hHl := i4.len
    by_cases hlt : nx.length < order.length
    · obtain ⟨cur, hcur⟩ : ∃ cur, order[nx.length]? = some cur := ⟨_, List.getElem?_eq_getElem hlt⟩
      have hcn := i1.ord.lt cur (List.mem_of_getElem? hcur)
      have hbc := bang hcur
      obtain ⟨F, hF⟩ : ∃ F, d.next.length + 1 - nx.length = F + 1 := ⟨d.next.length - nx.length, by omega⟩
      rw [hF, ordL, hcur] at i2
      dsimp only at i2
      rw [hwd] at i2
      have hR0 : RowI d gr cur w order order (List.replicate w 0) 0 := ⟨⟨[], by simp⟩, by simp, i1.ord, fun d hd => by omega, fun i h1 h2 => by omega, fun d t hd => by omega⟩
      have hRf := fun k c o r (h : c + k ≤ 256) => rowO_ok (cur := cur) (base := order) (w := w) ho hgf k c o r h
      obtain ⟨R, hR⟩ : ∃ R, R = rowO d gr cur 256 0 order (List.replicate w 0) := ⟨_, rfl⟩
      rw [← hR] at i2
      repeat (first | exact endA | refine wkP ?_ | refine opB (fun b => ?_) | refine opA (fun a' c' hc1 hc2 => ?_) | (apply GJ.and; exact rfl; intro hg) | (apply GJ.or; exact rfl; intro hg))
      refine dwidth_ok (hD.le hl2) ?_
      rw [hwd]
      repeat (first | exact endA | refine wkP ?_ | refine opB (fun b => ?_) | refine opA (fun a' c' hc1 hc2 => ?_) | (apply GJ.and; exact rfl; intro hg) | (apply GJ.or; exact rfl; intro hg))
      rw [Int.toNat_natCast, intV_zero]
      obtain ⟨bR, hbR⟩ : ∃ z : Nat, z = b := ⟨_, rfl⟩
      subst hbR
      refine LoopOk.at (ι := Nat × (List Nat × Option Addr × Nat) × List Int × List (Int × Nat × Nat) × Nat) Keep.auto (fun (c, (order, ao, co), row, M, cM) => [(47, .int .i64 (c : Int)), (6, .slice ao order.length co)])
        (fun (c, (order, ao, co), row, M, cM) => .sl (some ⟨bR, 0, none⟩) w w 3 1 (intV row) :: .sl ao order.length co 3 1 (natsV order) :: .obj bM (mapG (Value.int .i64) nV M cM) :: .blk bO 49 (autV C0 (.slice an2 nx.length cn2) (.slice aa2 acc.length ca2)) :: .sl an2 nx.length cn2 50 1 H :: .sl aa2 acc.length ca2 4 1 (boolsV acc) :: .sl ag d.next.length cg 3 1 (intV gr) :: own)
        (fun (c, (order2, ao, co), row, M, cM) => c ≤ 256 ∧ RowI d gr cur w order order2 row c ∧ rowO d gr cur (256 - c) c order2 row = R ∧ OrdM gr order2 M ∧ (order2.length ≤ co ∧ co ≤ maxLen)) (fun (c, (order, ao, co), row, M, cM) => 256 - c) (0, (order, ao, co), List.replicate w 0, M, cM) ?_ Sub.auto Sup.auto ?_
      · exact ⟨Nat.zero_le _, hR0, hR.symm, i3, ⟨i5, i6⟩⟩
      clear i3 i5 i6
      rintro ⟨c, ⟨order2, ao2, co2⟩, row, M2, cM2⟩ ⟨c1, c2, c3, c4, ⟨c5, c6⟩⟩
      dsimp only [List.cons_append, List.nil_append] at c1 c2 c3 c4 c5 c6 ⊢
      obtain ⟨eo, heo⟩ := c2.pre
      have hlt2 : nx.length < order2.length := by rw [heo]; simp; omega
      have hcur2 : order2[nx.length]? = some cur := by rw [heo, List.getElem?_append_left hlt]; exact hcur
      have hbc2 := bang hcur2
      have hol2 := ord_len (w := w) c2.ord
      have hrl2 := c2.len
      have hiv2 := intV_len row
      by_cases hc : c < 256
      · obtain ⟨hcw, hcc⟩ := cls_lt ho hc
        have hC := hd.ldC c _ hcc
        have hst := hRf (0 + 1) c order2 row (by omega) c2
        rw [show 256 - c = (256 - (c + 1)) + 1 by omega, rowO] at c3
        rw [rowO] at hst
        obtain ⟨k', nrow, p1, p2, p3, p4⟩ := step_at ho hcn hc
        rw [hcc] at p1; cases p1
        obtain ⟨ar, cr, q1, q2⟩ := hd.rows cur nrow p3
        have hnw := ho.row nrow (List.mem_of_getElem? p3)
        have hzt := step_to ho (cur : Int) hc
        have hbn := bang p4
        generalize stepA d (cur : Int) c = z at *
        generalize clsA d c = kk at *
        have hrs2 := intV_len (row.set kk (-1))
        rw [List.length_set] at hrs2
        have hset : ∀ v : Int, (intV (row.set kk (-1))).set kk (.int .i64 v) = intV (row.set kk v) := fun v => by rw [intV_set, List.set_set]
        rcases hzt with hz | ⟨u, hz, hu⟩
        · have hgz : grpAt gr z = -1 := by rw [hz]; rfl
          rw [if_pos hgz] at c3 hst
          rw [rowO] at hst
          subst hz
          repeat (first | exact endA | refine wkP ?_ | refine opB (fun b => ?_) | refine opA (fun a' c' hc1 hc2 => ?_) | (apply GJ.and; exact rfl; intro hg) | (apply GJ.or; exact rfl; intro hg))
          refine OpOk.load rfl rfl (hC.ldE (by simp)) ?_
          repeat (first | exact endA | refine wkP ?_ | refine opB (fun b => ?_) | refine opA (fun a' c' hc1 hc2 => ?_) | (apply GJ.and; exact rfl; intro hg) | (apply GJ.or; exact rfl; intro hg))
          refine OpOk.storeSlAt' (k := kk) rfl rfl rfl rfl (by rw [Int.toNat_natCast]) (by omega) ?_
          rw [intV_set]
          repeat (first | exact endA | refine wkP ?_ | refine opB (fun b => ?_) | refine opA (fun a' c' hc1 hc2 => ?_) | (apply GJ.and; exact rfl; intro hg) | (apply GJ.or; exact rfl; intro hg))
          repeat (first | exact endA | refine wkU ?_ | (show QOk _ _ _ _ _ _ _; refine QOk.build rfl rfl Nf.auto ?_) | (show GJ _ _ _ _ _ _ _; first | with_reducible refine GJ.neF ?_ | with_reducible refine GJ.neT ?_) | (show Br _ _ _; with_reducible refine Br.ne ?_) | refine opB (fun b => ?_) | refine opA (fun a' c' hc1 hc2 => ?_) | (apply GJ.and; exact rfl; intro hg) | (apply GJ.or; exact rfl; intro hg))
          refine QOk.load rfl rfl (Go.E.Ld.rs hrs (by rw [hbc2, Int.toNat_natCast]; exact q1)) ?_
          repeat (first | exact endA | refine wkP ?_ | refine opB (fun b => ?_) | refine opA (fun a' c' hc1 hc2 => ?_) | (apply GJ.and; exact rfl; intro hg) | (apply GJ.or; exact rfl; intro hg))
          repeat (first | exact endA | refine wkP ?_ | refine opB (fun b => ?_) | refine opA (fun a' c' hc1 hc2 => ?_) | (apply GJ.and; exact rfl; intro hg) | (apply GJ.or; exact rfl; intro hg))
          refine Wk.id ⟨(c + 1, (order2, ao2, co2), row.set kk (-1), M2, cM2), ⟨rfl, ?_⟩, ?_, Sub.auto, Sup.auto⟩
          all_goals try dsimp only
          · exact ⟨by omega, hst, c3, c4, ⟨c5, c6⟩⟩
          · omega
        · subst hz
          obtain ⟨y, hy⟩ : ∃ y, gr[u]? = some y := ⟨_, List.getElem?_eq_getElem (by omega)⟩
          have hgz : grpAt gr (u : Int) = y := by unfold grpAt; rw [if_pos (by omega), Int.toNat_natCast, getI_some hy]
          have hby := bang hy
          have hby2 : gr[(nrow[((kk : Nat) : Int).toNat]!).toNat]! = y := by rw [hbn]; exact hby
          rw [hgz] at c3 hst
          by_cases hy1 : y = -1
          · rw [if_pos hy1] at c3 hst
            rw [rowO] at hst
            repeat (first | exact endA | refine wkP ?_ | refine opB (fun b => ?_) | refine opA (fun a' c' hc1 hc2 => ?_) | (apply GJ.and; exact rfl; intro hg) | (apply GJ.or; exact rfl; intro hg))
            refine OpOk.load rfl rfl (hC.ldE (by simp)) ?_
            repeat (first | exact endA | refine wkP ?_ | refine opB (fun b => ?_) | refine opA (fun a' c' hc1 hc2 => ?_) | (apply GJ.and; exact rfl; intro hg) | (apply GJ.or; exact rfl; intro hg))
            refine OpOk.storeSlAt' (k := kk) rfl rfl rfl rfl (by rw [Int.toNat_natCast]) (by omega) ?_
            rw [intV_set]
            repeat (first | exact endA | refine wkP ?_ | refine opB (fun b => ?_) | refine opA (fun a' c' hc1 hc2 => ?_) | (apply GJ.and; exact rfl; intro hg) | (apply GJ.or; exact rfl; intro hg))
            repeat (first | exact endA | refine wkU ?_ | (show QOk _ _ _ _ _ _ _; refine QOk.build rfl rfl Nf.auto ?_) | (show GJ _ _ _ _ _ _ _; first | with_reducible refine GJ.neF ?_ | with_reducible refine GJ.neT ?_) | (show Br _ _ _; with_reducible refine Br.ne ?_) | refine opB (fun b => ?_) | refine opA (fun a' c' hc1 hc2 => ?_) | (apply GJ.and; exact rfl; intro hg) | (apply GJ.or; exact rfl; intro hg))
            refine QOk.load rfl rfl (Go.E.Ld.rs hrs (by rw [hbc2, Int.toNat_natCast]; exact q1)) ?_
            repeat (first | exact endA | refine wkP ?_ | refine opB (fun b => ?_) | refine opA (fun a' c' hc1 hc2 => ?_) | (apply GJ.and; exact rfl; intro hg) | (apply GJ.or; exact rfl; intro hg))
            repeat (first | exact endA | refine wkP ?_ | refine opB (fun b => ?_) | refine opA (fun a' c' hc1 hc2 => ?_) | (apply GJ.and; exact rfl; intro hg) | (apply GJ.or; exact rfl; intro hg))
            refine Wk.id ⟨(c + 1, (order2, ao2, co2), row.set kk (-1), M2, cM2), ⟨rfl, ?_⟩, ?_, Sub.auto, Sup.auto⟩
            all_goals try dsimp only
            · exact ⟨by omega, hst, c3, c4, ⟨c5, c6⟩⟩
            · omega
          · rw [if_neg hy1] at c3 hst
            have hat := c4.at' y
            repeat (first | exact endA | refine wkP ?_ | refine opB (fun b => ?_) | refine opA (fun a' c' hc1 hc2 => ?_) | (apply GJ.and; exact rfl; intro hg) | (apply GJ.or; exact rfl; intro hg))
            refine OpOk.load rfl rfl (hC.ldE (by simp)) ?_
            repeat (first | exact endA | refine wkP ?_ | refine opB (fun b => ?_) | refine opA (fun a' c' hc1 hc2 => ?_) | (apply GJ.and; exact rfl; intro hg) | (apply GJ.or; exact rfl; intro hg))
            refine OpOk.storeSlAt' (k := kk) rfl rfl rfl rfl (by rw [Int.toNat_natCast]) (by omega) ?_
            rw [intV_set]
            repeat (first | exact endA | refine wkP ?_ | refine opB (fun b => ?_) | refine opA (fun a' c' hc1 hc2 => ?_) | (apply GJ.and; exact rfl; intro hg) | (apply GJ.or; exact rfl; intro hg))
            repeat (first | exact endA | refine wkU ?_ | (show QOk _ _ _ _ _ _ _; refine QOk.build rfl rfl Nf.auto ?_) | (show GJ _ _ _ _ _ _ _; first | with_reducible refine GJ.neF ?_ | with_reducible refine GJ.neT ?_) | (show Br _ _ _; with_reducible refine Br.ne ?_) | refine opB (fun b => ?_) | refine opA (fun a' c' hc1 hc2 => ?_) | (apply GJ.and; exact rfl; intro hg) | (apply GJ.or; exact rfl; intro hg))
            refine QOk.load rfl rfl (Go.E.Ld.rs hrs (by rw [hbc2, Int.toNat_natCast]; exact q1)) ?_
            repeat (first | exact endA | refine wkP ?_ | refine opB (fun b => ?_) | refine opA (fun a' c' hc1 hc2 => ?_) | (apply GJ.and; exact rfl; intro hg) | (apply GJ.or; exact rfl; intro hg))
            rw [hby2]
            refine OpOk.lookupOkG (kt := 3) (et := 3) (kv := Value.int .i64) (vv := nV) (k := y) (z := .int .i64 0) rfl rfl (by kernel_rfl) (KeyEnc.int (by kernel_rfl)) c4.map trivial (by kernel_rfl) ?_
            rw [hat]
            cases hidx : order2.findIdx? (fun s => getI' gr s == y) with
            | some m =>
              rw [hidx] at c3 hst
              dsimp only at c3 hst
              rw [rowO] at hst
              simp only [Option.map_some, Option.getD_some, Option.isSome_some, nV]
              repeat (first | exact endA | refine wkP ?_ | refine opB (fun b => ?_) | refine opA (fun a' c' hc1 hc2 => ?_) | (apply GJ.and; exact rfl; intro hg) | (apply GJ.or; exact rfl; intro hg))
              refine OpOk.storeSlAt' (k := kk) rfl rfl rfl rfl (by rw [Int.toNat_natCast]) (by omega) ?_
              rw [hset]
              repeat (first | exact endA | refine wkP ?_ | refine opB (fun b => ?_) | refine opA (fun a' c' hc1 hc2 => ?_) | (apply GJ.and; exact rfl; intro hg) | (apply GJ.or; exact rfl; intro hg))
              repeat (first | exact endA | refine wkP ?_ | refine opB (fun b => ?_) | refine opA (fun a' c' hc1 hc2 => ?_) | (apply GJ.and; exact rfl; intro hg) | (apply GJ.or; exact rfl; intro hg))
              refine Wk.id ⟨(c + 1, (order2, ao2, co2), row.set kk (m : Int), M2, cM2), ⟨rfl, ?_⟩, ?_, Sub.auto, Sup.auto⟩
              all_goals try dsimp only
              · exact ⟨by omega, hst, c3, c4, ⟨c5, c6⟩⟩
              · omega
            | none =>
              rw [hidx] at c3 hst
              dsimp only at c3 hst
              rw [rowO, Int.toNat_natCast] at hst
              rw [Int.toNat_natCast] at c3
              have hpu := c4.push (s := u) (by rw [getI_some hy]; exact hidx) cM2
              rw [getI_some hy] at hpu
              have hnat : natsV order2 ++ [.int .i64 (u : Int)] = natsV (order2 ++ [u]) := by simp [natsV]
              have hnl2 : order2.length + 1 = (order2 ++ [u]).length := by simp
              simp only [Option.map_none, Option.getD_none, Option.isSome_none]
              repeat (first | exact endA | refine wkP ?_ | refine opB (fun b => ?_) | refine opA (fun a' c' hc1 hc2 => ?_) | (apply GJ.and; exact rfl; intro hg) | (apply GJ.or; exact rfl; intro hg))
              rw [hby2]
              refine OpOk.mapUpdateG (kt := 3) (et := 3) (kv := Value.int .i64) (vv := nV) (k := y) (v := order2.length) rfl rfl rfl (by kernel_rfl) (KeyEnc.int (by kernel_rfl)) c4.map trivial (fun cM3 => ?_)
              generalize putG M2 cM2 y order2.length = M3 at *
              repeat (first | exact endA | refine wkP ?_ | refine opB (fun b => ?_) | refine opA (fun a' c' hc1 hc2 => ?_) | (apply GJ.and; exact rfl; intro hg) | (apply GJ.or; exact rfl; intro hg))
              rw [hbn, hnat, hnl2]
              rw [hnl2] at hc1
              refine OpOk.storeSlAt' (k := kk) rfl rfl rfl rfl (by rw [Int.toNat_natCast]) (by omega) ?_
              rw [hset]
              repeat (first | exact endA | refine wkP ?_ | refine opB (fun b => ?_) | refine opA (fun a' c' hc1 hc2 => ?_) | (apply GJ.and; exact rfl; intro hg) | (apply GJ.or; exact rfl; intro hg))
              repeat (first | exact endA | refine wkP ?_ | refine opB (fun b => ?_) | refine opA (fun a' c' hc1 hc2 => ?_) | (apply GJ.and; exact rfl; intro hg) | (apply GJ.or; exact rfl; intro hg))
              refine Wk.id ⟨(c + 1, (order2 ++ [u], a', c'), row.set kk (order2.length : Int), M3, cM3), ⟨rfl, ?_⟩, ?_, Sub.auto, Sup.auto⟩
              all_goals try dsimp only
              · exact ⟨by omega, hst, c3, hpu, ⟨hc1, hc2⟩⟩
              · omega
      · have hc6 : c = 256 := by omega
        subst hc6
        have hst := i1.step hcur c2
        rw [Nat.sub_self, rowO] at c3
        subst c3
        obtain ⟨pv, hpv⟩ : ∃ p, d.acc[cur]? = some p := ⟨_, List.getElem?_eq_getElem (by omega)⟩
        have hbp := bang hpv
        have hbp2 : d.acc[(order2[((nx.length : Nat) : Int).toNat]! : Int).toNat]! = pv := by rw [hbc2]; exact hbp
        have hacn : boolsV acc ++ [.bool pv] = boolsV (acc ++ [pv]) := by simp [boolsV]
        have hnn : nx.length + 1 = (nx ++ [row]).length := by simp
        have hnnI : (nx.length : Int) + 1 = ((nx ++ [row]).length : Int) := by simp
        have han : acc.length + 1 = (acc ++ [pv]).length := by simp
        rw [getB_some hpv] at hst i2
        dsimp only at i2
        repeat (first | exact endA | refine wkT ?_ | refine opB (fun b => ?_) | refine opA (fun a' c' hc1 hc2 => ?_) | (apply GJ.and; exact rfl; intro hg) | (apply GJ.or; exact rfl; intro hg))
        obtain ⟨aN, haN⟩ : ∃ z, z = a' := ⟨_, rfl⟩
        subst haN
        obtain ⟨cN, hcN⟩ : ∃ z, z = c' := ⟨_, rfl⟩
        subst hcN
        have hq1 := hc1
        have hq2 := hc2
        refine Bs.mk ⟨[.sl ao2 order2.length co2 3 1 (natsV order2), .blk bO 49 (autV C0 (.slice aN (nx.length + 1) cN) (.slice aa2 acc.length ca2))], Sup.auto, ?_⟩
        repeat (first | exact endA | refine wkU ?_ | (show QOk _ _ _ _ _ _ _; refine QOk.build rfl rfl Nf.auto ?_) | (show GJ _ _ _ _ _ _ _; first | with_reducible refine GJ.neF ?_ | with_reducible refine GJ.neT ?_) | (show Br _ _ _; with_reducible refine Br.ne ?_) | refine opB (fun b => ?_) | refine opA (fun a' c' hc1 hc2 => ?_) | (apply GJ.and; exact rfl; intro hg) | (apply GJ.or; exact rfl; intro hg))
        rw [hbp2, hacn, hnnI, hnn, han]
        rw [hnn] at hq1
        rw [han] at hc1
        repeat (first | exact endA | refine wkP ?_ | refine opB (fun b => ?_) | refine opA (fun a' c' hc1 hc2 => ?_) | (apply GJ.and; exact rfl; intro hg) | (apply GJ.or; exact rfl; intro hg))
        refine Wk.freeze (c := .sl (some ⟨bR, 0, none⟩) _ _ _ _ _) Take.auto (fun ro3 hl3 hc3 => ?_)
        have hrR : Rs ro3 (some ⟨bR, 0, none⟩) row.length w 1 (row.map (Value.int .i64)) := by rw [hrl2]; exact Rs.last hc3
        have hRH := (i4.le hl3).snoc hrR
        rw [hrl2] at hRH
        refine Wk.id ⟨((order2, ao2, co2), (nx ++ [row], H ++ [.slice (some ⟨bR, 0, none⟩) w w], aN, cN), (acc ++ [pv], a', c'), M2, cM2), ?_, ?_, Sub.auto, Sup.auto⟩
        all_goals try dsimp only
        · refine ⟨hst, ?_, c4, hRH, ⟨c5, c6⟩, ⟨hq1, hq2⟩, ⟨hc1, hc2⟩⟩
          rw [show d.next.length + 1 - (nx ++ [row]).length = F by simp; omega]
          exact i2
        · simp; omega
    · obtain ⟨F, hF⟩ : ∃ F, d.next.length + 1 - nx.length = F + 1 := ⟨d.next.length - nx.length, by omega⟩
      rw [hF, ordL, List.getElem?_eq_none (by omega)] at i2
      dsimp only at i2
      obtain ⟨q1, q2, q3⟩ := quot_ok ho hs (hgr ▸ grp_fin ho hs) i1 (by omega)
      have hlc : ∀ own', LdN ro2 own' q (0 + 0) (clsV d.cls) := fun own' => by
        have := LdN.part 0 256 (LdN.lastBlk (own := own') (hl2.le _ _ hd.row))
        rwa [List.drop_zero, show (autV d.cls (.slice an d.next.length cn) (.slice aa d.acc.length ca)).take 256 = clsV d.cls by unfold autV; rw [List.take_append_of_le_length (by rw [clsV_len, hd.c256]; exact Nat.le_refl _), List.take_of_length_le (by rw [clsV_len, hd.c256]; exact Nat.le_refl _)]] at this
      have hl6 : (clsV d.cls).length = 256 := by rw [clsV_len, hd.c256]
      have hone : (clsV d.cls).all (fun u => u.oneCell') = true := by rw [List.all_eq_true]; intro u hu; obtain ⟨c, _, rfl⟩ := List.mem_map.1 hu; rfl
      have hsp : Go.E.splice (autV C0 (.slice an2 nx.length cn2) (.slice aa2 acc.length ca2)) (0 + 0) (clsV d.cls) = autV d.cls (.slice an2 nx.length cn2) (.slice aa2 acc.length ca2) := by
        have e1 : (clsV C0).length = 256 := by rw [clsV_len, hC0l]
        unfold Go.E.splice autV
        rw [Nat.add_zero, List.take_zero, List.nil_append, Nat.zero_add, hl6, List.drop_append, e1, Nat.sub_self, List.drop_zero, List.drop_eq_nil_of_le (by omega), List.nil_append]
      repeat (first | exact endA | refine wkP ?_ | refine opB (fun b => ?_) | refine opA (fun a' c' hc1 hc2 => ?_) | (apply GJ.and; exact rfl; intro hg) | (apply GJ.or; exact rfl; intro hg))
      refine OpOk.loadRow rfl rfl (hlc _) hl6 ?_
      repeat (first | exact endA | refine wkP ?_ | refine opB (fun b => ?_) | refine opA (fun a' c' hc1 hc2 => ?_) | (apply GJ.and; exact rfl; intro hg) | (apply GJ.or; exact rfl; intro hg))
      refine OpOk.storePart rfl rfl rfl hl6 hone (by rw [autV_len hC0l]; omega) (cs' := autV d.cls (.slice an2 nx.length cn2) (.slice aa2 acc.length ca2)) (by rw [hsp]; exact Nf.self _) ?_
      repeat (first | exact endA | refine wkP ?_ | refine opB (fun b => ?_) | refine opA (fun a' c' hc1 hc2 => ?_) | (apply GJ.and; exact rfl; intro hg) | (apply GJ.or; exact rfl; intro hg))
      refine freezeC (l := [.blk bO 49 (autV d.cls (.slice an2 nx.length cn2) (.slice aa2 acc.length ca2)), .sl an2 nx.length cn2 50 1 H, .sl aa2 acc.length ca2 4 1 (boolsV acc)]) (own' := .sl ao order.length co 3 1 (natsV order) :: .obj bM (mapG (Value.int .i64) nV M cM) :: .sl ag d.next.length cg 3 1 (intV gr) :: own) ?_ (fun ro3 hl3 hc3 => ?_)
      · exact (List.perm_append_comm (l₁ := [_, _]) (l₂ := [_, _, _])).append_right _
      have hDt : DAt ro3 bO ⟨d.cls, nx, acc⟩ := ⟨⟨an2, cn2, aa2, ca2, H, hc3 _ (List.mem_cons_self ..), hd.c256, by rw [← hHl]; exact Rs.last (by rw [hHl]; exact hc3 _ (List.mem_cons_of_mem _ (List.mem_cons_self ..))), fun i row hi => (i4.le hl3).row i row hi, Rs.last (hc3 _ (List.mem_cons_of_mem _ (List.mem_cons_of_mem _ (List.mem_cons_self ..))))⟩⟩
      refine dnarrow_ok hDt q1 (by dsimp only; omega) (fun ro4 p4 hl4 hp4 => ?_)
      rw [← i2] at hk
      repeat (first | exact endA | refine wkP ?_ | refine opB (fun b => ?_) | refine opA (fun a' c' hc1 hc2 => ?_) | (apply GJ.and; exact rfl; intro hg) | (apply GJ.or; exact rfl; intro hg))
      exact Wk.outS Sup.auto (.refl _) (hk ro4 p4 ((hl2.trans hl3).trans hl4) hp4)
end
end Go.Proofs.YtinbmhbfcoiefaaGreatDoor
end
