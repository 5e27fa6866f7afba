/- Texts of a walk, one behind the other. -/
import Derived.ChangeKeysEq
import Derived.Tactics
import Derived.Tactics2
import Derived.Laws.Pointers
import Derived.RegionTactic
import Derived.RegionCalls
import Derived.ChangeAlike
import Derived.Test.YtinbmhbfcoiefaaGreatDoorMg3
import Derived.Test.YtinbmhbfcoiefaaGreatDoorMg4
import Derived.Test.YtinbmhbfcoiefaaGreatDoorMg6
import Derived.Test.YtinbmhbfcoiefaaGreatDoorMg8
import Derived.Test.YtinbmhbfcoiefaaGreatDoorMg9
section
/- Contracts of dfa: Make. -/
namespace Go.Proofs.YtinbmhbfcoiefaaGreatDoor
open Go Go.E
set_option linter.unusedVariables false
set_option linter.unusedSimpArgs false
set_option maxRecDepth 10000
/-- The classes of the bytes, where the pieces up to one are told. -/
def clsU (P : List SetD) (i : Nat) : List Nat := (List.range 256).map fun c => ((P.take i).findIdx? fun p => p.has c).getD 0
theorem clsU_zero (P : List SetD) : clsU P 0 = List.replicate 256 0 := by
  apply List.ext_getElem?
  intro c
  unfold clsU
  rw [List.getElem?_map, List.getElem?_replicate]
  by_cases h : c < 256
  · rw [List.getElem?_range h, if_pos h]; rfl
  · rw [List.getElem?_eq_none (by simp; omega), if_neg h]; rfl
theorem clsU_all (P : List SetD) : clsU P P.length = clsG P := by unfold clsU clsG; rw [List.take_length]
theorem clsU_len (P : List SetD) (i : Nat) : (clsU P i).length = 256 := by simp [clsU]
theorem clsU_get (P : List SetD) (i : Nat) {c : Nat} (h : c < 256) : (clsU P i)[c]? = some (((P.take i).findIdx? fun p => p.has c).getD 0) := by
  unfold clsU; rw [List.getElem?_map, List.getElem?_range h]; rfl
/-- What holds while a piece's bytes are told. -/
structure ClsP (P : List SetD) (i : Nat) (pre : List Nat) (C : List Nat) : Prop where
  len : C.length = 256
  at' : ∀ c, c < 256 → C[c]? = some (if c ∈ pre then i else ((P.take i).findIdx? fun p => p.has c).getD 0)
theorem ClsP.start (P : List SetD) (i : Nat) : ClsP P i [] (clsU P i) := ⟨clsU_len P i, fun c hc => by rw [clsU_get P i hc, if_neg (by simp)]⟩
theorem ClsP.step {P : List SetD} {i : Nat} {pre C : List Nat} (h : ClsP P i pre C) {x : Nat} (hx : x < 256) : ClsP P i (pre ++ [x]) (C.set x i) := by
  refine ⟨by rw [List.length_set, h.len], fun c hc => ?_⟩
  by_cases e : c = x
  · subst e; rw [List.getElem?_set_self (by rw [h.len]; exact hc), if_pos (by simp)]
  · rw [List.getElem?_set_ne (fun h => e h.symm), h.at' c hc]
    congr 1
    by_cases hm : c ∈ pre
    · rw [if_pos hm, if_pos (by simp [hm])]
    · rw [if_neg hm, if_neg (by simp [hm, e])]
theorem ClsP.fin {P l : List SetD} (hcut : Cuts P l) {i : Nat} {p : SetD} (hp : P[i]? = some p) {C : List Nat} (h : ClsP P i (bytesD p) C) : C = clsU P (i + 1) := by
  apply List.ext_getElem?
  intro c
  by_cases hc : c < 256
  · rw [h.at' c hc, clsU_get P _ hc, List.take_add_one, hp, Option.toList_some, List.findIdx?_append, List.findIdx?_cons]
    congr 1
    have hmem : c ∈ bytesD p ↔ p.has c = true := by unfold bytesD; rw [List.mem_filter, List.mem_range]; exact ⟨fun h => h.2, fun h => ⟨hc, h⟩⟩
    have hi := (List.getElem?_eq_some_iff.1 hp).1
    by_cases hh : p.has c = true
    · have hnone : (P.take i).findIdx? (fun p => p.has c) = none := by
        rw [List.findIdx?_eq_none_iff]
        intro q hq
        obtain ⟨j, hj, e⟩ := List.getElem_of_mem hq
        rw [List.length_take] at hj
        have hjq : P[j]? = some q := by rw [List.getElem_take] at e; rw [List.getElem?_eq_getElem (by omega), e]
        have := (hcut.at (show j < i by omega) hjq hp).2 c hc
        cases e2 : q.has c with
        | false => rfl
        | true => exact absurd ⟨e2, hh⟩ this
      rw [if_pos (hmem.2 hh), hnone, hh]
      simp; omega
    · rw [if_neg (fun h => hh (hmem.1 h)), Bool.eq_false_iff.2 hh]
      cases (P.take i).findIdx? fun p => p.has c <;> rfl
  · rw [List.getElem?_eq_none (by rw [h.len]; omega), List.getElem?_eq_none (by rw [clsU_len]; omega)]
/-! Sets of states as keys. -/
theorem ints_inj {a b : List Nat} (h : intsN a = intsN b) : a = b := by
  unfold intsN at h
  exact List.map_inj_right (fun x y e => Int.ofNat.inj e) |>.1 h
theorem ints_idx (sets : List (List Nat)) (t : List Nat) : (sets.map intsN).idxOf? (intsN t) = sets.idxOf? t := by
  unfold List.idxOf?
  rw [List.findIdx?_map]
  congr 1
  funext x
  show (intsN x == intsN t) = (x == t)
  rw [Bool.eq_iff_iff, beq_iff_eq, beq_iff_eq]
  exact ⟨ints_inj, fun e => by rw [e]⟩
/-- A set of states as a step tells it. -/
def SetN (n : Nat) (t : List Nat) : Prop := t.Pairwise (· < ·) ∧ ∀ x ∈ t, x < n
theorem SetN.len {n : Nat} {t : List Nat} (h : SetN n t) : t.length ≤ n := sorted_len t 0 n h.1 (fun x hx => ⟨Nat.zero_le _, h.2 x hx⟩)
theorem SetN.adm {n : Nat} {t : List Nat} (h : SetN n t) (hn : n ≤ 4096) : AdmK (intsN t) := fun z hz => by
  obtain ⟨x, hx, rfl⟩ := List.mem_map.1 hz
  have := h.2 x hx
  exact ⟨Int.natCast_nonneg _, by show (x : Int) < _; omega⟩
theorem step_set (rows : RowsN) (list : List Int) (c : Nat) : SetN rows.length (stepN rows list c) := ⟨reach_sorted _ _, fun x hx => reach_lt hx⟩
theorem start_set (rows : RowsN) : SetN rows.length (startN rows) := ⟨start_sorted rows, fun x hx => start_lt hx⟩
/-- Sets that last, behind their headers. -/
structure SetsH (ro : Ro) (sets : List (List Nat)) (H : List Value) : Prop where
  len : H.length = sets.length
  row : ∀ (i : Nat) (t : List Nat), sets[i]? = some t → ∃ (ar : Option Addr) (cr : Nat), H[i]? = some (.slice ar t.length cr) ∧ Rs ro ar t.length cr 1 (natsV t)
theorem SetsH.nil (ro : Ro) : SetsH ro [] [] := ⟨rfl, fun i row h => by simp at h⟩
theorem SetsH.le {ro ro' : Ro} {sets : List (List Nat)} {H : List Value} (h : SetsH ro sets H) (hl : Le ro ro') : SetsH ro' sets H := ⟨h.len, fun i row hr => by
  obtain ⟨ar, cr, h1, h2⟩ := h.row i row hr
  exact ⟨ar, cr, h1, Rs.up h2⟩⟩
theorem SetsH.snoc {ro : Ro} {sets : List (List Nat)} {H : List Value} (h : SetsH ro sets H) {t : List Nat} {ar : Option Addr} {cr : Nat} (hr : Rs ro ar t.length cr 1 (natsV t)) : SetsH ro (sets ++ [t]) (H ++ [.slice ar t.length cr]) := ⟨by simp [h.len], fun i x hx => by
  rcases snoc_get hx with ⟨h1, h2⟩ | ⟨h1, h2⟩
  · obtain ⟨a, c, p1, p2⟩ := h.row i x h2
    exact ⟨a, c, snoc_old p1, p2⟩
  · subst h1; subst h2
    exact ⟨ar, cr, by rw [← h.len]; exact snoc_new _ _, hr⟩⟩
theorem firstC_of {p : SetD} {c : Nat} (hc : c < 256) (h1 : p.has c = true) (h2 : ∀ j, j < c → p.has j = false) : firstC p = c := by
  refine firstC_is ?_
  unfold SetD.firstIs
  rw [beq_iff_eq, List.find?_range_eq_some]
  exact ⟨h1, List.mem_range.2 hc, fun j hj => by simpa using h2 j hj⟩
section
variable {ro : Ro} {own r : Chs} {K : Value → Ro → Chs → Prop} {g : Chunk → Chs}
theorem rowsJ_snoc (R : List RowJ) (y : RowJ) (r : Chs) : (rowJ y :: (R.map rowJ ++ r)).Perm ((R ++ [y]).map rowJ ++ r) := by
  rw [List.map_append, List.append_assoc]
  exact List.perm_middle.symm
set_option maxHeartbeats 16000000 in
theorem dmake0_ok {a : NfaD} {v : List Value} (hv : AutoOk ro a v) (hK : AutoK a) (ht : TabOk ro) (hsl : (setsN a.rows).length ≤ 1000)
    (hk1 : (makeA a).1 ≠ 0 → K (.tuple #[.pointer none, .int .i64 ((makeA a).1 : Int)]) ro own)
    (hk2 : (makeA a).1 = 0 → ∀ (p : Nat) (an : Option Addr) (cn : Nat) (aa : Option Addr) (ca : Nat) (R : List RowJ), R.map (·.2) = (makeA a).2.next →
      K (.tuple #[ptr' p, .int .i64 0]) ro (.blk p 49 (autV (makeA a).2.cls (.slice an R.length cn) (.slice aa (makeA a).2.acc.length ca)) :: .sl an R.length cn 50 1 (R.map hdrJ) :: .sl aa (makeA a).2.acc.length ca 4 1 (boolsV (makeA a).2.acc) :: (R.map rowJ ++ own))) :
    CallOk Tryz.prog 26 #[.agg v.toArray] ro own K := by
  have hv0 := hv
  obtain ⟨ad, cp, hs, rfl, hrs, hrw⟩ := hv
  have hle := hK.ok.le
  have hmr := hrs.max
  have hncr := hrs.le
  unfold maxLen at hmr
  obtain ⟨P, hP⟩ : ∃ P, P = piecesG a := ⟨_, rfl⟩
  have hcut : Cuts P (setsN a.rows) := by rw [hP]; exact splitD_cuts hK.sets
  have hpl := hcut.len
  unfold makeA at hk1 hk2
  rw [← hP] at hk1 hk2
  refine CallOk.introM (args := [_]) (rs := [_, _]) T_ok Tryz.func26 Tryz.call26 rfl rfl (by kernel_rfl) rfl ?_
  repeat (first | exact endA | refine wkP ?_ | refine opB (fun b => ?_) | refine opA (fun a' c' hc1 hc2 => ?_) | (apply GJ.and; exact rfl; intro hg) | (apply GJ.or; exact rfl; intro hg))
  refine nlen_ok hv0 ?_
  by_cases h0 : a.rows.length = 0
  · have hn : a.rows = [] := List.eq_nil_of_length_eq_zero h0
    rw [if_pos hn] at hk1
    repeat (first | exact endA | refine wkP ?_ | refine opB (fun b => ?_) | refine opA (fun a' c' hc1 hc2 => ?_) | (apply GJ.and; exact rfl; intro hg) | (apply GJ.or; exact rfl; intro hg))
    exact Wk.own own Sup.auto (Wk.id (hk1 (by decide)))
  · rw [if_neg (fun e => h0 (by rw [e]; rfl))] at hk1 hk2
    obtain ⟨C0, hC0⟩ : ∃ C : List Nat, C = List.replicate 256 0 := ⟨_, rfl⟩
    repeat (first | exact endA | refine wkP ?_ | refine opB (fun b => ?_) | refine opA (fun a' c' hc1 hc2 => ?_) | (apply GJ.and; exact rfl; intro hg) | (apply GJ.or; exact rfl; intro hg))
    obtain ⟨b4, hb4⟩ : ∃ z : Nat, z = b := ⟨_, rfl⟩
    subst hb4
    rename_i bA
    obtain ⟨bO, hbO⟩ : ∃ z : Nat, z = b := ⟨_, rfl⟩
    subst hbO
    refine nsets_ok hv0 hK (fun aS cS z1 z2 => ?_)
    repeat (first | exact endA | refine wkP ?_ | refine opB (fun b => ?_) | refine opA (fun a' c' hc1 hc2 => ?_) | (apply GJ.and; exact rfl; intro hg) | (apply GJ.or; exact rfl; intro hg))
    refine split_ok ht hK.sets hsl (Rds.hasSl z1 z2 (setsV_len _)) (fun ap cq p1 p2 => ?_)
    have hcls := clsU_all P
    rw [show splitD (setsN a.rows) = P from hP.symm] at p1 ⊢
    have hps := fun i (p : SetD) (h : P[i]? = some p) => setsV_drop P i p h
    have hpvl := setsV_len P
    have p3 := p2
    unfold maxLen at p3
    obtain ⟨AV, hAV⟩ : ∃ A : List Value, A = [Value.slice ad a.rows.length cp, .int .i64 a.last] := ⟨_, rfl⟩
    repeat (first | exact endA | refine wkP ?_ | refine opB (fun b => ?_) | refine opA (fun a' c' hc1 hc2 => ?_) | (apply GJ.and; exact rfl; intro hg) | (apply GJ.or; exact rfl; intro hg))
    refine LoopOk.auto (ι := Nat) Keep.auto (fun i => [(30, .int .i64 (i : Int))])
      (fun i => .sl ap P.length cq 116 4 (setsV P) :: .blk b4 29 [.pointer (some ⟨bO, 0, none⟩)] :: .blk bO 49 (autV (clsU P i) (.slice none 0 0) (.slice none 0 0)) :: .blk bA 68 [.slice ad a.rows.length cp, .int .i64 a.last] :: own)
      (fun i ro2 => i ≤ P.length) (fun i => P.length - i) 0 ?_ Sub.auto (by rw [clsU_zero]; exact Sup.auto) ?_
    · exact Nat.zero_le _
    rintro i ro2 hl2 i1
    dsimp only [List.cons_append, List.nil_append] at i1 ⊢
    have hUl := clsU_len P i
    by_cases hi : i < P.length
    · obtain ⟨p, hp⟩ : ∃ p, P[i]? = some p := ⟨_, List.getElem?_eq_getElem hi⟩
      have hpe := hcut.each p (List.mem_of_getElem? hp)
      have hdr := hps i p hp
      have hstart := ClsP.start P i
      have hfin := fun C (h : ClsP P i (bytesD p) C) => ClsP.fin hcut hp h
      obtain ⟨w1, w2, w3, w4⟩ := p
      repeat (first | exact endA | refine wkP ?_ | refine opB (fun b => ?_) | refine opA (fun a' c' hc1 hc2 => ?_) | (apply GJ.and; exact rfl; intro hg) | (apply GJ.or; exact rfl; intro hg))
      rw [Int.toNat_natCast]
      refine OpOk.loadRow rfl rfl (LdN.slRow hdr) rfl ?_
      repeat (first | exact endA | refine wkP ?_ | refine opB (fun b => ?_) | refine opA (fun a' c' hc1 hc2 => ?_) | (apply GJ.and; exact rfl; intro hg) | (apply GJ.or; exact rfl; intro hg))
      rename_i b6
      refine CodeOk.rangeFuncR (T := T) (α := Nat) (ps := [_]) (bs := [_]) (encs := fun c => [.int .u8 (c : Int)]) rfl Tryz.call49 (each_iter (s := ⟨w1, w2, w3, w4⟩) hpe.1) (fun _ => rfl) rfl (ι := List Nat × List Nat) (κ := Empty)
        (fun (pre, C) => .blk b6 3 [.int .i64 (i : Int)] :: .sl ap P.length cq 116 4 (setsV P) :: .blk b4 29 [.pointer (some ⟨bO, 0, none⟩)] :: .blk bO 49 (autV C (.slice none 0 0) (.slice none 0 0)) :: .blk bA 68 [.slice ad a.rows.length cp, .int .i64 a.last] :: own)
        (fun pre (q, C) => q = pre ∧ ClsP P i pre C) (fun e => e.elim) (fun _ e => e.elim) (fun x => [(8, .int .u8 (x : Int)), (6, .pointer (some ⟨b6, 0, none⟩)), (4, .pointer (some ⟨b4, 0, none⟩))]) ([], clsU P i) ⟨rfl, hstart⟩ Sup.auto ?_ ?_ ?_ (fun _ e => e.elim)
      · intro x own' ro' hl
        repeat (first | exact endA | refine wkT ?_ | refine opB (fun b => ?_) | refine opA (fun a' c' hc1 hc2 => ?_) | (apply GJ.and; exact rfl; intro hg) | (apply GJ.or; exact rfl; intro hg))
        exact ⟨(by repeat (first | exact trivial | refine Sub.cons rfl ?_)), Sup.all _⟩
      · rintro pre x rest ⟨q, C⟩ ro' hl hx ⟨rfl, h1⟩
        have hx6 : x < 256 := bytesD_lt (s := ⟨w1, w2, w3, w4⟩) (by rw [hx]; simp)
        have hCl := h1.len
        have hst := h1.step hx6
        dsimp only
        refine CodeRR.block ?_
        refine CodeRR.drawn NfT.auto rfl (by kernel_rfl) (by rfl) (by rfl) (by kernel_rfl) ?_
        repeat (first | exact endA | refine wkT ?_ | refine opB (fun b => ?_) | refine opA (fun a' c' hc1 hc2 => ?_) | (apply GJ.and; exact rfl; intro hg) | (apply GJ.or; exact rfl; intro hg))
        refine OpOk.storeAt rfl rfl rfl rfl (by rw [autV_len hCl]; simp; omega) ?_
        rw [show (i : Int) % 256 = (i : Int) by omega, show 0 + 0 + ((x : Nat) : Int).toNat * 1 = x by simp, aut_set (by omega)]
        repeat (first | exact endA | refine wkT ?_ | refine opB (fun b => ?_) | refine opA (fun a' c' hc1 hc2 => ?_) | (apply GJ.and; exact rfl; intro hg) | (apply GJ.or; exact rfl; intro hg))
        exact Wk.id ⟨(q ++ [x], C.set x i), ⟨rfl, hst⟩, Sup.auto⟩
      · rintro ⟨q, C⟩ ro' hl ⟨rfl, h1⟩
        have := hfin C h1
        subst this
        dsimp only
        repeat (first | exact endA | refine wkP ?_ | refine opB (fun b => ?_) | refine opA (fun a' c' hc1 hc2 => ?_) | (apply GJ.and; exact rfl; intro hg) | (apply GJ.or; exact rfl; intro hg))
        refine Wk.id ⟨i + 1, ?_, ?_, Sub.auto, Sup.auto⟩
        all_goals try dsimp only
        · omega
        · omega
    · obtain rfl : i = P.length := by omega
      rw [hcls]
      repeat (first | exact endA | refine wkP ?_ | refine opB (fun b => ?_) | refine opA (fun a' c' hc1 hc2 => ?_) | (apply GJ.and; exact rfl; intro hg) | (apply GJ.or; exact rfl; intro hg))
      have hv2 := hv0.le hl2
      refine nstart_ok hv2 hK.ok (fun aT cT y1 y2 => ?_)
      have hss := start_set a.rows
      obtain ⟨T0, hT0⟩ : ∃ T0, T0 = startN a.rows := ⟨_, rfl⟩
      rw [← hT0] at hss y1 hk1 hk2 ⊢
      have hTl := hss.len
      have hTa := hss.adm (by omega)
      have hTk := ints_nats T0
      have hnat : (intsN T0).map (Value.int .i64) = natsV T0 := hTk
      have hil := ints_len T0
      repeat (first | exact endA | refine wkP ?_ | refine opB (fun b => ?_) | refine opA (fun a' c' hc1 hc2 => ?_) | (apply GJ.and; exact rfl; intro hg) | (apply GJ.or; exact rfl; intro hg))
      refine OpOk.makeMapG (kv := str) (vv := nV) (fun bM => ?_)
      repeat (first | exact endA | refine wkP ?_ | refine opB (fun b => ?_) | refine opA (fun a' c' hc1 hc2 => ?_) | (apply GJ.and; exact rfl; intro hg) | (apply GJ.or; exact rfl; intro hg))
      refine OpOk.load rfl rfl (Ld.slAt' (k := 0) rfl rfl) ?_
      repeat (first | exact endA | refine wkP ?_ | refine opB (fun b => ?_) | refine opA (fun a' c' hc1 hc2 => ?_) | (apply GJ.and; exact rfl; intro hg) | (apply GJ.or; exact rfl; intro hg))
      refine CallOk.freeze (c := .sl aT _ _ _ _ _) Take.auto (fun ro3 hl3 hc3 => ?_)
      have hrT : Rs ro3 aT T0.length cT 1 (natsV T0) := Rs.last hc3
      refine key_ok (l := intsN T0) (by rw [hnat]; exact hrT.rds) hil (by omega) hTa ?_
      repeat (first | exact endA | refine wkP ?_ | refine opB (fun b => ?_) | refine opA (fun a' c' hc1 hc2 => ?_) | (apply GJ.and; exact rfl; intro hg) | (apply GJ.or; exact rfl; intro hg))
      refine OpOk.insertG (OpOk.mapUpdateG (kt := 9) (et := 3) (kv := str) (vv := nV) (k := keyT (intsN T0)) (v := 0) rfl rfl rfl (by kernel_rfl) (KeyEnc.text (by kernel_rfl)) MapOk.nil (by rw [keyT_len, hil]; unfold maxLen; omega) (fun c1 => ?_))
      have hM0 := (KeyM.nil 4096).push (by decide) hTa (by omega) rfl 0
      have hT1 : [].idxOf? (intsN T0) = none := rfl
      obtain ⟨Zo, hZo⟩ : ∃ Z, Z = subG a P 1025 [T0] [] [] := ⟨_, rfl⟩
      rw [← hZo] at hk1 hk2
      have hH0 : SetsH ro3 [T0] [.slice aT T0.length cT] := (SetsH.nil ro3).snoc hrT
      obtain ⟨bS, hbS⟩ : ∃ z : Nat, z = b := ⟨_, rfl⟩
      subst hbS
      obtain ⟨CP, hCP⟩ : ∃ C, C = clsG P := ⟨_, rfl⟩
      have hCPl : CP.length = 256 := by rw [hCP, cls_len]
      repeat (first | exact endA | refine wkP ?_ | refine opB (fun b => ?_) | refine opA (fun a' c' hc1 hc2 => ?_) | (apply GJ.and; exact rfl; intro hg) | (apply GJ.or; exact rfl; intro hg))
      refine LoopOk.auto (ι := (List (List Nat) × Option Addr × Nat × List Value) × (List RowJ × Option Addr × Nat) × (List Bool × Option Addr × Nat) × List (List UInt8 × Nat × Nat) × Nat) Keep.auto (fun ((sets, aH, cH, HS), (R, an, cn), (acc, aa, ca), M, cM) => [(11, .int .i64 (R.length : Int)), (9, .slice aH sets.length cH)])
        (fun ((sets, aH, cH, HS), (R, an, cn), (acc, aa, ca), M, cM) => .sl aH sets.length cH 50 1 HS :: .obj bM (mapG str nV M cM) :: .sl ap P.length cq 116 4 (setsV P) :: .blk b4 29 [.pointer (some ⟨bO, 0, none⟩)] :: .blk bO 49 (autV (CP) (.slice an R.length cn) (.slice aa acc.length ca)) :: .blk bA 68 [.slice ad a.rows.length cp, .int .i64 a.last] :: .sl an R.length cn 50 1 (R.map hdrJ) :: .sl aa acc.length ca 4 1 (boolsV acc) :: (R.map rowJ ++ own))
        (fun ((sets, aH, cH, HS), (R, an, cn), (acc, aa, ca), M, cM) ro2 => SetsH ro2 sets HS ∧ (∀ t ∈ sets, SetN a.rows.length t) ∧ sets.length ≤ 1024 ∧ KeyM 4096 (sets.map intsN) M ∧ (R.length ≤ sets.length ∧ acc.length = R.length) ∧ subG a P (1025 - R.length) sets (R.map (·.2)) acc = Zo ∧ (sets.length ≤ cH ∧ cH ≤ maxLen) ∧ (R.length ≤ cn ∧ cn ≤ maxLen) ∧ (acc.length ≤ ca ∧ ca ≤ maxLen))
        (fun ((sets, aH, cH, HS), (R, an, cn), (acc, aa, ca), M, cM) => 1025 - R.length) (([T0], some ⟨bS, 0, none⟩, 1, [.slice aT T0.length cT]), ([], none, 0), ([], none, 0), _, _) ?_ Sub.auto (by rw [hCP]; exact Sup.auto) ?_
      · exact ⟨hH0, (fun t ht => by rw [List.mem_singleton] at ht; rw [ht]; exact hss), (by simp), hM0, ⟨Nat.zero_le _, rfl⟩, hZo.symm, ⟨Nat.le_refl _, by unfold maxLen; decide⟩, ⟨Nat.le_refl _, Nat.zero_le _⟩, ⟨Nat.le_refl _, Nat.zero_le _⟩⟩
      clear hM0 hH0 hT1
      rintro ⟨⟨sets, aH, cH, HS⟩, ⟨R, an, cn⟩, ⟨acc, aa, ca⟩, M, cM⟩ ro4 hl4 ⟨j1, j2, j3, j4, ⟨j5, j6⟩, j7, ⟨j8, j9⟩, ⟨j10, j11⟩, ⟨j12, j13⟩⟩
      dsimp only [List.cons_append, List.nil_append] at j1 j2 j3 j4 j5 j6 j7 j8 j9 j10 j11 j12 j13 ⊢
      have hHl := j1.len
      have hRh : (R.map hdrJ).length = R.length := List.length_map _
      have hRm : (R.map (·.2)).length = R.length := List.length_map _
      obtain ⟨F, hF⟩ : ∃ F, 1025 - R.length = F + 1 := ⟨1024 - R.length, by omega⟩
      by_cases hlt : R.length < sets.length
      · obtain ⟨cur, hcur⟩ : ∃ cur, sets[R.length]? = some cur := ⟨_, List.getElem?_eq_getElem hlt⟩
        rw [hF, subG, hRm, hcur] at j7
        dsimp only at j7
        obtain ⟨Ro, hRo⟩ : ∃ Z, Z = rowG a.rows cur P sets [] := ⟨_, rfl⟩
        rw [← hRo] at j7
        repeat (first | exact endA | refine wkP ?_ | refine opB (fun b => ?_) | refine opA (fun a' c' hc1 hc2 => ?_) | (apply GJ.and; exact rfl; intro hg) | (apply GJ.or; exact rfl; intro hg))
        rw [Int.toNat_natCast, intV_zero]
        obtain ⟨bR, hbR⟩ : ∃ z : Nat, z = b := ⟨_, rfl⟩
        subst hbR
        refine LoopOk.auto (ι := Nat × (List (List Nat) × Option Addr × Nat × List Value) × List Int × List (List UInt8 × Nat × Nat) × Nat) Keep.auto (fun (i, (sets, aH, cH, HS), row, M, cM) => [(66, .int .i64 (i : Int)), (9, .slice aH sets.length cH)])
          (fun (i, (sets, aH, cH, HS), row, M, cM) => .sl (some ⟨bR, 0, none⟩) P.length P.length 3 1 (intV (row ++ List.replicate (P.length - i) 0)) :: .sl aH sets.length cH 50 1 HS :: .obj bM (mapG str nV M cM) :: .sl ap P.length cq 116 4 (setsV P) :: .blk b4 29 [.pointer (some ⟨bO, 0, none⟩)] :: .blk bO 49 (autV CP (.slice an R.length cn) (.slice aa acc.length ca)) :: .blk bA 68 [.slice ad a.rows.length cp, .int .i64 a.last] :: .sl an R.length cn 50 1 (R.map hdrJ) :: .sl aa acc.length ca 4 1 (boolsV acc) :: (R.map rowJ ++ own))
          (fun (i, (sets2, aH, cH, HS), row, M, cM) ro5 => i ≤ P.length ∧ row.length = i ∧ SetsH ro5 sets2 HS ∧ (∀ t ∈ sets2, SetN a.rows.length t) ∧ sets2.length ≤ 1024 ∧ KeyM 4096 (sets2.map intsN) M ∧ (R.length < sets2.length ∧ sets2[R.length]? = some cur) ∧ rowG a.rows cur (P.drop i) sets2 row = Ro ∧ (sets2.length ≤ cH ∧ cH ≤ maxLen))
          (fun (i, (sets, aH, cH, HS), row, M, cM) => P.length - i) (0, (sets, aH, cH, HS), [], M, cM) ?_ Sub.auto Sup.auto ?_
        · exact ⟨Nat.zero_le _, rfl, j1, j2, j3, j4, ⟨hlt, hcur⟩, hRo.symm, ⟨j8, j9⟩⟩
        clear j1 j2 j3 j4 j8 j9 hcur hlt hHl
        rintro ⟨i, ⟨sets2, aH2, cH2, HS2⟩, row, M2, cM2⟩ ro5 hl5 ⟨i1, i2, i3, i4, i5, i6, ⟨i7, i8⟩, i9, ⟨i10, i11⟩⟩
        dsimp only [List.cons_append, List.nil_append] at i1 i2 i3 i4 i5 i6 i7 i8 i9 i10 i11 ⊢
        have hHl := i3.len
        obtain ⟨ac, cc, hc1h, hc2h⟩ := i3.row R.length cur i8
        have hcs := i4 cur (List.mem_of_getElem? i8)
        have hcurl := hcs.len
        have hbl := intV_len (row ++ List.replicate (P.length - i) 0)
        rw [show (row ++ List.replicate (P.length - i) (0 : Int)).length = P.length by simp; omega] at hbl
        have hv5 := ((hv2.le hl3).le hl4).le hl5
        by_cases hi : i < P.length
        · obtain ⟨p, hp⟩ : ∃ p, P[i]? = some p := ⟨_, List.getElem?_eq_getElem hi⟩
          have hpe := hcut.each p (List.mem_of_getElem? hp)
          have hdr := hps i p hp
          have hstl := fun c => step_len (rows := a.rows) (c := c) hcs.1
          have hsts := fun c => step_set a.rows (intsN cur) c
          have hed := hK.edges
          have hss : ∀ v : Int, (intV (row ++ List.replicate (P.length - i) 0)).set i (.int .i64 v) = intV ((row ++ [v]) ++ List.replicate (P.length - (i + 1)) 0) := fun v => by rw [intV_set, snoc_set i2 hi]
          rw [dropN_cons hp, rowG] at i9
          have hfc := fun c => firstC_of (p := p) (c := c)
          have ht5 := (((ht.le hl2).le hl3).le hl4).le hl5
          obtain ⟨w1, w2, w3, w4⟩ := p
          repeat (first | exact endA | refine wkP ?_ | refine opB (fun b => ?_) | refine opA (fun a' c' hc1 hc2 => ?_) | (apply GJ.and; exact rfl; intro hg) | (apply GJ.or; exact rfl; intro hg))
          rw [Int.toNat_natCast]
          refine OpOk.loadRow rfl rfl (LdN.slRow hdr) rfl ?_
          repeat (first | exact endA | refine wkP ?_ | refine opB (fun b => ?_) | refine opA (fun a' c' hc1 hc2 => ?_) | (apply GJ.and; exact rfl; intro hg) | (apply GJ.or; exact rfl; intro hg))
          refine first_ok (s := ⟨w1, w2, w3, w4⟩) ht5 hpe.1 (fun e => absurd e hpe.2) (fun c f1 f2 f3 => ?_)
          rw [hfc c f1 f2 f3] at i9
          have hstc := hstl c
          have htoS := hsts c
          repeat (first | exact endA | refine wkP ?_ | refine opB (fun b => ?_) | refine opA (fun a' c' hc1 hc2 => ?_) | (apply GJ.and; exact rfl; intro hg) | (apply GJ.or; exact rfl; intro hg))
          refine QOk.load rfl rfl (Ld.slAt' (k := R.length) (by rw [Int.toNat_natCast]) hc1h) ?_
          repeat (first | exact endA | refine wkP ?_ | refine opB (fun b => ?_) | refine opA (fun a' c' hc1 hc2 => ?_) | (apply GJ.and; exact rfl; intro hg) | (apply GJ.or; exact rfl; intro hg))
          refine nstep_ok (list := intsN cur) (c := c) hv5 hK (by rw [ints_nats]; exact hc2h.rds) (ints_len _) f1 (by omega) (fun a5 c5 u1 u2 => ?_)
          generalize stepN a.rows (intsN cur) c = to at *
          have htol := htoS.len
          have htoa := htoS.adm (by omega)
          have htn : (intsN to).map (Value.int .i64) = natsV to := ints_nats to
          have htil := ints_len to
          by_cases h0 : to = []
          · rw [if_pos h0] at i9
            subst h0
            repeat (first | exact endA | refine wkP ?_ | refine opB (fun b => ?_) | refine opA (fun a' c' hc1 hc2 => ?_) | (apply GJ.and; exact rfl; intro hg) | (apply GJ.or; exact rfl; intro hg))
            refine OpOk.storeSlAt' (k := i) rfl rfl rfl rfl (by rw [Int.toNat_natCast]) (by omega) ?_
            rw [hss]
            repeat (first | exact endA | refine wkP ?_ | refine opB (fun b => ?_) | refine opA (fun a' c' hc1 hc2 => ?_) | (apply GJ.and; exact rfl; intro hg) | (apply GJ.or; exact rfl; intro hg))
            repeat (first | exact endA | refine wkP ?_ | refine opB (fun b => ?_) | refine opA (fun a' c' hc1 hc2 => ?_) | (apply GJ.and; exact rfl; intro hg) | (apply GJ.or; exact rfl; intro hg))
            refine Wk.id ⟨(i + 1, (sets2, aH2, cH2, HS2), row ++ [-1], M2, cM2), ?_, ?_, Sub.auto, Sup.auto⟩
            all_goals try dsimp only
            · exact ⟨by omega, by simp [i2], i3, i4, i5, i6, ⟨i7, i8⟩, i9, ⟨i10, i11⟩⟩
            · omega
          · rw [if_neg h0] at i9
            have htp : 0 < to.length := List.length_pos_iff.2 h0
            have hgk := i6.at' _ htoa
            rw [ints_idx] at hgk
            have hkt : (keyT (intsN to)).length ≤ maxLen := by rw [keyT_len, htil]; unfold maxLen; omega
            have hMl := i6.len
            rw [List.length_map] at hMl
            have hpush := fun h => i6.push (by decide) htoa (by omega) h cM2
            rw [ints_idx, List.length_map, show sets2.map intsN ++ [intsN to] = (sets2 ++ [to]).map intsN by simp] at hpush
            repeat (first | exact endA | refine wkP ?_ | refine opB (fun b => ?_) | refine opA (fun a' c' hc1 hc2 => ?_) | (apply GJ.and; exact rfl; intro hg) | (apply GJ.or; exact rfl; intro hg))
            refine CallOk.freeze (c := .sl a5 _ _ _ _ _) Take.auto (fun ro6 hl6 hc6 => ?_)
            have hrT6 : Rs ro6 a5 to.length c5 1 (natsV to) := Rs.last hc6
            refine key_ok (l := intsN to) (by rw [htn]; exact hrT6.rds) htil (by omega) htoa ?_
            repeat (first | exact endA | refine wkP ?_ | refine opB (fun b => ?_) | refine opA (fun a' c' hc1 hc2 => ?_) | (apply GJ.and; exact rfl; intro hg) | (apply GJ.or; exact rfl; intro hg))
            refine OpOk.lookupOkG (kt := 9) (et := 3) (kv := str) (vv := nV) (k := keyT (intsN to)) (z := .int .i64 0) rfl rfl (by kernel_rfl) (KeyEnc.text (by kernel_rfl)) i6.map hkt (by kernel_rfl) ?_
            rw [hgk]
            cases hidx : sets2.idxOf? to with
            | some u =>
              rw [hidx] at i9
              dsimp only at i9
              simp only [Option.map_some, Option.getD_some, Option.isSome_some, nV]
              repeat (first | exact endA | refine wkP ?_ | refine opB (fun b => ?_) | refine opA (fun a' c' hc1 hc2 => ?_) | (apply GJ.and; exact rfl; intro hg) | (apply GJ.or; exact rfl; intro hg))
              refine OpOk.storeSlAt' (k := i) rfl rfl rfl rfl (by rw [Int.toNat_natCast]) (by omega) ?_
              rw [hss]
              repeat (first | exact endA | refine wkP ?_ | refine opB (fun b => ?_) | refine opA (fun a' c' hc1 hc2 => ?_) | (apply GJ.and; exact rfl; intro hg) | (apply GJ.or; exact rfl; intro hg))
              repeat (first | exact endA | refine wkP ?_ | refine opB (fun b => ?_) | refine opA (fun a' c' hc1 hc2 => ?_) | (apply GJ.and; exact rfl; intro hg) | (apply GJ.or; exact rfl; intro hg))
              refine Wk.id ⟨(i + 1, (sets2, aH2, cH2, HS2), row ++ [(u : Int)], M2, cM2), ?_, ?_, Sub.auto, Sup.auto⟩
              all_goals try dsimp only
              · exact ⟨by omega, by simp [i2], i3.le hl6, i4, i5, i6, ⟨i7, i8⟩, i9, ⟨i10, i11⟩⟩
              · omega
            | none =>
              rw [hidx] at i9
              dsimp only at i9
              have hpush := hpush hidx
              simp only [Option.map_none, Option.getD_none, Option.isSome_none]
              by_cases hmx : sets2.length = 1024
              · rw [if_pos hmx] at i9
                rw [← i9] at j7
                dsimp only at j7
                rw [← j7] at hk1
                dsimp only at hk1
                repeat (first | exact endA | refine wkP ?_ | refine opB (fun b => ?_) | refine opA (fun a' c' hc1 hc2 => ?_) | (apply GJ.and; exact rfl; intro hg) | (apply GJ.or; exact rfl; intro hg))
                exact Wk.own own (by repeat (first | exact Sup.app _ (Sup.all _) | refine Sup.drop _ ?_)) (Wk.id (hk1 (by decide)))
              · rw [if_neg hmx] at i9
                have e1 : sets2.length + 1 = (sets2 ++ [to]).length := by simp
                repeat (first | exact endA | refine wkP ?_ | refine opB (fun b => ?_) | refine opA (fun a' c' hc1 hc2 => ?_) | (apply GJ.and; exact rfl; intro hg) | (apply GJ.or; exact rfl; intro hg))
                refine key_ok (l := intsN to) (by rw [htn]; exact hrT6.rds) htil (by omega) htoa ?_
                repeat (first | exact endA | refine wkP ?_ | refine opB (fun b => ?_) | refine opA (fun a' c' hc1 hc2 => ?_) | (apply GJ.and; exact rfl; intro hg) | (apply GJ.or; exact rfl; intro hg))
                refine OpOk.mapUpdateG (kt := 9) (et := 3) (kv := str) (vv := nV) (k := keyT (intsN to)) (v := sets2.length) rfl rfl rfl (by kernel_rfl) (KeyEnc.text (by kernel_rfl)) i6.map hkt (fun c2 => ?_)
                generalize putG M2 cM2 (keyT (intsN to)) sets2.length = M3 at *
                repeat (first | exact endA | refine wkP ?_ | refine opB (fun b => ?_) | refine opA (fun a' c' hc1 hc2 => ?_) | (apply GJ.and; exact rfl; intro hg) | (apply GJ.or; exact rfl; intro hg))
                rw [e1]
                rw [e1] at hc1
                refine OpOk.storeSlAt' (k := i) rfl rfl rfl rfl (by rw [Int.toNat_natCast]) (by omega) ?_
                rw [hss]
                repeat (first | exact endA | refine wkP ?_ | refine opB (fun b => ?_) | refine opA (fun a' c' hc1 hc2 => ?_) | (apply GJ.and; exact rfl; intro hg) | (apply GJ.or; exact rfl; intro hg))
                repeat (first | exact endA | refine wkP ?_ | refine opB (fun b => ?_) | refine opA (fun a' c' hc1 hc2 => ?_) | (apply GJ.and; exact rfl; intro hg) | (apply GJ.or; exact rfl; intro hg))
                refine Wk.id ⟨(i + 1, (sets2 ++ [to], a', c', HS2 ++ [.slice a5 to.length c5]), row ++ [(sets2.length : Int)], M3, c2), ?_, ?_, Sub.auto, Sup.auto⟩
                all_goals try dsimp only
                · refine ⟨by omega, by simp [i2], (i3.le hl6).snoc hrT6, fun t ht => ?_, by simp; omega, hpush, ⟨by simp; omega, snoc_old i8⟩, i9, ⟨hc1, hc2⟩⟩
                  rcases List.mem_append.1 ht with ht | ht
                  · exact i4 t ht
                  · rw [List.mem_singleton] at ht; rw [ht]; exact htoS
                · omega
        · obtain rfl : i = P.length := by omega
          rw [List.drop_length, rowG] at i9
          rw [Nat.sub_self, List.replicate_zero, List.append_nil]
          rw [← i9] at j7
          dsimp only at j7
          obtain ⟨eb, heb⟩ : ∃ z, z = endsN a (intsN cur) := ⟨_, rfl⟩
          rw [← heb] at j7
          repeat (first | exact endA | refine wkT ?_ | refine opB (fun b => ?_) | refine opA (fun a' c' hc1 hc2 => ?_) | (apply GJ.and; exact rfl; intro hg) | (apply GJ.or; exact rfl; intro hg))
          refine Bs.mk ⟨[.blk b4 29 [.pointer (some ⟨bO, 0, none⟩)], .blk bO 49 (autV CP (.slice an R.length cn) (.slice aa acc.length ca))], Sup.auto, ?_⟩
          repeat (first | exact endA | refine wkU ?_ | (show QOk _ _ _ _ _ _ _; refine QOk.build rfl rfl Nf.auto ?_) | (show GJ _ _ _ _ _ _ _; first | with_reducible refine GJ.neF ?_ | with_reducible refine GJ.neT ?_) | (show Br _ _ _; with_reducible refine Br.ne ?_) | refine opB (fun b => ?_) | refine opA (fun a' c' hc1 hc2 => ?_) | (apply GJ.and; exact rfl; intro hg) | (apply GJ.or; exact rfl; intro hg))
          obtain ⟨aN, haN⟩ : ∃ z, z = a' := ⟨_, rfl⟩
          subst haN
          obtain ⟨cN, hcN⟩ : ∃ z, z = c' := ⟨_, rfl⟩
          subst hcN
          have hq1 := hc1
          have hq2 := hc2
          repeat (first | exact endA | refine wkT ?_ | refine opB (fun b => ?_) | refine opA (fun a' c' hc1 hc2 => ?_) | (apply GJ.and; exact rfl; intro hg) | (apply GJ.or; exact rfl; intro hg))
          refine Bs.mk ⟨[.sl aH2 sets2.length cH2 50 1 HS2, .blk b4 29 [.pointer (some ⟨bO, 0, none⟩)], .blk bO 49 (autV CP (.slice aN (R.length + 1) cN) (.slice aa acc.length ca)), .blk bA 68 [.slice ad a.rows.length cp, .int .i64 a.last]], Sup.auto, ?_⟩
          repeat (first | exact endA | refine wkU ?_ | (show QOk _ _ _ _ _ _ _; refine QOk.build rfl rfl Nf.auto ?_) | (show GJ _ _ _ _ _ _ _; first | with_reducible refine GJ.neF ?_ | with_reducible refine GJ.neT ?_) | (show Br _ _ _; with_reducible refine Br.ne ?_) | refine opB (fun b => ?_) | refine opA (fun a' c' hc1 hc2 => ?_) | (apply GJ.and; exact rfl; intro hg) | (apply GJ.or; exact rfl; intro hg))
          refine QOk.load rfl rfl (Ld.slAt' (k := R.length) (by rw [Int.toNat_natCast]) hc1h) ?_
          repeat (first | exact endA | refine wkU ?_ | (show QOk _ _ _ _ _ _ _; refine QOk.build rfl rfl Nf.auto ?_) | (show GJ _ _ _ _ _ _ _; first | with_reducible refine GJ.neF ?_ | with_reducible refine GJ.neT ?_) | (show Br _ _ _; with_reducible refine Br.ne ?_) | refine opB (fun b => ?_) | refine opA (fun a' c' hc1 hc2 => ?_) | (apply GJ.and; exact rfl; intro hg) | (apply GJ.or; exact rfl; intro hg))
          refine nends_ok (list := intsN cur) hv5 hK.ok (by rw [ints_nats]; exact hc2h.rds) (ints_len _) ?_
          rw [← heb]
          repeat (first | exact endA | refine wkU ?_ | (show QOk _ _ _ _ _ _ _; refine QOk.build rfl rfl Nf.auto ?_) | (show GJ _ _ _ _ _ _ _; first | with_reducible refine GJ.neF ?_ | with_reducible refine GJ.neT ?_) | (show Br _ _ _; with_reducible refine Br.ne ?_) | refine opB (fun b => ?_) | refine opA (fun a' c' hc1 hc2 => ?_) | (apply GJ.and; exact rfl; intro hg) | (apply GJ.or; exact rfl; intro hg))
          obtain ⟨y, hy⟩ : ∃ y : RowJ, y = ((some ⟨bR, 0, none⟩, P.length), row) := ⟨_, rfl⟩
          have hyr : rowJ y = .sl (some ⟨bR, 0, none⟩) P.length P.length 3 1 (intV row) := by rw [hy]; unfold rowJ; rw [i2]
          have hyh : R.map hdrJ ++ [.slice (some ⟨bR, 0, none⟩) P.length P.length] = (R ++ [y]).map hdrJ := by rw [List.map_append, hy]; simp [hdrJ, i2]
          have hym : (R ++ [y]).map (·.2) = R.map (·.2) ++ [row] := by rw [List.map_append, hy]; rfl
          have e1 : R.length + 1 = (R ++ [y]).length := by simp
          have e1I : (R.length : Int) + 1 = ((R ++ [y]).length : Int) := by simp
          have e2 : acc.length + 1 = (acc ++ [eb]).length := by simp
          have e3 : boolsV acc ++ [.bool eb] = boolsV (acc ++ [eb]) := by simp [boolsV]
          rw [hyh, e1I, e1, e2, e3]
          rw [e1] at hq1
          rw [e2] at hc1
          repeat (first | exact endA | refine wkP ?_ | refine opB (fun b => ?_) | refine opA (fun a' c' hc1 hc2 => ?_) | (apply GJ.and; exact rfl; intro hg) | (apply GJ.or; exact rfl; intro hg))
          refine Wk.id ⟨((sets2, aH2, cH2, HS2), (R ++ [y], aN, cN), (acc ++ [eb], a', c'), M2, cM2), ?_, ?_, Sub.auto, Sup.cons Take.auto (Sup.cons Take.auto (Sup.cons Take.auto (Sup.cons Take.auto (Sup.cons Take.auto (Sup.cons Take.auto (Sup.cons Take.auto (Sup.cons Take.auto (by rw [← hyr]; exact Sup.ofPerm (rowsJ_snoc R y own)))))))))⟩
          all_goals try dsimp only
          · refine ⟨i3, i4, i5, i6, ⟨by simp; omega, by simp [j6]⟩, ?_, ⟨i10, i11⟩, ⟨hq1, hq2⟩, ⟨hc1, hc2⟩⟩
            rw [hym, show 1025 - (R ++ [y]).length = F by simp; omega]
            exact j7
          · simp; omega
      · rw [hF, subG, hRm, List.getElem?_eq_none (by omega)] at j7
        dsimp only at j7
        rw [← j7] at hk1 hk2
        dsimp only at hk1 hk2
        repeat (first | exact endA | refine wkP ?_ | refine opB (fun b => ?_) | refine opA (fun a' c' hc1 hc2 => ?_) | (apply GJ.and; exact rfl; intro hg) | (apply GJ.or; exact rfl; intro hg))
        rw [← hCP] at hk2
        exact Wk.own (.blk bO 49 (autV CP (.slice an R.length cn) (.slice aa acc.length ca)) :: .sl an R.length cn 50 1 (R.map hdrJ) :: .sl aa acc.length ca 4 1 (boolsV acc) :: (R.map rowJ ++ own)) Sup.auto (Wk.id (hk2 rfl bO an cn aa ca R rfl))
end
end Go.Proofs.YtinbmhbfcoiefaaGreatDoor
end
section
/- Contracts of dfa: Same (of automata that are the same), Make with all made to last, Of. -/
namespace Go.E
open Go
set_option linter.unusedVariables false
set_option linter.unusedSimpArgs false
section
variable {P : Program} {T : TT} [hT : TTab P T] {ty : TypeId} {env : Env} {ro : Ro} {own : Chs} {K : Value → Ro → Chs → Prop}
theorem nthV_of : ∀ {l : List Value} {i : Nat} {v : Value}, l[i]? = some v → nthV l i = some v
  | v :: _, 0, _, h => by simpa [nthV] using h
  | _ :: r, n + 1, _, h => by rw [nthV]; exact nthV_of (l := r) (by simpa using h)
  | [], _, _, h => by simp at h
theorem run_items_same {d : Nat} {e : TypeId} {C : List Nat} {ti : TI} (ht : T.get e = some ti) (hr : ti.u.row = false) (he : P.underlying e = some (.int .u8)) (w : World) : ∀ is : List Nat, (∀ i ∈ is, i < C.length) →
    (Op.eqItems (d + 1) e 1 (C.map fun (k : Nat) => Value.int .u8 (k : Int)).toArray (C.map fun (k : Nat) => Value.int .u8 (k : Int)).toArray is).run P w = .ok true w
  | [], _ => by simp [Op.eqItems]
  | i :: is, h => by
    have hi := h i (by simp)
    have hv : nthV (C.map fun (k : Nat) => Value.int .u8 (k : Int)) (i * 1) = some (.int .u8 (C[i] : Int)) := by
      rw [Nat.mul_one]
      exact nthV_of (by simp [hi])
    have hp := run_part1 (P := P) (T := T) ht hr hv w
    simp only [Op.eqItems, Sem.run_bind, hp, Result.andThen_ok, run_equalIn_int (P := P) w d e .u8 .u8 _ _ he]
    simpa using run_items_same ht hr he w is (fun j hj => h j (by simp [hj]))
/-- Arrays of bytes that are the same. -/
theorem QOk.eqlArrSame {K : Value → Prop} {t yt e : TypeId} {x y : Operand} {C : List Nat} {n : Nat} {ti : TI} (hx : ev env x = some (.agg (C.map fun (k : Nat) => Value.int .u8 (k : Int)).toArray)) (hy : ev env y = some (.agg (C.map fun (k : Nat) => Value.int .u8 (k : Int)).toArray))
    (ht : P.underlying t = some (.array n e)) (he : P.underlying e = some (.int .u8)) (hs : (P.info? e).map (·.size) = some 1) (hg : T.get e = some ti) (hr : ti.u.row = false) (hn : C.length = n) (h2 : P.eqGuardType P.depth t = false) (hk : K (.bool true)) : QOk P (.binOp .eql t x y yt) ty env ro own K := by
  refine QOk.pu (fun h hs' d pos af g => .mk fun ρ w hρ _ => ?_) hk
  obtain ⟨i, hi, hi2⟩ := Option.map_eq_some_iff.1 hs
  have hc : P.cellsOf e = 1 := by simp [Program.cellsOf, hi, hi2]
  have he2 := run_equalIn_array (w := w) 9999 (C.map fun (k : Nat) => Value.int .u8 (k : Int)).toArray (C.map fun (k : Nat) => Value.int .u8 (k : Int)).toArray ht hi
  rw [hc, run_items_same (d := 9998) hg hr he w (List.range n) (fun i hi => by rw [hn]; exact List.mem_range.1 hi)] at he2
  simp only [execOp, hρ _ _ hx, hρ _ _ hy, Sem.run_bind, run_eqGuard_agg w .eql t x y _ _ h2, Result.andThen_ok, run_eql_struct, he2, Sem.run_pure]
end
end Go.E
namespace Go.Proofs.YtinbmhbfcoiefaaGreatDoor
open Go Go.E
set_option linter.unusedVariables false
set_option linter.unusedSimpArgs false
set_option maxRecDepth 10000
section
variable {ro : Ro} {own r : Chs} {K : Value → Ro → Chs → Prop} {g : Chunk → Chs}
theorem equalB_ok {a1 a2 : Option Addr} {n c1 c2 : Nat} {l : List Bool} (h1 : Rs ro a1 n c1 1 (l.map Value.bool)) (h2 : Rs ro a2 n c2 1 (l.map Value.bool)) (hk : K (.bool true) ro own) :
    CallOk Tryz.prog 28 #[.slice a1 n c1, .slice a2 n c2] ro own K := by
  have hl : l.length = n := by have := h1.n1; simpa using this
  have m1 := h1.max
  have m2 := h1.le
  unfold maxLen at m1
  refine CallOk.intro (args := [_, _]) (rs := [_]) T_ok Tryz.func28 Tryz.call28 rfl rfl (by kernel_rfl) rfl rfl ?_
  repeat (first | exact endA | refine wkP ?_ | refine opB (fun b => ?_) | refine opA (fun a' c' hc1 hc2 => ?_) | (apply GJ.and; exact rfl; intro hg) | (apply GJ.or; exact rfl; intro hg))
  refine LoopOk.at (ι := Nat) Keep.auto (fun i => [(13, .int .i64 (i : Int))]) (fun i => own) (fun i => i ≤ n) (fun i => n - i) 0 ?_ Sub.auto Sup.auto ?_
  · exact Nat.zero_le _
  rintro i i1
  dsimp only [List.cons_append, List.nil_append] at i1 ⊢
  by_cases hi : i < n
  · repeat (first | exact endA | refine wkP ?_ | refine opB (fun b => ?_) | refine opA (fun a' c' hc1 hc2 => ?_) | (apply GJ.and; exact rfl; intro hg) | (apply GJ.or; exact rfl; intro hg))
    refine Br.f (fun h => h rfl) ?_
    repeat (first | exact endA | refine wkP ?_ | refine opB (fun b => ?_) | refine opA (fun a' c' hc1 hc2 => ?_) | (apply GJ.and; exact rfl; intro hg) | (apply GJ.or; exact rfl; intro hg))
    refine Wk.id ⟨i + 1, ⟨rfl, ?_⟩, ?_, Sub.auto, Sup.auto⟩
    all_goals try dsimp only
    · omega
    · omega
  · repeat (first | exact endA | refine wkP ?_ | refine opB (fun b => ?_) | refine opA (fun a' c' hc1 hc2 => ?_) | (apply GJ.and; exact rfl; intro hg) | (apply GJ.or; exact rfl; intro hg))
    exact Wk.id hk
theorem same1_ok {a1 a2 : Option Addr} {c1 c2 : Nat} {l : List Int} (h1 : Rs ro a1 l.length c1 1 (l.map (Value.int .i64))) (h2 : Rs ro a2 l.length c2 1 (l.map (Value.int .i64))) (hk : K (.bool true) ro own) :
    CallOk Tryz.prog 30 #[.slice a1 l.length c1, .slice a2 l.length c2] ro own K := by
  refine CallOk.intro (args := [_, _]) (rs := [_]) T_ok Tryz.func30 Tryz.call30 rfl rfl (by kernel_rfl) rfl rfl ?_
  repeat (first | exact endA | refine wkP ?_ | refine opB (fun b => ?_) | refine opA (fun a' c' hc1 hc2 => ?_) | (apply GJ.and; exact rfl; intro hg) | (apply GJ.or; exact rfl; intro hg))
  refine equalI_ok (l := l) (m := l) h1.rds h2.rds rfl rfl (fun q hq => ?_)
  obtain rfl : q = true := hq.2 rfl
  repeat (first | exact endA | refine wkP ?_ | refine opB (fun b => ?_) | refine opA (fun a' c' hc1 hc2 => ?_) | (apply GJ.and; exact rfl; intro hg) | (apply GJ.or; exact rfl; intro hg))
  exact Wk.id hk
/-- Rows that are the same, told by a function. -/
theorem equalR_ok {a1 a2 : Option Addr} {n c1 c2 : Nat} {rows : List (List Int)} {H1 H2 : List Value} (h1 : Rs ro a1 n c1 1 H1) (h2 : Rs ro a2 n c2 1 H2) (r1 : RowsH ro rows H1) (r2 : RowsH ro rows H2) (hk : K (.bool true) ro own) :
    CallOk Tryz.prog 29 #[.slice a1 n c1, .slice a2 n c2, .func (.func 30) #[] #[]] ro own K := by
  have hl := r1.len
  have hn1 := h1.n1
  have m1 := h1.max
  have m2 := h1.le
  unfold maxLen at m1
  refine CallOk.intro (args := [_, _, _]) (rs := [_]) T_ok Tryz.func29 Tryz.call29 rfl rfl (by kernel_rfl) rfl rfl ?_
  repeat (first | exact endA | refine wkP ?_ | refine opB (fun b => ?_) | refine opA (fun a' c' hc1 hc2 => ?_) | (apply GJ.and; exact rfl; intro hg) | (apply GJ.or; exact rfl; intro hg))
  refine LoopOk.at (ι := Nat) Keep.auto (fun i => [(17, .int .i64 (i : Int))]) (fun i => own) (fun i => i ≤ n) (fun i => n - i) 0 ?_ Sub.auto Sup.auto ?_
  · exact Nat.zero_le _
  rintro i i1
  dsimp only [List.cons_append, List.nil_append] at i1 ⊢
  by_cases hi : i < n
  · obtain ⟨row, hrow⟩ : ∃ row, rows[i]? = some row := ⟨_, List.getElem?_eq_getElem (by omega)⟩
    obtain ⟨b1, d1, e1, f1⟩ := r1.row i row hrow
    obtain ⟨b2, d2, e2, f2⟩ := r2.row i row hrow
    repeat (first | exact endA | refine wkP ?_ | refine opB (fun b => ?_) | refine opA (fun a' c' hc1 hc2 => ?_) | (apply GJ.and; exact rfl; intro hg) | (apply GJ.or; exact rfl; intro hg))
    refine OpOk.load rfl rfl (Go.E.Ld.rs h1 (by rw [Int.toNat_natCast]; exact e1)) ?_
    repeat (first | exact endA | refine wkP ?_ | refine opB (fun b => ?_) | refine opA (fun a' c' hc1 hc2 => ?_) | (apply GJ.and; exact rfl; intro hg) | (apply GJ.or; exact rfl; intro hg))
    refine OpOk.load rfl rfl (Go.E.Ld.rs h2 (by rw [Int.toNat_natCast]; exact e2)) ?_
    repeat (first | exact endA | refine wkP ?_ | refine opB (fun b => ?_) | refine opA (fun a' c' hc1 hc2 => ?_) | (apply GJ.and; exact rfl; intro hg) | (apply GJ.or; exact rfl; intro hg))
    refine same1_ok f1 f2 ?_
    repeat (first | exact endA | refine wkP ?_ | refine opB (fun b => ?_) | refine opA (fun a' c' hc1 hc2 => ?_) | (apply GJ.and; exact rfl; intro hg) | (apply GJ.or; exact rfl; intro hg))
    repeat (first | exact endA | refine wkP ?_ | refine opB (fun b => ?_) | refine opA (fun a' c' hc1 hc2 => ?_) | (apply GJ.and; exact rfl; intro hg) | (apply GJ.or; exact rfl; intro hg))
    refine Wk.id ⟨i + 1, ⟨rfl, ?_⟩, ?_, Sub.auto, Sup.auto⟩
    all_goals try dsimp only
    · omega
    · omega
  · repeat (first | exact endA | refine wkP ?_ | refine opB (fun b => ?_) | refine opA (fun a' c' hc1 hc2 => ?_) | (apply GJ.and; exact rfl; intro hg) | (apply GJ.or; exact rfl; intro hg))
    exact Wk.id hk
theorem dsame_ok {p q : Nat} {d : DfaA} (h1 : DAt ro p d) (h2 : DAt ro q d) (hk : K (.bool true) ro own) : CallOk Tryz.prog 13 #[ptr' p, ptr' q] ro own K := by
  obtain ⟨an, cn, aa, ca, hs, hd⟩ := h1.rd
  obtain ⟨an2, cn2, aa2, ca2, hs2, hd2⟩ := h2.rd
  have hN := hd.ldN
  have hA := hd.ldA
  have hN2 := hd2.ldN
  have hA2 := hd2.ldA
  have hl6 : (clsV d.cls).length = 256 := by rw [clsV_len, hd.c256]
  have hlc : ∀ own', LdN ro own' p (0 + 0) (clsV d.cls) := fun own' => by
    have := LdN.part 0 256 (LdN.lastBlk (own := own') hd.row)
    rwa [List.drop_zero, show (autV d.cls (.slice an d.next.length cn) (.slice aa d.acc.length ca)).take 256 = clsV d.cls by unfold autV; rw [List.take_append_of_le_length (by rw [clsV_len, hd.c256]; exact Nat.le_refl _), List.take_of_length_le (by rw [clsV_len, hd.c256]; exact Nat.le_refl _)]] at this
  have hlc2 : ∀ own', LdN ro own' q (0 + 0) (clsV d.cls) := fun own' => by
    have := LdN.part 0 256 (LdN.lastBlk (own := own') hd2.row)
    rwa [List.drop_zero, show (autV d.cls (.slice an2 d.next.length cn2) (.slice aa2 d.acc.length ca2)).take 256 = clsV d.cls by unfold autV; rw [List.take_append_of_le_length (by rw [clsV_len, hd.c256]; exact Nat.le_refl _), List.take_of_length_le (by rw [clsV_len, hd.c256]; exact Nat.le_refl _)]] at this
  refine CallOk.intro (args := [_, _]) (rs := [_]) T_ok Tryz.func13 Tryz.call13 rfl rfl (by kernel_rfl) rfl rfl ?_
  repeat (first | exact endA | refine wkP ?_ | refine opB (fun b => ?_) | refine opA (fun a' c' hc1 hc2 => ?_) | (apply GJ.and; exact rfl; intro hg) | (apply GJ.or; exact rfl; intro hg))
  refine QOk.loadRow rfl rfl (hlc _) hl6 ?_
  repeat (first | exact endA | refine wkP ?_ | refine opB (fun b => ?_) | refine opA (fun a' c' hc1 hc2 => ?_) | (apply GJ.and; exact rfl; intro hg) | (apply GJ.or; exact rfl; intro hg))
  refine QOk.loadRow rfl rfl (hlc2 _) hl6 ?_
  repeat (first | exact endA | refine wkP ?_ | refine opB (fun b => ?_) | refine opA (fun a' c' hc1 hc2 => ?_) | (apply GJ.and; exact rfl; intro hg) | (apply GJ.or; exact rfl; intro hg))
  refine QOk.eqlArrSame (e := 5) (C := d.cls) rfl rfl (by kernel_rfl) (by kernel_rfl) (by kernel_rfl) rfl rfl hd.c256 (by kernel_rfl) ?_
  repeat (first | exact endA | refine wkP ?_ | refine opB (fun b => ?_) | refine opA (fun a' c' hc1 hc2 => ?_) | (apply GJ.and; exact rfl; intro hg) | (apply GJ.or; exact rfl; intro hg))
  refine equalB_ok hd.ra hd2.ra ?_
  repeat (first | exact endA | refine wkP ?_ | refine opB (fun b => ?_) | refine opA (fun a' c' hc1 hc2 => ?_) | (apply GJ.and; exact rfl; intro hg) | (apply GJ.or; exact rfl; intro hg))
  refine equalR_ok hd.rs hd2.rs ⟨hd.rs.n1, hd.rows⟩ ⟨hd2.rs.n1, hd2.rows⟩ ?_
  repeat (first | exact endA | refine wkP ?_ | refine opB (fun b => ?_) | refine opA (fun a' c' hc1 hc2 => ?_) | (apply GJ.and; exact rfl; intro hg) | (apply GJ.or; exact rfl; intro hg))
  exact Wk.id hk
/-- Make, all of which lasts behind it. -/
theorem dmake_ok {a : NfaD} {v : List Value} (hv : AutoOk ro a v) (hK : AutoK a) (ht : TabOk ro) (hsl : (setsN a.rows).length ≤ 1000)
    (hk1 : (makeA a).1 ≠ 0 → ∀ ro', Le ro ro' → K (.tuple #[.pointer none, .int .i64 ((makeA a).1 : Int)]) ro' own)
    (hk2 : (makeA a).1 = 0 → ∀ ro' p, Le ro ro' → DAt ro' p (makeA a).2 → K (.tuple #[ptr' p, .int .i64 0]) ro' own) :
    CallOk Tryz.prog 26 #[.agg v.toArray] ro own K :=
  CallOk.lastly (Q := fun v l => ((makeA a).1 ≠ 0 ∧ v = .tuple #[.pointer none, .int .i64 ((makeA a).1 : Int)]) ∨ ((makeA a).1 = 0 ∧ ∃ (p : Nat) (an : Option Addr) (cn : Nat) (aa : Option Addr) (ca : Nat) (R : List RowJ), R.map (·.2) = (makeA a).2.next ∧ v = .tuple #[ptr' p, .int .i64 0] ∧
      l = (.blk p 49 (autV (makeA a).2.cls (.slice an R.length cn) (.slice aa (makeA a).2.acc.length ca)) :: .sl an R.length cn 50 1 (R.map hdrJ) :: .sl aa (makeA a).2.acc.length ca 4 1 (boolsV (makeA a).2.acc) :: R.map rowJ)))
    (dmake0_ok hv hK ht hsl (fun h => ⟨rfl, [], rfl, .inl ⟨h, rfl⟩⟩) (fun h p an cn aa ca R hR => ⟨rfl, _, by simp, .inr ⟨h, p, an, cn, aa, ca, R, hR, rfl, rfl⟩⟩))
    (fun ro' v l hl hc hq => by
      rcases hq with ⟨h, rfl⟩ | ⟨h, p, an, cn, aa, ca, R, hR, rfl, rfl⟩
      · exact hk1 h ro' hl
      · have hm := (made_a2 hK.ok.to hK.sets h).1
        obtain ⟨w, _, ho, _⟩ := hm.ok
        have hRl : R.length = (makeA a).2.next.length := by rw [← hR, List.length_map]
        refine hk2 h ro' p hl ⟨⟨an, cn, aa, ca, R.map hdrJ, ?_, ho.cls, ?_, fun i row hi => ?_, Rs.last (hc _ (List.mem_cons_of_mem _ (List.mem_cons_of_mem _ (List.mem_cons_self ..))))⟩⟩
        · rw [← hRl]; exact hc _ (List.mem_cons_self ..)
        · rw [← hRl]; exact Rs.last (hc _ (List.mem_cons_of_mem _ (List.mem_cons_self ..)))
        · rw [← hR, List.getElem?_map] at hi
          obtain ⟨x, hx, rfl⟩ := Option.map_eq_some_iff.1 hi
          refine ⟨x.1.1, x.1.2, by rw [List.getElem?_map, hx]; rfl, ?_⟩
          exact Rs.last (t := 3) (hc (rowJ x) (List.mem_cons_of_mem _ (List.mem_cons_of_mem _ (List.mem_cons_of_mem _ (List.mem_map_of_mem (List.mem_of_getElem? hx)))))))
end
end Go.Proofs.YtinbmhbfcoiefaaGreatDoor
end
section
/- Contracts: atomics and the lock, as a Once within a Lazy uses them (eight cells lie ahead of it). -/
namespace Go.Proofs.YtinbmhbfcoiefaaGreatDoor
open Go Go.E
set_option linter.unusedVariables false
set_option maxRecDepth 10000
section
variable {ro : Ro} {own : Chs} {K : Value → Ro → Chs → Prop} {g : Chunk → Chs}
theorem bload_ok {b o : Nat} {x : Int} (hl : Ld ro own b o (.int .u32 x)) (hk : K (.bool (decide (x ≠ 0))) ro own) : CallOk Tryz.prog 61 #[.pointer (some ⟨b, o, none⟩)] ro own K := by
  refine CallOk.intro (args := [_]) (rs := [_]) T_ok Tryz.func61 Tryz.call61 rfl rfl (by kernel_rfl) rfl rfl ?_
  repeat (first | exact endA | refine wkG ?_ | refine opB (fun b => ?_) | refine opA (fun a' c' hc1 hc2 => ?_) | (show GJ _ _ _ _ _ _ _; first | (apply GJ.and; exact rfl; intro hg) | (apply GJ.or; exact rfl; intro hg) | refine GJ.t omAuto ?_ | refine GJ.f omAuto ?_ | refine GJ.ft omAuto ?_ | refine GJ.ff omAuto ?_))
  refine CallOk.aload Tryz.func80 (by kernel_rfl) (by kernel_rfl) (by kernel_rfl) .u32 (by kernel_rfl) (x := x) (by simpa using hl) ?_
  repeat (first | exact endA | refine wkG ?_ | refine opB (fun b => ?_) | refine opA (fun a' c' hc1 hc2 => ?_) | (show GJ _ _ _ _ _ _ _; first | (apply GJ.and; exact rfl; intro hg) | (apply GJ.or; exact rfl; intro hg) | refine GJ.t omAuto ?_ | refine GJ.f omAuto ?_ | refine GJ.ft omAuto ?_ | refine GJ.ff omAuto ?_))
  exact Wk.id hk
theorem b32_ok (hk : K (.int .u32 1) ro own) : CallOk Tryz.prog 93 #[.bool true] ro own K := by
  refine CallOk.intro (args := [_]) (rs := [_]) T_ok Tryz.func93 Tryz.call93 rfl rfl (by kernel_rfl) rfl rfl ?_
  repeat (first | exact endA | refine wkG ?_ | refine opB (fun b => ?_) | refine opA (fun a' c' hc1 hc2 => ?_) | (show GJ _ _ _ _ _ _ _; first | (apply GJ.and; exact rfl; intro hg) | (apply GJ.or; exact rfl; intro hg) | refine GJ.t omAuto ?_ | refine GJ.f omAuto ?_ | refine GJ.ft omAuto ?_ | refine GJ.ff omAuto ?_))
  exact Wk.id hk
theorem lock_ok {b : Nat} {t : TypeId} {z0 z1 z2 z3 z4 z5 z6 z7 d sm : Value} {rest : List Value} [hb : HasBlk own b t (z0 :: z1 :: z2 :: z3 :: z4 :: z5 :: z6 :: z7 :: d :: .int .i32 0 :: sm :: rest) g] (hk : K (.tuple #[]) ro (g (.blk b t (z0 :: z1 :: z2 :: z3 :: z4 :: z5 :: z6 :: z7 :: d :: .int .i32 1 :: sm :: rest)))) : CallOk Tryz.prog 90 #[.pointer (some ⟨b, 9, none⟩)] ro own K := by
  obtain ⟨r, p1, p2⟩ := hb.split
  refine CallOk.perm p1 ?_
  clear hb
  refine CallOk.intro (args := [_]) (rs := []) T_ok Tryz.func90 Tryz.call90 rfl rfl (by kernel_rfl) rfl rfl ?_
  repeat (first | exact endA | refine wkG ?_ | refine opB (fun b => ?_) | refine opA (fun a' c' hc1 hc2 => ?_) | (show GJ _ _ _ _ _ _ _; first | (apply GJ.and; exact rfl; intro hg) | (apply GJ.or; exact rfl; intro hg) | refine GJ.t omAuto ?_ | refine GJ.f omAuto ?_ | refine GJ.ft omAuto ?_ | refine GJ.ff omAuto ?_))
  refine CallOk.mark0 Tryz.func98 (by kernel_rfl) (by kernel_rfl) (by kernel_rfl) .disable (by kernel_rfl) ?_
  repeat (first | exact endA | refine wkG ?_ | refine opB (fun b => ?_) | refine opA (fun a' c' hc1 hc2 => ?_) | (show GJ _ _ _ _ _ _ _; first | (apply GJ.and; exact rfl; intro hg) | (apply GJ.or; exact rfl; intro hg) | refine GJ.t omAuto ?_ | refine GJ.f omAuto ?_ | refine GJ.ft omAuto ?_ | refine GJ.ff omAuto ?_))
  refine CallOk.acas Tryz.func99 (by kernel_rfl) (by kernel_rfl) (by kernel_rfl) .i32 (by kernel_rfl) rfl (.miss _ (.miss _ (.miss _ (.miss _ (.miss _ (.miss _ (.miss _ (.miss _ (.miss _ (.hit _ _ _)))))))))) ?_
  repeat (first | exact endA | refine wkG ?_ | refine opB (fun b => ?_) | refine opA (fun a' c' hc1 hc2 => ?_) | (show GJ _ _ _ _ _ _ _; first | (apply GJ.and; exact rfl; intro hg) | (apply GJ.or; exact rfl; intro hg) | refine GJ.t omAuto ?_ | refine GJ.f omAuto ?_ | refine GJ.ft omAuto ?_ | refine GJ.ff omAuto ?_))
  refine SeqOk.pass ?_
  repeat (first | exact endA | refine wkG ?_ | refine opB (fun b => ?_) | refine opA (fun a' c' hc1 hc2 => ?_) | (show GJ _ _ _ _ _ _ _; first | (apply GJ.and; exact rfl; intro hg) | (apply GJ.or; exact rfl; intro hg) | refine GJ.t omAuto ?_ | refine GJ.f omAuto ?_ | refine GJ.ft omAuto ?_ | refine GJ.ff omAuto ?_))
  refine CallOk.mark0 Tryz.func100 (by kernel_rfl) (by kernel_rfl) (by kernel_rfl) .enable (by kernel_rfl) ?_
  repeat (first | exact endA | refine wkG ?_ | refine opB (fun b => ?_) | refine opA (fun a' c' hc1 hc2 => ?_) | (show GJ _ _ _ _ _ _ _; first | (apply GJ.and; exact rfl; intro hg) | (apply GJ.or; exact rfl; intro hg) | refine GJ.t omAuto ?_ | refine GJ.f omAuto ?_ | refine GJ.ft omAuto ?_ | refine GJ.ff omAuto ?_))
  refine OpOk.unsafe rfl rfl (by kernel_rfl) (by kernel_rfl) (by exact Ld.hasBlk rfl) ?_
  repeat (first | exact endA | refine wkG ?_ | refine opB (fun b => ?_) | refine opA (fun a' c' hc1 hc2 => ?_) | (show GJ _ _ _ _ _ _ _; first | (apply GJ.and; exact rfl; intro hg) | (apply GJ.or; exact rfl; intro hg) | refine GJ.t omAuto ?_ | refine GJ.f omAuto ?_ | refine GJ.ft omAuto ?_ | refine GJ.ff omAuto ?_))
  refine CallOk.marked Tryz.func101 (by kernel_rfl) (by kernel_rfl) (by kernel_rfl) .acquire (by kernel_rfl) ?_
  repeat (first | exact endA | refine wkG ?_ | refine opB (fun b => ?_) | refine opA (fun a' c' hc1 hc2 => ?_) | (show GJ _ _ _ _ _ _ _; first | (apply GJ.and; exact rfl; intro hg) | (apply GJ.or; exact rfl; intro hg) | refine GJ.t omAuto ?_ | refine GJ.f omAuto ?_ | refine GJ.ft omAuto ?_ | refine GJ.ff omAuto ?_))
  exact Wk.out (p2 _) hk
theorem ilock_ok {b : Nat} {t : TypeId} {z0 z1 z2 z3 z4 z5 z6 z7 d sm : Value} {rest : List Value} [hb : HasBlk own b t (z0 :: z1 :: z2 :: z3 :: z4 :: z5 :: z6 :: z7 :: d :: .int .i32 0 :: sm :: rest) g] (hk : K (.tuple #[]) ro (g (.blk b t (z0 :: z1 :: z2 :: z3 :: z4 :: z5 :: z6 :: z7 :: d :: .int .i32 1 :: sm :: rest)))) : CallOk Tryz.prog 81 #[.pointer (some ⟨b, 9, none⟩)] ro own K := by
  refine CallOk.intro (args := [_]) (rs := []) T_ok Tryz.func81 Tryz.call81 rfl rfl (by kernel_rfl) rfl rfl ?_
  repeat (first | exact endA | refine wkG ?_ | refine opB (fun b => ?_) | refine opA (fun a' c' hc1 hc2 => ?_) | (show GJ _ _ _ _ _ _ _; first | (apply GJ.and; exact rfl; intro hg) | (apply GJ.or; exact rfl; intro hg) | refine GJ.t omAuto ?_ | refine GJ.f omAuto ?_ | refine GJ.ft omAuto ?_ | refine GJ.ff omAuto ?_))
  refine lock_ok ?_
  repeat (first | exact endA | refine wkG ?_ | refine opB (fun b => ?_) | refine opA (fun a' c' hc1 hc2 => ?_) | (show GJ _ _ _ _ _ _ _; first | (apply GJ.and; exact rfl; intro hg) | (apply GJ.or; exact rfl; intro hg) | refine GJ.t omAuto ?_ | refine GJ.f omAuto ?_ | refine GJ.ft omAuto ?_ | refine GJ.ff omAuto ?_))
  exact Wk.id hk
theorem unlock_ok {b : Nat} {t : TypeId} {z0 z1 z2 z3 z4 z5 z6 z7 d sm : Value} {rest : List Value} [hb : HasBlk own b t (z0 :: z1 :: z2 :: z3 :: z4 :: z5 :: z6 :: z7 :: d :: .int .i32 1 :: sm :: rest) g] (hk : K (.tuple #[]) ro (g (.blk b t (z0 :: z1 :: z2 :: z3 :: z4 :: z5 :: z6 :: z7 :: d :: .int .i32 0 :: sm :: rest)))) : CallOk Tryz.prog 91 #[.pointer (some ⟨b, 9, none⟩)] ro own K := by
  obtain ⟨r, p1, p2⟩ := hb.split
  refine CallOk.perm p1 ?_
  clear hb
  refine CallOk.intro (args := [_]) (rs := []) T_ok Tryz.func91 Tryz.call91 rfl rfl (by kernel_rfl) rfl rfl ?_
  repeat (first | exact endA | refine wkG ?_ | refine opB (fun b => ?_) | refine opA (fun a' c' hc1 hc2 => ?_) | (show GJ _ _ _ _ _ _ _; first | (apply GJ.and; exact rfl; intro hg) | (apply GJ.or; exact rfl; intro hg) | refine GJ.t omAuto ?_ | refine GJ.f omAuto ?_ | refine GJ.ft omAuto ?_ | refine GJ.ff omAuto ?_))
  refine SeqOk.pass ?_
  repeat (first | exact endA | refine wkG ?_ | refine opB (fun b => ?_) | refine opA (fun a' c' hc1 hc2 => ?_) | (show GJ _ _ _ _ _ _ _; first | (apply GJ.and; exact rfl; intro hg) | (apply GJ.or; exact rfl; intro hg) | refine GJ.t omAuto ?_ | refine GJ.f omAuto ?_ | refine GJ.ft omAuto ?_ | refine GJ.ff omAuto ?_))
  refine OpOk.unsafe rfl rfl (by kernel_rfl) (by kernel_rfl) (by exact Ld.hasBlk rfl) ?_
  repeat (first | exact endA | refine wkG ?_ | refine opB (fun b => ?_) | refine opA (fun a' c' hc1 hc2 => ?_) | (show GJ _ _ _ _ _ _ _; first | (apply GJ.and; exact rfl; intro hg) | (apply GJ.or; exact rfl; intro hg) | refine GJ.t omAuto ?_ | refine GJ.f omAuto ?_ | refine GJ.ft omAuto ?_ | refine GJ.ff omAuto ?_))
  refine CallOk.marked Tryz.func103 (by kernel_rfl) (by kernel_rfl) (by kernel_rfl) .releaseMerge (by kernel_rfl) ?_
  repeat (first | exact endA | refine wkG ?_ | refine opB (fun b => ?_) | refine opA (fun a' c' hc1 hc2 => ?_) | (show GJ _ _ _ _ _ _ _; first | (apply GJ.and; exact rfl; intro hg) | (apply GJ.or; exact rfl; intro hg) | refine GJ.t omAuto ?_ | refine GJ.f omAuto ?_ | refine GJ.ft omAuto ?_ | refine GJ.ff omAuto ?_))
  refine CallOk.mark0 Tryz.func98 (by kernel_rfl) (by kernel_rfl) (by kernel_rfl) .disable (by kernel_rfl) ?_
  repeat (first | exact endA | refine wkG ?_ | refine opB (fun b => ?_) | refine opA (fun a' c' hc1 hc2 => ?_) | (show GJ _ _ _ _ _ _ _; first | (apply GJ.and; exact rfl; intro hg) | (apply GJ.or; exact rfl; intro hg) | refine GJ.t omAuto ?_ | refine GJ.f omAuto ?_ | refine GJ.ft omAuto ?_ | refine GJ.ff omAuto ?_))
  refine CallOk.aadd Tryz.func63 (by kernel_rfl) (by kernel_rfl) (by kernel_rfl) .i32 (by kernel_rfl) (s := 0) rfl (by decide) (.miss _ (.miss _ (.miss _ (.miss _ (.miss _ (.miss _ (.miss _ (.miss _ (.miss _ (.hit _ _ _)))))))))) ?_
  repeat (first | exact endA | refine wkG ?_ | refine opB (fun b => ?_) | refine opA (fun a' c' hc1 hc2 => ?_) | (show GJ _ _ _ _ _ _ _; first | (apply GJ.and; exact rfl; intro hg) | (apply GJ.or; exact rfl; intro hg) | refine GJ.t omAuto ?_ | refine GJ.f omAuto ?_ | refine GJ.ft omAuto ?_ | refine GJ.ff omAuto ?_))
  refine SeqOk.pass ?_
  repeat (first | exact endA | refine wkG ?_ | refine opB (fun b => ?_) | refine opA (fun a' c' hc1 hc2 => ?_) | (show GJ _ _ _ _ _ _ _; first | (apply GJ.and; exact rfl; intro hg) | (apply GJ.or; exact rfl; intro hg) | refine GJ.t omAuto ?_ | refine GJ.f omAuto ?_ | refine GJ.ft omAuto ?_ | refine GJ.ff omAuto ?_))
  refine CallOk.mark0 Tryz.func100 (by kernel_rfl) (by kernel_rfl) (by kernel_rfl) .enable (by kernel_rfl) ?_
  repeat (first | exact endA | refine wkG ?_ | refine opB (fun b => ?_) | refine opA (fun a' c' hc1 hc2 => ?_) | (show GJ _ _ _ _ _ _ _; first | (apply GJ.and; exact rfl; intro hg) | (apply GJ.or; exact rfl; intro hg) | refine GJ.t omAuto ?_ | refine GJ.f omAuto ?_ | refine GJ.ft omAuto ?_ | refine GJ.ff omAuto ?_))
  exact Wk.out (p2 _) hk
theorem bstoreD_ok {b o : Nat} {t : TypeId} {cs cs' : List Value} [hb : HasBlk own b t cs g] (hs : SetR cs o (.int .u32 1) cs') (hk : K (.tuple #[]) ro (g (.blk b t cs'))) : DefOk Tryz.prog 83 #[.pointer (some ⟨b, o, none⟩), .bool true] ro own K := by
  refine DefOk.intro (args := [_, _]) (rs := []) T_ok Tryz.func83 Tryz.call83 rfl rfl (by kernel_rfl) rfl rfl ?_
  repeat (first | exact endA | refine wkG ?_ | refine opB (fun b => ?_) | refine opA (fun a' c' hc1 hc2 => ?_) | (show GJ _ _ _ _ _ _ _; first | (apply GJ.and; exact rfl; intro hg) | (apply GJ.or; exact rfl; intro hg) | refine GJ.t omAuto ?_ | refine GJ.f omAuto ?_ | refine GJ.ft omAuto ?_ | refine GJ.ff omAuto ?_))
  refine Bs.all ?_
  repeat (first | exact endA | refine wkG ?_ | refine opB (fun b => ?_) | refine opA (fun a' c' hc1 hc2 => ?_) | (show GJ _ _ _ _ _ _ _; first | (apply GJ.and; exact rfl; intro hg) | (apply GJ.or; exact rfl; intro hg) | refine GJ.t omAuto ?_ | refine GJ.f omAuto ?_ | refine GJ.ft omAuto ?_ | refine GJ.ff omAuto ?_))
  refine b32_ok ?_
  repeat (first | exact endA | refine wkG ?_ | refine opB (fun b => ?_) | refine opA (fun a' c' hc1 hc2 => ?_) | (show GJ _ _ _ _ _ _ _; first | (apply GJ.and; exact rfl; intro hg) | (apply GJ.or; exact rfl; intro hg) | refine GJ.t omAuto ?_ | refine GJ.f omAuto ?_ | refine GJ.ft omAuto ?_ | refine GJ.ff omAuto ?_))
  refine CallOk.astore Tryz.func92 (by kernel_rfl) (by kernel_rfl) (by kernel_rfl) (by kernel_rfl) (by simpa using hs) ?_
  repeat (first | exact endA | refine wkG ?_ | refine opB (fun b => ?_) | refine opA (fun a' c' hc1 hc2 => ?_) | (show GJ _ _ _ _ _ _ _; first | (apply GJ.and; exact rfl; intro hg) | (apply GJ.or; exact rfl; intro hg) | refine GJ.t omAuto ?_ | refine GJ.f omAuto ?_ | refine GJ.ft omAuto ?_ | refine GJ.ff omAuto ?_))
  exact Wk.id hk
theorem iunlockD_ok {b : Nat} {t : TypeId} {z0 z1 z2 z3 z4 z5 z6 z7 d sm : Value} {rest : List Value} [hb : HasBlk own b t (z0 :: z1 :: z2 :: z3 :: z4 :: z5 :: z6 :: z7 :: d :: .int .i32 1 :: sm :: rest) g] (hk : K (.tuple #[]) ro (g (.blk b t (z0 :: z1 :: z2 :: z3 :: z4 :: z5 :: z6 :: z7 :: d :: .int .i32 0 :: sm :: rest)))) : DefOk Tryz.prog 82 #[.pointer (some ⟨b, 9, none⟩)] ro own K := by
  refine DefOk.intro (args := [_]) (rs := []) T_ok Tryz.func82 Tryz.call82 rfl rfl (by kernel_rfl) rfl rfl ?_
  repeat (first | exact endA | refine wkG ?_ | refine opB (fun b => ?_) | refine opA (fun a' c' hc1 hc2 => ?_) | (show GJ _ _ _ _ _ _ _; first | (apply GJ.and; exact rfl; intro hg) | (apply GJ.or; exact rfl; intro hg) | refine GJ.t omAuto ?_ | refine GJ.f omAuto ?_ | refine GJ.ft omAuto ?_ | refine GJ.ff omAuto ?_))
  refine unlock_ok ?_
  repeat (first | exact endA | refine wkG ?_ | refine opB (fun b => ?_) | refine opA (fun a' c' hc1 hc2 => ?_) | (show GJ _ _ _ _ _ _ _; first | (apply GJ.and; exact rfl; intro hg) | (apply GJ.or; exact rfl; intro hg) | refine GJ.t omAuto ?_ | refine GJ.f omAuto ?_ | refine GJ.ft omAuto ?_ | refine GJ.ff omAuto ?_))
  exact Wk.id hk
end
end Go.Proofs.YtinbmhbfcoiefaaGreatDoor
end
section
/- Contracts: the slow road of a Once within a Lazy (two calls are deferred), and Do. -/
namespace Go.Proofs.YtinbmhbfcoiefaaGreatDoor
open Go Go.E
set_option linter.unusedVariables false
set_option maxRecDepth 100000
set_option maxHeartbeats 1600000
section
variable {ro : Ro} {own r : Chs} {K : Value → Ro → Chs → Prop} {g : Chunk → Chs}
theorem slow_calls {b pl : Nat} {t : TypeId} {z0 z1 z2 z3 z4 z5 z6 z7 sm : Value} {rest : List Value} {Ψ : Ro → List Value → Chs → Prop} (w : World) (hs : Sat ro (.blk b t (z0 :: z1 :: z2 :: z3 :: z4 :: z5 :: z6 :: z7 :: .int .u32 0 :: .int .i32 0 :: sm :: rest) :: r) w.heap)
    (hfun : CallOk Tryz.prog 38 #[ptr' pl] ro (.blk b t (z0 :: z1 :: z2 :: z3 :: z4 :: z5 :: z6 :: z7 :: .int .u32 0 :: .int .i32 1 :: sm :: rest) :: r) (fun v ro' own' => v = .tuple #[] ∧ ∃ rest' r', own' = .blk b t (z0 :: z1 :: z2 :: z3 :: z4 :: z5 :: z6 :: z7 :: .int .u32 0 :: .int .i32 1 :: sm :: rest') :: r' ∧ Ψ ro' rest' r'))
    (hk : ∀ ro' rest' r', Le ro ro' → Ψ ro' rest' r' → K (.tuple #[]) ro' (.blk b t (z0 :: z1 :: z2 :: z3 :: z4 :: z5 :: z6 :: z7 :: .int .u32 1 :: .int .i32 0 :: sm :: rest') :: r')) :
    Calls Tryz.prog 62 #[.pointer (some ⟨b, 8, none⟩), .func (.func 38) #[] #[ptr' pl]] w (fun e w' => ∃ v, e = .returned v ∧ Post ro K w v w') := by
  have hlock := CallOk.calls Tryz.call81 (show CallOk Tryz.prog 81 #[.pointer (some ⟨b, 9, none⟩)] ro (.blk b t (z0 :: z1 :: z2 :: z3 :: z4 :: z5 :: z6 :: z7 :: .int .u32 0 :: .int .i32 0 :: sm :: rest) :: r) (fun v ro' own' => v = .tuple #[] ∧ ro' = ro ∧ own' = .blk b t (z0 :: z1 :: z2 :: z3 :: z4 :: z5 :: z6 :: z7 :: .int .u32 0 :: .int .i32 1 :: sm :: rest) :: r) by
    refine ilock_ok ?_
    exact ⟨rfl, rfl, rfl⟩) hs
  have hload : ∀ w1 : World, Sat ro (.blk b t (z0 :: z1 :: z2 :: z3 :: z4 :: z5 :: z6 :: z7 :: .int .u32 0 :: .int .i32 1 :: sm :: rest) :: r) w1.heap → Calls Tryz.prog 61 #[.pointer (some ⟨b, 8, none⟩)] w1 (fun e w' => ∃ v, e = .returned v ∧ Post ro (fun v ro' own' => v = .bool false ∧ ro' = ro ∧ own' = .blk b t (z0 :: z1 :: z2 :: z3 :: z4 :: z5 :: z6 :: z7 :: .int .u32 0 :: .int .i32 1 :: sm :: rest) :: r) w1 v w') := fun w1 hs1 =>
    CallOk.calls Tryz.call61 (by
      refine bload_ok (x := 0) (by exact Ld.hasBlk rfl) ?_
      exact ⟨rfl, rfl, rfl⟩) hs1
  have hnot : ∀ (x : Bool) (w : World), (Op.unary .not (.bool x)).run Tryz.prog w = .ok (.bool (!x)) w := fun _ _ => rfl
  have hcl := Tryz.call38
  go_enter_defers Tryz.func62, Tryz.ntmps62
  go_wp2_with (first
    | (go_at_call 81; refine hlock.mono ?_; rintro e w1 ⟨v, rfl, hh1, ro1, own1, hl1, hs1, rfl, rfl, rfl⟩)
    | (go_at_call 61; refine (hload _ (by assumption)).mono ?_; rintro e w2 ⟨v, rfl, hh2, ro2, own2, hl2, hs2, rfl, rfl, rfl⟩)
    | (go_at_call 38; refine (CallOk.calls hcl hfun (by assumption)).mono ?_; rintro e w3 ⟨v, rfl, hh3, ro3, own3, hl3, hs3, rfl, rest', r', rfl, hΨ⟩))
  refine leaves_cons (f := 83) (args := #[.pointer (some ⟨b, 8, none⟩), .bool true]) (by simp) (by simp [go_sem, Tryz.call83]) ?_
  have hst : DefOk Tryz.prog 83 #[.pointer (some ⟨b, 8, none⟩), .bool true] ro3 (.blk b t (z0 :: z1 :: z2 :: z3 :: z4 :: z5 :: z6 :: z7 :: .int .u32 0 :: .int .i32 1 :: sm :: rest') :: r') (fun v ro' own' => v = .tuple #[] ∧ ro' = ro3 ∧ own' = .blk b t (z0 :: z1 :: z2 :: z3 :: z4 :: z5 :: z6 :: z7 :: .int .u32 1 :: .int .i32 1 :: sm :: rest') :: r') := by
    refine bstoreD_ok (.miss _ (.miss _ (.miss _ (.miss _ (.miss _ (.miss _ (.miss _ (.miss _ (.hit _ _ _))))))))) ?_
    exact ⟨rfl, rfl, rfl⟩
  refine (hst.run w3 _ hs3).mono ?_
  rintro e u' w4 ⟨rfl, v, rfl, hh4, ro4, own4, hl4, hs4, rfl, rfl, rfl⟩
  refine leaves_cons (f := 82) (args := #[.pointer (some ⟨b, 9, none⟩)]) (by simp [settle]) (by simp [go_sem, Tryz.call82]) ?_
  have hul : DefOk Tryz.prog 82 #[.pointer (some ⟨b, 9, none⟩)] ro4 (.blk b t (z0 :: z1 :: z2 :: z3 :: z4 :: z5 :: z6 :: z7 :: .int .u32 1 :: .int .i32 1 :: sm :: rest') :: r') (fun v ro' own' => v = .tuple #[] ∧ ro' = ro4 ∧ own' = .blk b t (z0 :: z1 :: z2 :: z3 :: z4 :: z5 :: z6 :: z7 :: .int .u32 1 :: .int .i32 0 :: sm :: rest') :: r') := by
    refine iunlockD_ok ?_
    exact ⟨rfl, rfl, rfl⟩
  refine (hul.run w4 _ hs4).mono ?_
  rintro e u' w5 ⟨rfl, v, rfl, hh5, ro5, own5, hl5, hs5, rfl, rfl, rfl⟩
  have hhp : Hp w5.heap w w5 := ((((hh1.trans hh2).trans hh3).trans hh4).trans hh5)
  have hfin : ∃ v : Value, Ending.returned (.tuple #[]) = Ending.returned v ∧ Post ro2 K w v w5 := ⟨_, rfl, hhp, ro5, _, hl3, hs5, hk _ _ _ hl3 hΨ⟩
  exact ⟨.tuple #[], by simp [results, Tryz.results62], hfin⟩
theorem slow_ok {b pl : Nat} {t : TypeId} {z0 z1 z2 z3 z4 z5 z6 z7 sm : Value} {rest : List Value} {Ψ : Ro → List Value → Chs → Prop}
    (hfun : CallOk Tryz.prog 38 #[ptr' pl] ro (.blk b t (z0 :: z1 :: z2 :: z3 :: z4 :: z5 :: z6 :: z7 :: .int .u32 0 :: .int .i32 1 :: sm :: rest) :: r) (fun v ro' own' => v = .tuple #[] ∧ ∃ rest' r', own' = .blk b t (z0 :: z1 :: z2 :: z3 :: z4 :: z5 :: z6 :: z7 :: .int .u32 0 :: .int .i32 1 :: sm :: rest') :: r' ∧ Ψ ro' rest' r'))
    (hk : ∀ ro' rest' r', Le ro ro' → Ψ ro' rest' r' → K (.tuple #[]) ro' (.blk b t (z0 :: z1 :: z2 :: z3 :: z4 :: z5 :: z6 :: z7 :: .int .u32 1 :: .int .i32 0 :: sm :: rest') :: r')) :
    CallOk Tryz.prog 62 #[.pointer (some ⟨b, 8, none⟩), .func (.func 38) #[] #[ptr' pl]] ro (.blk b t (z0 :: z1 :: z2 :: z3 :: z4 :: z5 :: z6 :: z7 :: .int .u32 0 :: .int .i32 0 :: sm :: rest) :: r) K :=
  ⟨fun w hs => .inl ⟨Tryz.call62 _ w, slow_calls w hs hfun hk⟩⟩
theorem do_first {b pl : Nat} {t : TypeId} {z0 z1 z2 z3 z4 z5 z6 z7 sm : Value} {rest : List Value} {Ψ : Ro → List Value → Chs → Prop}
    (hfun : CallOk Tryz.prog 38 #[ptr' pl] ro (.blk b t (z0 :: z1 :: z2 :: z3 :: z4 :: z5 :: z6 :: z7 :: .int .u32 0 :: .int .i32 1 :: sm :: rest) :: r) (fun v ro' own' => v = .tuple #[] ∧ ∃ rest' r', own' = .blk b t (z0 :: z1 :: z2 :: z3 :: z4 :: z5 :: z6 :: z7 :: .int .u32 0 :: .int .i32 1 :: sm :: rest') :: r' ∧ Ψ ro' rest' r'))
    (hk : ∀ ro' rest' r', Le ro ro' → Ψ ro' rest' r' → K (.tuple #[]) ro' (.blk b t (z0 :: z1 :: z2 :: z3 :: z4 :: z5 :: z6 :: z7 :: .int .u32 1 :: .int .i32 0 :: sm :: rest') :: r')) :
    CallOk Tryz.prog 37 #[.pointer (some ⟨b, 8, none⟩), .func (.func 38) #[] #[ptr' pl]] ro (.blk b t (z0 :: z1 :: z2 :: z3 :: z4 :: z5 :: z6 :: z7 :: .int .u32 0 :: .int .i32 0 :: sm :: rest) :: r) K := by
  refine CallOk.intro (args := [_, _]) (rs := []) T_ok Tryz.func37 Tryz.call37 rfl rfl (by kernel_rfl) rfl rfl ?_
  repeat (first | exact endA | refine wkG ?_ | refine opB (fun b => ?_) | refine opA (fun a' c' hc1 hc2 => ?_) | (show GJ _ _ _ _ _ _ _; first | (apply GJ.and; exact rfl; intro hg) | (apply GJ.or; exact rfl; intro hg) | refine GJ.t omAuto ?_ | refine GJ.f omAuto ?_ | refine GJ.ft omAuto ?_ | refine GJ.ff omAuto ?_))
  refine bload_ok (x := 0) (by exact Ld.hasBlk rfl) ?_
  repeat (first | exact endA | refine wkG ?_ | refine opB (fun b => ?_) | refine opA (fun a' c' hc1 hc2 => ?_) | (show GJ _ _ _ _ _ _ _; first | (apply GJ.and; exact rfl; intro hg) | (apply GJ.or; exact rfl; intro hg) | refine GJ.t omAuto ?_ | refine GJ.f omAuto ?_ | refine GJ.ft omAuto ?_ | refine GJ.ff omAuto ?_))
  refine slow_ok hfun (fun ro' rest' r' hl hΨ => ?_)
  repeat (first | exact endA | refine wkG ?_ | refine opB (fun b => ?_) | refine opA (fun a' c' hc1 hc2 => ?_) | (show GJ _ _ _ _ _ _ _; first | (apply GJ.and; exact rfl; intro hg) | (apply GJ.or; exact rfl; intro hg) | refine GJ.t omAuto ?_ | refine GJ.f omAuto ?_ | refine GJ.ft omAuto ?_ | refine GJ.ff omAuto ?_))
  exact Wk.id (hk _ _ _ hl hΨ)
end
end Go.Proofs.YtinbmhbfcoiefaaGreatDoor
end
section
/- Contracts of dfa: Of, Later, Auto, Counts. -/
namespace Go.Proofs.YtinbmhbfcoiefaaGreatDoor
open Go Go.E
set_option linter.unusedVariables false
set_option linter.unusedSimpArgs false
set_option maxRecDepth 10000
/-- Why there is no automaton of an expression (0: there is one), and it. -/
def lstE (n : RgD) : Nat := if (makeN n).1 ≠ 0 then (makeN n).1 else (makeA (makeN n).2).1
def lstD (n : RgD) : DfaA := leastA (makeA (makeN n).2).2
/-- What Of tells first. -/
def OfP (ro : Ro) (n : RgD) (P : Value) : Prop := (lstE n ≠ 0 ∧ P = .pointer none) ∨ (lstE n = 0 ∧ ∃ p, P = ptr' p ∧ DAt ro p (lstD n))
theorem make_check {n : RgD} (h : (makeN n).1 = 0) : (checkD n 512).1 = 0 := by
  unfold makeN at h
  split at h
  · rename_i h1; exact absurd h h1
  · rename_i h1; exact Decidable.of_not_not h1
theorem make_size {n : RgD} (h : (makeN n).1 = 0) : wrongD n = 0 ∧ (setsN (makeN n).2.rows).length ≤ 1000 := by
  obtain ⟨h1, h2, _⟩ := check_zero n 512 (make_check h)
  have := sets_len n
  exact ⟨h1, by omega⟩
section
variable {ro : Ro} {own r : Chs} {K : Value → Ro → Chs → Prop} {g : Chunk → Chs}
theorem dof_ok {n : RgD} {v : List Value} (ht : TabOk ro) (hv : RgOk ro n v) (hk : ∀ ro' P, Le ro ro' → OfP ro' n P → K (.tuple #[P, .int .i64 (lstE n : Int)]) ro' own) :
    CallOk Tryz.prog 20 #[.agg v.toArray] ro own K := by
  have hin := rg_ins hv
  obtain ⟨a1, c1, hvc⟩ := hv.cells
  have hv0 := hv
  subst hvc
  have hK := make_k hin
  refine CallOk.intro (args := [_]) (rs := [_, _]) T_ok Tryz.func20 Tryz.call20 rfl rfl (by kernel_rfl) rfl rfl ?_
  repeat (first | exact endA | refine wkP ?_ | refine opB (fun b => ?_) | refine opA (fun a' c' hc1 hc2 => ?_) | (apply GJ.and; exact rfl; intro hg) | (apply GJ.or; exact rfl; intro hg))
  refine nmake_ok hv0 (fun ro2 v2 hl2 hA => ?_)
  have hA0 := hA
  have hE : lstE n = if (makeN n).1 ≠ 0 then (makeN n).1 else (makeA (makeN n).2).1 := rfl
  have hD : lstD n = leastA (makeA (makeN n).2).2 := rfl
  by_cases h1 : (makeN n).1 = 0
  · obtain ⟨hw, hsl⟩ := make_size h1
    rw [if_neg (by rw [h1]; decide)] at hE
    rw [h1]
    obtain ⟨ad, cp, hs, rfl, hrs, hrw⟩ := hA
    repeat (first | exact endA | refine wkP ?_ | refine opB (fun b => ?_) | refine opA (fun a' c' hc1 hc2 => ?_) | (apply GJ.and; exact rfl; intro hg) | (apply GJ.or; exact rfl; intro hg))
    refine dmake_ok hA0 hK (ht.le hl2) hsl (fun h2 ro3 hl3 => ?_) (fun h2 ro3 p hl3 hp => ?_)
    · rw [← hE] at h2 ⊢
      repeat (first | exact endA | refine wkP ?_ | refine opB (fun b => ?_) | refine opA (fun a' c' hc1 hc2 => ?_) | (apply GJ.and; exact rfl; intro hg) | (apply GJ.or; exact rfl; intro hg))
      exact Wk.outS Sup.auto (.refl _) (hk ro3 _ (hl2.trans hl3) (.inl ⟨h2, rfl⟩))
    · have hm := (made_a2 hK.ok.to hK.sets h2).1
      obtain ⟨w, hw6, ho, hs⟩ := hm.ok
      repeat (first | exact endA | refine wkP ?_ | refine opB (fun b => ?_) | refine opA (fun a' c' hc1 hc2 => ?_) | (apply GJ.and; exact rfl; intro hg) | (apply GJ.or; exact rfl; intro hg))
      refine dleast_ok hp ho hs hw6 hm.pos hm.le (fun ro4 p4 hl4 hp4 => ?_)
      rw [← hD] at hp4
      repeat (first | exact endA | refine wkP ?_ | refine opB (fun b => ?_) | refine opA (fun a' c' hc1 hc2 => ?_) | (apply GJ.and; exact rfl; intro hg) | (apply GJ.or; exact rfl; intro hg))
      have h0 : lstE n = 0 := hE.trans h2
      have := hk ro4 (ptr' p4) ((hl2.trans hl3).trans hl4) (.inr ⟨h0, p4, rfl, hp4⟩)
      rw [h0] at this
      exact Wk.outS Sup.auto (.refl _) this
  · rw [if_pos h1] at hE
    have h2 : lstE n ≠ 0 := by rw [hE]; exact h1
    obtain ⟨ad, cp, hs, rfl, hrs, hrw⟩ := hA
    rw [← hE]
    repeat (first | exact endA | refine wkP ?_ | refine opB (fun b => ?_) | refine opA (fun a' c' hc1 hc2 => ?_) | (apply GJ.and; exact rfl; intro hg) | (apply GJ.or; exact rfl; intro hg))
    exact Wk.outS Sup.auto (.refl _) (hk ro2 _ hl2 (.inl ⟨h2, rfl⟩))
theorem later_ok {n : RgD} {a : Option Addr} {c : Nat} (hk : ∀ q, K (ptr' q) ro (.blk q 97 [.int .i64 n.kind, wV n.set.a, wV n.set.b, wV n.set.c, wV n.set.d, .slice a n.kids.length c, .int .i64 n.min, .int .i64 n.max, .int .u32 0, .int .i32 0, .int .u32 0, .pointer none, .int .i64 0, .int .i64 0, .int .i32 0] :: own)) :
    CallOk Tryz.prog 21 #[.agg (nodeV n.kind n.set a n.kids.length c n.min n.max).toArray] ro own K := by
  refine CallOk.intro (args := [_]) (rs := [_]) T_ok Tryz.func21 Tryz.call21 rfl rfl (by kernel_rfl) rfl rfl ?_
  repeat (first | exact endA | refine wkP ?_ | refine opB (fun b => ?_) | refine opA (fun a' c' hc1 hc2 => ?_) | (apply GJ.and; exact rfl; intro hg) | (apply GJ.or; exact rfl; intro hg))
  exact Wk.outS Sup.auto (.refl _) (hk _)
theorem iadd64_ok {b o : Nat} {t : TypeId} {cs : List Value} {x : Int} [hb : HasBlk own b t cs g] (hx : cs[o]? = some (.int .i64 x)) (hr : 0 ≤ x ∧ x ≤ 1000000) (hk : K (.int .i64 (x + 1)) ro (g (.blk b t (cs.set o (.int .i64 (x + 1)))))) :
    CallOk Tryz.prog 36 #[.pointer (some ⟨b, o, none⟩), .int .i64 1] ro own K := by
  refine CallOk.intro (args := [_, _]) (rs := [_]) T_ok Tryz.func36 Tryz.call36 rfl rfl (by kernel_rfl) rfl rfl ?_
  repeat (first | exact endA | refine wkP ?_ | refine opB (fun b => ?_) | refine opA (fun a' c' hc1 hc2 => ?_) | (apply GJ.and; exact rfl; intro hg) | (apply GJ.or; exact rfl; intro hg))
  refine CallOk.aaddAt Tryz.func60 (by kernel_rfl) (by kernel_rfl) (by kernel_rfl) .i64 (by kernel_rfl) (s := x + 1) hx (by simp [IntKind.wrap, IntKind.bits, IntKind.signed]; omega) ?_
  repeat (first | exact endA | refine wkP ?_ | refine opB (fun b => ?_) | refine opA (fun a' c' hc1 hc2 => ?_) | (apply GJ.and; exact rfl; intro hg) | (apply GJ.or; exact rfl; intro hg))
  exact Wk.id hk
theorem iadd32_ok {b o : Nat} {t : TypeId} {cs : List Value} {x : Int} [hb : HasBlk own b t cs g] (hx : cs[o]? = some (.int .i32 x)) (hr : 0 ≤ x ∧ x ≤ 1000000) (hk : K (.int .i32 (x + 1)) ro (g (.blk b t (cs.set o (.int .i32 (x + 1)))))) :
    CallOk Tryz.prog 39 #[.pointer (some ⟨b, o, none⟩), .int .i32 1] ro own K := by
  refine CallOk.intro (args := [_, _]) (rs := [_]) T_ok Tryz.func39 Tryz.call39 rfl rfl (by kernel_rfl) rfl rfl ?_
  repeat (first | exact endA | refine wkP ?_ | refine opB (fun b => ?_) | refine opA (fun a' c' hc1 hc2 => ?_) | (apply GJ.and; exact rfl; intro hg) | (apply GJ.or; exact rfl; intro hg))
  refine CallOk.aaddAt Tryz.func63 (by kernel_rfl) (by kernel_rfl) (by kernel_rfl) .i32 (by kernel_rfl) (s := x + 1) hx (by simp [IntKind.wrap, IntKind.bits, IntKind.signed]; omega) ?_
  repeat (first | exact endA | refine wkP ?_ | refine opB (fun b => ?_) | refine opA (fun a' c' hc1 hc2 => ?_) | (apply GJ.and; exact rfl; intro hg) | (apply GJ.or; exact rfl; intro hg))
  exact Wk.id hk
theorem iload32_ok {b o : Nat} {x : Int} (hl : Ld ro own b o (.int .i32 x)) (hk : K (.int .i32 x) ro own) : CallOk Tryz.prog 35 #[.pointer (some ⟨b, o, none⟩)] ro own K := by
  refine CallOk.intro (args := [_]) (rs := [_]) T_ok Tryz.func35 Tryz.call35 rfl rfl (by kernel_rfl) rfl rfl ?_
  repeat (first | exact endA | refine wkP ?_ | refine opB (fun b => ?_) | refine opA (fun a' c' hc1 hc2 => ?_) | (apply GJ.and; exact rfl; intro hg) | (apply GJ.or; exact rfl; intro hg))
  refine CallOk.aload Tryz.func59 (by kernel_rfl) (by kernel_rfl) (by kernel_rfl) .i32 (by kernel_rfl) (x := x) (by simpa using hl) ?_
  repeat (first | exact endA | refine wkP ?_ | refine opB (fun b => ?_) | refine opA (fun a' c' hc1 hc2 => ?_) | (apply GJ.and; exact rfl; intro hg) | (apply GJ.or; exact rfl; intro hg))
  exact Wk.id hk
theorem iload64_ok {b o : Nat} {x : Int} (hl : Ld ro own b o (.int .i64 x)) (hk : K (.int .i64 x) ro own) : CallOk Tryz.prog 34 #[.pointer (some ⟨b, o, none⟩)] ro own K := by
  refine CallOk.intro (args := [_]) (rs := [_]) T_ok Tryz.func34 Tryz.call34 rfl rfl (by kernel_rfl) rfl rfl ?_
  repeat (first | exact endA | refine wkP ?_ | refine opB (fun b => ?_) | refine opA (fun a' c' hc1 hc2 => ?_) | (apply GJ.and; exact rfl; intro hg) | (apply GJ.or; exact rfl; intro hg))
  refine CallOk.aload Tryz.func58 (by kernel_rfl) (by kernel_rfl) (by kernel_rfl) .i64 (by kernel_rfl) (x := x) (by simpa using hl) ?_
  repeat (first | exact endA | refine wkP ?_ | refine opB (fun b => ?_) | refine opA (fun a' c' hc1 hc2 => ?_) | (apply GJ.and; exact rfl; intro hg) | (apply GJ.or; exact rfl; intro hg))
  exact Wk.id hk
theorem counts_ok {q : Nat} {z0 z1 z2 z3 z4 z5 z6 z7 d s sm P : Value} {e x y : Int} (hy : 0 ≤ y ∧ y ≤ 1000000) (hk : K (.tuple #[.int .i64 x, .int .i64 y]) ro (.blk q 97 [z0, z1, z2, z3, z4, z5, z6, z7, d, s, sm, P, .int .i64 e, .int .i64 x, .int .i32 y] :: own)) :
    CallOk Tryz.prog 22 #[ptr' q] ro (.blk q 97 [z0, z1, z2, z3, z4, z5, z6, z7, d, s, sm, P, .int .i64 e, .int .i64 x, .int .i32 y] :: own) K := by
  refine CallOk.intro (args := [_]) (rs := [_, _]) T_ok Tryz.func22 Tryz.call22 rfl rfl (by kernel_rfl) rfl rfl ?_
  repeat (first | exact endA | refine wkP ?_ | refine opB (fun b => ?_) | refine opA (fun a' c' hc1 hc2 => ?_) | (apply GJ.and; exact rfl; intro hg) | (apply GJ.or; exact rfl; intro hg))
  refine iload64_ok (x := x) (by exact Ld.hasBlkAt rfl) ?_
  repeat (first | exact endA | refine wkP ?_ | refine opB (fun b => ?_) | refine opA (fun a' c' hc1 hc2 => ?_) | (apply GJ.and; exact rfl; intro hg) | (apply GJ.or; exact rfl; intro hg))
  refine iload32_ok (x := y) (by exact Ld.hasBlkAt rfl) ?_
  repeat (first | exact endA | refine wkP ?_ | refine opB (fun b => ?_) | refine opA (fun a' c' hc1 hc2 => ?_) | (apply GJ.and; exact rfl; intro hg) | (apply GJ.or; exact rfl; intro hg))
  rw [show IntKind.i64.wrap y = y from wrap_i64 (by omega)]
  exact Wk.outS Sup.auto (.refl _) hk
/-- The closure of Auto: the automaton is made. -/
theorem auto1_ok {n : RgD} {a : Option Addr} {c q pl : Nat} {d s sm : Value} {x : Int} (ht : TabOk ro) (hv : RgOk ro n (nodeV n.kind n.set a n.kids.length c n.min n.max))
    (hk : ∀ ro' P, Le ro ro' → OfP ro' n P → K (.tuple #[]) ro' (.blk q 97 [.int .i64 n.kind, wV n.set.a, wV n.set.b, wV n.set.c, wV n.set.d, .slice a n.kids.length c, .int .i64 n.min, .int .i64 n.max, d, s, sm, P, .int .i64 (lstE n : Int), .int .i64 x, .int .i32 1] :: .blk pl 56 [ptr' q] :: own)) :
    CallOk Tryz.prog 38 #[ptr' pl] ro (.blk q 97 [.int .i64 n.kind, wV n.set.a, wV n.set.b, wV n.set.c, wV n.set.d, .slice a n.kids.length c, .int .i64 n.min, .int .i64 n.max, d, s, sm, .pointer none, .int .i64 0, .int .i64 x, .int .i32 0] :: .blk pl 56 [ptr' q] :: own) K := by
  refine CallOk.intro (args := [_]) (rs := []) T_ok Tryz.func38 Tryz.call38 rfl rfl (by kernel_rfl) rfl rfl ?_
  repeat (first | exact endA | refine wkN ?_ | refine Bs.all ?_ | (show QOk _ _ _ _ _ _ _; refine QOk.build rfl rfl Nf.auto ?_) | refine opB (fun b => ?_) | refine opA (fun a' c' hc1 hc2 => ?_) | (show GJ _ _ _ _ _ _ _; first | refine GJ.t (by decide) ?_ | refine GJ.f (by decide) ?_ | refine GJ.ft (by decide) ?_ | refine GJ.ff (by decide) ?_) | (show Br _ _ _; first | refine Br.t (by decide) ?_ | refine Br.f (by decide) ?_) | (apply GJ.and; exact rfl; intro hg) | (apply GJ.or; exact rfl; intro hg))
  refine CodeOk.drawn [.look 0, .look 1, .look 2, .look 3, .look 4, .keep 5, .keep 6, .look 7, .look 8, .look 9, .look 10, .look 11, .keep 12, .look 13, .look 14, .keep 15] rfl (by kernel_rfl) (by rfl) (by kernel_rfl) ?_
  refine Stop.mk ?_
  refine Bs.mk ⟨[.blk pl 56 [ptr' q]], Sup.auto, ?_⟩
  repeat (first | exact endA | refine wkU ?_ | (show QOk _ _ _ _ _ _ _; refine QOk.build rfl rfl Nf.auto ?_) | (show GJ _ _ _ _ _ _ _; first | with_reducible refine GJ.neF ?_ | with_reducible refine GJ.neT ?_) | (show Br _ _ _; with_reducible refine Br.ne ?_) | refine opB (fun b => ?_) | refine opA (fun a' c' hc1 hc2 => ?_) | (apply GJ.and; exact rfl; intro hg) | (apply GJ.or; exact rfl; intro hg))
  refine dof_ok ht hv (fun ro' P hl hp => ?_)
  repeat (first | exact endA | refine wkU ?_ | (show QOk _ _ _ _ _ _ _; refine QOk.build rfl rfl Nf.auto ?_) | (show GJ _ _ _ _ _ _ _; first | with_reducible refine GJ.neF ?_ | with_reducible refine GJ.neT ?_) | (show Br _ _ _; with_reducible refine Br.ne ?_) | refine opB (fun b => ?_) | refine opA (fun a' c' hc1 hc2 => ?_) | (apply GJ.and; exact rfl; intro hg) | (apply GJ.or; exact rfl; intro hg))
  obtain ⟨o, rfl⟩ : ∃ o, P = .pointer o := by
    rcases hp with ⟨h1, rfl⟩ | ⟨h1, p, rfl, h3⟩ <;> exact ⟨_, rfl⟩
  repeat (first | exact endA | refine wkU ?_ | (show QOk _ _ _ _ _ _ _; refine QOk.build rfl rfl Nf.auto ?_) | (show GJ _ _ _ _ _ _ _; first | with_reducible refine GJ.neF ?_ | with_reducible refine GJ.neT ?_) | (show Br _ _ _; with_reducible refine Br.ne ?_) | refine opB (fun b => ?_) | refine opA (fun a' c' hc1 hc2 => ?_) | (apply GJ.and; exact rfl; intro hg) | (apply GJ.or; exact rfl; intro hg))
  refine iadd32_ok (x := 0) rfl (by omega) ?_
  repeat (first | exact endA | refine wkP ?_ | refine opB (fun b => ?_) | refine opA (fun a' c' hc1 hc2 => ?_) | (apply GJ.and; exact rfl; intro hg) | (apply GJ.or; exact rfl; intro hg))
  exact Wk.outS Sup.auto (.refl _) (hk ro' _ hl hp)
/-- A Lazy's cells: not made yet. -/
def lz0 (n : RgD) (a : Option Addr) (c : Nat) (x : Int) : List Value := [.int .i64 n.kind, wV n.set.a, wV n.set.b, wV n.set.c, wV n.set.d, .slice a n.kids.length c, .int .i64 n.min, .int .i64 n.max, .int .u32 0, .int .i32 0, .int .u32 0, .pointer none, .int .i64 0, .int .i64 x, .int .i32 0]
/-- A Lazy's cells: made. -/
def lz1 (n : RgD) (a : Option Addr) (c : Nat) (x : Int) (P : Value) : List Value := [.int .i64 n.kind, wV n.set.a, wV n.set.b, wV n.set.c, wV n.set.d, .slice a n.kids.length c, .int .i64 n.min, .int .i64 n.max, .int .u32 1, .int .i32 0, .int .u32 0, P, .int .i64 (lstE n : Int), .int .i64 x, .int .i32 1]
theorem lauto0_ok {n : RgD} {a : Option Addr} {c q : Nat} {x : Int} (ht : TabOk ro) (hv : RgOk ro n (nodeV n.kind n.set a n.kids.length c n.min n.max)) (hx : 0 ≤ x ∧ x ≤ 1000000)
    (hk : ∀ ro' P, Le ro ro' → OfP ro' n P → K (.tuple #[P, .int .i64 (lstE n : Int)]) ro' (.blk q 97 (lz1 n a c (x + 1) P) :: own)) :
    CallOk Tryz.prog 23 #[ptr' q] ro (.blk q 97 (lz0 n a c x) :: own) K := by
  dsimp only [lz0, lz1] at hk ⊢
  refine CallOk.intro (args := [_]) (rs := [_, _]) T_ok Tryz.func23 Tryz.call23 rfl rfl (by kernel_rfl) rfl rfl ?_
  repeat (first | exact endA | refine wkP ?_ | refine opB (fun b => ?_) | refine opA (fun a' c' hc1 hc2 => ?_) | (apply GJ.and; exact rfl; intro hg) | (apply GJ.or; exact rfl; intro hg))
  refine iadd64_ok (x := x) rfl hx ?_
  dsimp only [List.set]
  repeat (first | exact endA | refine wkP ?_ | refine opB (fun b => ?_) | refine opA (fun a' c' hc1 hc2 => ?_) | (apply GJ.and; exact rfl; intro hg) | (apply GJ.or; exact rfl; intro hg))
  refine CallOk.perm (.swap _ _ _) ?_
  refine do_first (rest := [.pointer none, .int .i64 0, .int .i64 (x + 1), .int .i32 0]) (Ψ := fun ro' rest' r' => ∃ P, Le ro ro' ∧ OfP ro' n P ∧ rest' = [P, .int .i64 (lstE n : Int), .int .i64 (x + 1), .int .i32 1] ∧ r' = .blk b 56 [ptr' q] :: own) (auto1_ok ht hv (fun ro' P hl hp => ⟨rfl, _, _, rfl, P, hl, hp, rfl, rfl⟩)) ?_
  rintro ro' rest' r' hl ⟨P, hl2, hp, rfl, rfl⟩
  obtain ⟨o, rfl⟩ : ∃ o, P = .pointer o := by
    rcases hp with ⟨h1, rfl⟩ | ⟨h1, p, rfl, h3⟩ <;> exact ⟨_, rfl⟩
  repeat (first | exact endA | refine wkP ?_ | refine opB (fun b => ?_) | refine opA (fun a' c' hc1 hc2 => ?_) | (apply GJ.and; exact rfl; intro hg) | (apply GJ.or; exact rfl; intro hg))
  exact Wk.outS Sup.auto (.refl _) (hk ro' _ hl hp)
end
end Go.Proofs.YtinbmhbfcoiefaaGreatDoor
end
section
/- Contracts of dfa's laws: few, made. -/
namespace Go.Proofs.YtinbmhbfcoiefaaGreatDoor
open Go Go.E
set_option linter.unusedVariables false
set_option linter.unusedSimpArgs false
set_option maxRecDepth 10000
structure Fw8C (n : RgD) : Prop where
  run : ∀ {ro : Ro} {r : Chs} {K : Value → Ro → Chs → Prop} {p : Nat} {v : List Value} {M : Int}, RgOk ro n v → 0 ≤ M → M ≤ 100000 → K (.bool (fewX 4 5 n M).1) ro (.blk p 3 [.int .i64 (fewX 4 5 n M).2] :: r) →
    CallOk Tryz.prog 19 #[.agg v.toArray, ptr' p] ro (.blk p 3 [.int .i64 M] :: r) K
set_option maxHeartbeats 16000000 in
theorem fw8C : ∀ n, Fw8C n := RgD.ind fun k z l x y ih => ⟨fun {ro r K p v M} hv hM hM2 hk => by
  rw [RgOk] at hv
  obtain ⟨ad, cp, cs, rfl, hs, hrs, hks⟩ := hv
  have hle := hrs.le
  have hmx := hrs.max
  unfold maxLen at hmx
  rw [fewX] at hk
  dsimp only at hk
  by_cases h0 : M - 1 < 0
  · rw [if_pos (.inl (.inl h0))] at hk
    refine CallOk.intro (args := [_, _]) (rs := [_]) T_ok Tryz.func19 Tryz.call19 rfl rfl (by kernel_rfl) rfl rfl ?_
    repeat (first | exact endA | refine wkP ?_ | refine opB (fun b => ?_) | refine opA (fun a' c' hc1 hc2 => ?_) | (apply GJ.and; exact rfl; intro hg) | (apply GJ.or; exact rfl; intro hg))
    exact Wk.outS Sup.auto (.refl _) hk
  by_cases h100 : 30 < l.length
  · rw [if_pos (.inl (.inr h100))] at hk
    refine CallOk.intro (args := [_, _]) (rs := [_]) T_ok Tryz.func19 Tryz.call19 rfl rfl (by kernel_rfl) rfl rfl ?_
    repeat (first | exact endA | refine wkP ?_ | refine opB (fun b => ?_) | refine opA (fun a' c' hc1 hc2 => ?_) | (apply GJ.and; exact rfl; intro hg) | (apply GJ.or; exact rfl; intro hg))
    exact Wk.outS Sup.auto (.refl _) hk
  by_cases hk5 : k = 5 ∧ (4 < x ∨ 5 < y)
  · rw [if_pos (.inr hk5)] at hk
    obtain ⟨rfl, hk6⟩ := hk5
    by_cases hx6 : 4 < x
    · refine CallOk.intro (args := [_, _]) (rs := [_]) T_ok Tryz.func19 Tryz.call19 rfl rfl (by kernel_rfl) rfl rfl ?_
      repeat (first | exact endA | refine wkP ?_ | refine opB (fun b => ?_) | refine opA (fun a' c' hc1 hc2 => ?_) | (apply GJ.and; exact rfl; intro hg) | (apply GJ.or; exact rfl; intro hg))
      exact Wk.outS Sup.auto (.refl _) hk
    · have hy8 : 5 < y := hk6.resolve_left hx6
      refine CallOk.intro (args := [_, _]) (rs := [_]) T_ok Tryz.func19 Tryz.call19 rfl rfl (by kernel_rfl) rfl rfl ?_
      repeat (first | exact endA | refine wkP ?_ | refine opB (fun b => ?_) | refine opA (fun a' c' hc1 hc2 => ?_) | (apply GJ.and; exact rfl; intro hg) | (apply GJ.or; exact rfl; intro hg))
      exact Wk.outS Sup.auto (.refl _) hk
  rw [if_neg (fun z => z.elim (fun u => u.elim h0 h100) hk5)] at hk
  refine CallOk.intro (args := [_, _]) (rs := [_]) T_ok Tryz.func19 Tryz.call19 rfl rfl (by kernel_rfl) rfl rfl ?_
  repeat (first | exact endA | refine wkP ?_ | refine opB (fun b => ?_) | refine opA (fun a' c' hc1 hc2 => ?_) | (apply GJ.and; exact rfl; intro hg) | (apply GJ.or; exact rfl; intro hg))
  refine LoopOk.at (ι := Nat × Int) Keep.auto (fun (i, Mi) => [(40, .int .i64 (i : Int))]) (fun (i, Mi) => .blk p 3 [.int .i64 Mi] :: r) (fun (i, Mi) => i ≤ l.length ∧ 0 ≤ Mi ∧ Mi ≤ M - 1 ∧ fewY 4 5 l (M - 1) = fewY 4 5 (l.drop i) Mi) (fun (i, Mi) => l.length - i) (0, M - 1) ?_ Sub.auto Sup.auto ?_
  · exact ⟨Nat.zero_le _, by omega, Int.le_refl _, by simp⟩
  rintro ⟨i, Mi⟩ ⟨i1, i2, i3, i4⟩
  dsimp only [List.cons_append, List.nil_append] at i1 i2 i3 i4 ⊢
  by_cases hi : i < l.length
  · obtain ⟨kd, hkd⟩ : ∃ kd, l[i]? = some kd := ⟨_, List.getElem?_eq_getElem hi⟩
    have hvv := hks.get hkd
    obtain ⟨ak, ck, hvk⟩ := hvv.cells
    rw [hvk] at hvv
    have hdr : l.drop i = kd :: l.drop (i + 1) := by
      rw [List.drop_eq_getElem_cons hi]
      congr 1
      rw [List.getElem?_eq_getElem hi] at hkd
      exact Option.some.inj hkd
    rw [hdr, fewY] at i4
    dsimp only at i4
    have hleft := fewX_left (mn := 4) (mx := 5) kd Mi
    repeat (first | exact endA | refine wkP ?_ | refine opB (fun b => ?_) | refine opA (fun a' c' hc1 hc2 => ?_) | (apply GJ.and; exact rfl; intro hg) | (apply GJ.or; exact rfl; intro hg))
    rw [Int.toNat_natCast]
    refine OpOk.loadRow rfl rfl (LdN.at hrs hvk) rfl ?_
    repeat (first | exact endA | refine wkP ?_ | refine opB (fun b => ?_) | refine opA (fun a' c' hc1 hc2 => ?_) | (apply GJ.and; exact rfl; intro hg) | (apply GJ.or; exact rfl; intro hg))
    refine CallOk.sup (own0 := .blk p 3 [.int .i64 Mi] :: r) Sup.auto ?_
    refine (ih kd (List.mem_of_getElem? hkd)).run hvv i2 (by omega) ?_
    generalize fewX 4 5 kd Mi = R at i4 hleft ⊢
    obtain ⟨R1, R2⟩ := R
    dsimp only at i4 hleft ⊢
    cases R1 with
    | true =>
      rw [if_pos rfl] at i4
      obtain ⟨h5, h6⟩ := hleft rfl
      repeat (first | exact endA | refine wkP ?_ | refine opB (fun b => ?_) | refine opA (fun a' c' hc1 hc2 => ?_) | (apply GJ.and; exact rfl; intro hg) | (apply GJ.or; exact rfl; intro hg))
      refine Wk.id ⟨(i + 1, R2), ⟨rfl, ?_⟩, ?_, Sub.auto, Sup.auto⟩
      all_goals try dsimp only
      · exact ⟨by omega, h5, by omega, i4⟩
      · omega
    | false =>
      rw [if_neg (by decide)] at i4
      rw [i4] at hk
      repeat (first | exact endA | refine wkP ?_ | refine opB (fun b => ?_) | refine opA (fun a' c' hc1 hc2 => ?_) | (apply GJ.and; exact rfl; intro hg) | (apply GJ.or; exact rfl; intro hg))
      exact Wk.outS Sup.auto (.refl _) hk
  · obtain rfl : i = l.length := by omega
    rw [List.drop_length, fewY] at i4
    dsimp only at i4
    rw [i4] at hk
    repeat (first | exact endA | refine wkP ?_ | refine opB (fun b => ?_) | refine opA (fun a' c' hc1 hc2 => ?_) | (apply GJ.and; exact rfl; intro hg) | (apply GJ.or; exact rfl; intro hg))
    exact Wk.outS Sup.auto (.refl _) hk⟩
/-- Is there an automaton (made)? -/
def mdB (n : RgD) : Prop := (fewX 4 5 n 16).1 = true ∧ (makeN n).1 = 0 ∧ (makeA (makeN n).2).1 = 0
section
variable {ro : Ro} {own r : Chs} {K : Value → Ro → Chs → Prop} {g : Chunk → Chs}
theorem dmade_ok {n : RgD} {v : List Value} (ht : TabOk ro) (hv : RgOk ro n v)
    (hk0 : ∀ ro', Le ro ro' → ¬ mdB n → K (.tuple #[.pointer none, .pointer none, .bool false]) ro' own)
    (hk1 : ∀ ro' p q, Le ro ro' → mdB n → DAt ro' p (makeA (makeN n).2).2 → DAt ro' q (lstD n) → K (.tuple #[ptr' p, ptr' q, .bool true]) ro' own) :
    CallOk Tryz.prog 9 #[.agg v.toArray] ro own K := by
  have hin := rg_ins hv
  obtain ⟨a1, c1, hvc⟩ := hv.cells
  have hv0 := hv
  subst hvc
  have hK := make_k hin
  refine CallOk.intro (args := [_]) (rs := [_, _, _]) T_ok Tryz.func9 Tryz.call9 rfl rfl (by kernel_rfl) rfl rfl ?_
  repeat (first | exact endA | refine wkP ?_ | refine opB (fun b => ?_) | refine opA (fun a' c' hc1 hc2 => ?_) | (apply GJ.and; exact rfl; intro hg) | (apply GJ.or; exact rfl; intro hg))
  refine (fw8C n).run hv0 (by decide) (by decide) ?_
  by_cases hf : (fewX 4 5 n 16).1 = true
  · rw [hf]
    repeat (first | exact endA | refine wkP ?_ | refine opB (fun b => ?_) | refine opA (fun a' c' hc1 hc2 => ?_) | (apply GJ.and; exact rfl; intro hg) | (apply GJ.or; exact rfl; intro hg))
    refine nmake_ok hv0 (fun ro2 v2 hl2 hA => ?_)
    have hA0 := hA
    by_cases h1 : (makeN n).1 = 0
    · obtain ⟨hw, hsl⟩ := make_size h1
      rw [h1]
      obtain ⟨ad, cp, hs, rfl, hrs, hrw⟩ := hA
      repeat (first | exact endA | refine wkP ?_ | refine opB (fun b => ?_) | refine opA (fun a' c' hc1 hc2 => ?_) | (apply GJ.and; exact rfl; intro hg) | (apply GJ.or; exact rfl; intro hg))
      refine dmake_ok hA0 hK (ht.le hl2) hsl (fun h2 ro3 hl3 => ?_) (fun h2 ro3 p hl3 hp => ?_)
      · repeat (first | exact endA | refine wkP ?_ | refine opB (fun b => ?_) | refine opA (fun a' c' hc1 hc2 => ?_) | (apply GJ.and; exact rfl; intro hg) | (apply GJ.or; exact rfl; intro hg))
        exact Wk.outS Sup.auto (.refl _) (hk0 ro3 (hl2.trans hl3) (fun h => h2 h.2.2))
      · have hm := (made_a2 hK.ok.to hK.sets h2).1
        obtain ⟨w, hw6, ho, hs⟩ := hm.ok
        repeat (first | exact endA | refine wkP ?_ | refine opB (fun b => ?_) | refine opA (fun a' c' hc1 hc2 => ?_) | (apply GJ.and; exact rfl; intro hg) | (apply GJ.or; exact rfl; intro hg))
        refine dleast_ok hp ho hs hw6 hm.pos hm.le (fun ro4 p4 hl4 hp4 => ?_)
        repeat (first | exact endA | refine wkP ?_ | refine opB (fun b => ?_) | refine opA (fun a' c' hc1 hc2 => ?_) | (apply GJ.and; exact rfl; intro hg) | (apply GJ.or; exact rfl; intro hg))
        exact Wk.outS Sup.auto (.refl _) (hk1 ro4 p p4 ((hl2.trans hl3).trans hl4) ⟨hf, h1, h2⟩ (hp.le hl4) hp4)
    · have hz : (makeN n).1 ≠ 0 := h1
      obtain ⟨ad, cp, hs, rfl, hrs, hrw⟩ := hA
      repeat (first | exact endA | refine wkP ?_ | refine opB (fun b => ?_) | refine opA (fun a' c' hc1 hc2 => ?_) | (apply GJ.and; exact rfl; intro hg) | (apply GJ.or; exact rfl; intro hg))
      exact Wk.outS Sup.auto (.refl _) (hk0 ro2 hl2 (fun h => h1 h.2.1))
  · rw [Bool.not_eq_true] at hf
    rw [hf]
    repeat (first | exact endA | refine wkP ?_ | refine opB (fun b => ?_) | refine opA (fun a' c' hc1 hc2 => ?_) | (apply GJ.and; exact rfl; intro hg) | (apply GJ.or; exact rfl; intro hg))
    exact Wk.outS Sup.auto (.refl _) (hk0 ro (Le.refl _) (fun h => Bool.noConfusion (hf.symm.trans h.1)))
end
end Go.Proofs.YtinbmhbfcoiefaaGreatDoor
end
section
/- Contracts of dfa's laws: makes (the automaton of some as and a b). -/
namespace Go.Proofs.YtinbmhbfcoiefaaGreatDoor
open Go Go.E
set_option linter.unusedVariables false
set_option linter.unusedSimpArgs false
set_option maxRecDepth 10000
def abT : List UInt8 := [97, 43, 98]
def abD : RgD := (parseD abT).1
theorem ab_ok : (parseD abT).2 = (0, 0) := by kernel_rfl
theorem ab_make : (makeN abD).1 = 0 := by kernel_rfl
theorem ab_makeA : (makeA (makeN abD).2).1 = 0 := by kernel_rfl
theorem ab_e : lstE abD = 0 := by
  unfold lstE
  rw [ab_make, if_neg (by decide)]
  exact ab_makeA
theorem ab_len : (lstD abD).next.length = 3 := by kernel_rfl
theorem ab_width : widthA (lstD abD) = 3 := by kernel_rfl
theorem ab_m1 : matchA (lstD abD) [97, 97, 98] = true := by kernel_rfl
theorem ab_m2 : matchA (lstD abD) [97, 97, 98, 98] = false := by kernel_rfl
theorem ab_s1 : stepA (lstD abD) 0 98 = -1 := by kernel_rfl
theorem ab_s2 : stepA (lstD abD) 0 97 = 1 := by kernel_rfl
theorem ab_e1 : endsA (lstD abD) 2 = true := by kernel_rfl
theorem ab_e2 : endsA (lstD abD) (-1) = false := by kernel_rfl
/-- What is known of an expression's least automaton. -/
theorem lst_least {n : RgD} {v : List Value} {ro : Ro} (hv : RgOk ro n v) (h : lstE n = 0) : LeastA (lstD n) ∧ MadeA (makeA (makeN n).2).2 := by
  have hK := make_k (rg_ins hv)
  unfold lstE at h
  have h1 : (makeN n).1 = 0 := by
    refine Decidable.byContradiction fun hn => ?_
    rw [if_pos hn] at h
    exact hn h
  rw [h1, if_neg (by decide)] at h
  have hm := (made_a2 hK.ok.to hK.sets h).1
  exact ⟨hm.least.1, hm⟩
section
variable {ro : Ro} {own r : Chs} {K : Value → Ro → Chs → Prop} {g : Chunk → Chs}
theorem makes08_ok (ht : TabOk ro) (hk : ∀ ro', Le ro ro' → K (.bool true) ro' own) : CallOk Tryz.prog 8 #[] ro own K := by
  refine CallOk.intro (args := []) (rs := [_]) T_ok Tryz.func8 Tryz.call8 rfl rfl (by kernel_rfl) rfl rfl ?_
  repeat (first | exact endA | refine wkP ?_ | refine opB (fun b => ?_) | refine opA (fun a' c' hc1 hc2 => ?_) | (apply GJ.and; exact rfl; intro hg) | (apply GJ.or; exact rfl; intro hg))
  refine rparse_ok (t := abT) (by decide) (fun ro2 v hl2 hv => ?_)
  rw [ab_ok]
  have hab : (parseD abT).1 = abD := rfl
  rw [hab] at hv
  have hv0 := hv
  obtain ⟨a1, c1, hvc⟩ := hv.cells
  subst hvc
  obtain ⟨hlst, hmd⟩ := lst_least hv0 ab_e
  have he := ab_e
  have f1 := ab_len
  have f2 := ab_width
  have f3 := ab_m1
  have f4 := ab_m2
  have f5 := ab_s1
  have f6 := ab_s2
  have f7 := ab_e1
  have f8 := ab_e2
  clear hab hv
  generalize abD = n at *
  obtain ⟨w, hw6, ho, hsu, hsx⟩ := hlst.ok
  clear hlst hsu hw6 hsx hmd
  repeat (first | exact endA | refine wkP ?_ | refine opB (fun b => ?_) | refine opA (fun a' c' hc1 hc2 => ?_) | (apply GJ.and; exact rfl; intro hg) | (apply GJ.or; exact rfl; intro hg))
  refine dof_ok (ht.le hl2) hv0 (fun ro3 P hl3 hP => ?_)
  rw [he]
  obtain ⟨_, p, rfl, hp⟩ := hP.resolve_left (fun h => h.1 he)
  repeat (first | exact endA | refine wkP ?_ | refine opB (fun b => ?_) | refine opA (fun a' c' hc1 hc2 => ?_) | (apply GJ.and; exact rfl; intro hg) | (apply GJ.or; exact rfl; intro hg))
  refine later_ok (fun q => ?_)
  repeat (first | exact endA | refine wkP ?_ | refine opB (fun b => ?_) | refine opA (fun a' c' hc1 hc2 => ?_) | (apply GJ.and; exact rfl; intro hg) | (apply GJ.or; exact rfl; intro hg))
  refine lauto0_ok (n := n) (a := a1) (c := c1) (x := 0) ((ht.le hl2).le hl3) (hv0.le hl3) (by decide) (fun ro4 P2 hl4 hP2 => ?_)
  rw [he]
  obtain ⟨_, p2, rfl, hp2⟩ := hP2.resolve_left (fun h => h.1 he)
  dsimp only [lz1]
  rw [he]
  repeat (first | exact endA | refine wkP ?_ | refine opB (fun b => ?_) | refine opA (fun a' c' hc1 hc2 => ?_) | (apply GJ.and; exact rfl; intro hg) | (apply GJ.or; exact rfl; intro hg))
  refine counts_ok (by decide) ?_
  repeat (first | exact endA | refine wkP ?_ | refine opB (fun b => ?_) | refine opA (fun a' c' hc1 hc2 => ?_) | (apply GJ.and; exact rfl; intro hg) | (apply GJ.or; exact rfl; intro hg))
  have hq := hp.le hl4
  refine dsame_ok hq hp2 ?_
  repeat (first | exact endA | refine wkP ?_ | refine opB (fun b => ?_) | refine opA (fun a' c' hc1 hc2 => ?_) | (apply GJ.and; exact rfl; intro hg) | (apply GJ.or; exact rfl; intro hg))
  refine dlen_ok hq ?_
  rw [f1]
  repeat (first | exact endA | refine wkP ?_ | refine opB (fun b => ?_) | refine opA (fun a' c' hc1 hc2 => ?_) | (apply GJ.and; exact rfl; intro hg) | (apply GJ.or; exact rfl; intro hg))
  refine dwidth_ok hq ?_
  rw [f2]
  repeat (first | exact endA | refine wkP ?_ | refine opB (fun b => ?_) | refine opA (fun a' c' hc1 hc2 => ?_) | (apply GJ.and; exact rfl; intro hg) | (apply GJ.or; exact rfl; intro hg))
  refine OpOk.bytesConst rfl rfl rfl rfl (fun ro5 hl5 hr5 => ?_)
  have hq := hq.le hl5
  repeat (first | exact endA | refine wkP ?_ | refine opB (fun b => ?_) | refine opA (fun a' c' hc1 hc2 => ?_) | (apply GJ.and; exact rfl; intro hg) | (apply GJ.or; exact rfl; intro hg))
  refine dmatch_ok (tx := [97, 97, 98]) hq ho hr5.rds rfl ?_
  rw [f3]
  repeat (first | exact endA | refine wkP ?_ | refine opB (fun b => ?_) | refine opA (fun a' c' hc1 hc2 => ?_) | (apply GJ.and; exact rfl; intro hg) | (apply GJ.or; exact rfl; intro hg))
  refine OpOk.bytesConst rfl rfl rfl rfl (fun ro6 hl6 hr6 => ?_)
  have hq := hq.le hl6
  repeat (first | exact endA | refine wkP ?_ | refine opB (fun b => ?_) | refine opA (fun a' c' hc1 hc2 => ?_) | (apply GJ.and; exact rfl; intro hg) | (apply GJ.or; exact rfl; intro hg))
  refine dmatch_ok (tx := [97, 97, 98, 98]) hq ho hr6.rds rfl ?_
  rw [f4]
  repeat (first | exact endA | refine wkP ?_ | refine opB (fun b => ?_) | refine opA (fun a' c' hc1 hc2 => ?_) | (apply GJ.and; exact rfl; intro hg) | (apply GJ.or; exact rfl; intro hg))
  refine dstep_ok (c := 98) hq ho (by decide) ?_
  rw [f5]
  repeat (first | exact endA | refine wkP ?_ | refine opB (fun b => ?_) | refine opA (fun a' c' hc1 hc2 => ?_) | (apply GJ.and; exact rfl; intro hg) | (apply GJ.or; exact rfl; intro hg))
  refine dstep_ok (c := 97) hq ho (by decide) ?_
  rw [f6]
  repeat (first | exact endA | refine wkP ?_ | refine opB (fun b => ?_) | refine opA (fun a' c' hc1 hc2 => ?_) | (apply GJ.and; exact rfl; intro hg) | (apply GJ.or; exact rfl; intro hg))
  refine dends_ok hq ?_
  rw [f7]
  repeat (first | exact endA | refine wkP ?_ | refine opB (fun b => ?_) | refine opA (fun a' c' hc1 hc2 => ?_) | (apply GJ.and; exact rfl; intro hg) | (apply GJ.or; exact rfl; intro hg))
  refine dends_ok hq ?_
  rw [f8]
  repeat (first | exact endA | refine wkP ?_ | refine opB (fun b => ?_) | refine opA (fun a' c' hc1 hc2 => ?_) | (apply GJ.and; exact rfl; intro hg) | (apply GJ.or; exact rfl; intro hg))
  exact Wk.outS Sup.auto (.refl _) (hk ro6 ((((hl2.trans hl3).trans hl4).trans hl5).trans hl6))
end
end Go.Proofs.YtinbmhbfcoiefaaGreatDoor
end
section
/- The law DfaOrder, walked. -/
namespace Go.E
open Go
theorem OpOk.after {P : Program} {op : Op} {ty : TypeId} {env : Env} {ro : Ro} {own : Chs} {K : Value → Ro → Chs → Prop} (h : OpOk P op ty env ro own (fun v ro1 own1 => ∃ c r, Take own1 c r ∧ ∀ ro', Le ro1 ro' → c.holds ro' → K v ro' r)) : OpOk P op ty env ro own K :=
  ⟨fun g hg d pos af gd => .mk fun ρ w hρ hw => by
    obtain ⟨v, w', h1, h2, ro2, own2, hl2, hs2, c, r, ht, hK⟩ := (h.run g hg d pos af gd).run ρ w hρ hw
    obtain ⟨ro3, hl3, hc, hs3⟩ := (hs2.perm ht.perm).freeze
    exact ⟨v, w', h1, h2, ro3, r, hl2.trans hl3, hs3, hK ro3 hl3 hc⟩⟩
/-- A slice put together that lasts at once. -/
theorem OpOk.buildSliceF {P : Program} {T : TT} [hT : TTab P T] {ty : TypeId} {env : Env} {ro : Ro} {own : Chs} {K : Value → Ro → Chs → Prop} {t e n : Nat} {ps : List (Nat × Operand)} {vs : List Value} {s : Nat} (hv : evs env (ps.map (·.2)) = some vs) (hp : ps.map (·.1) = List.range n) (ht : elemOf T t = some (e, s))
    (hn : Nat.ble (n * s) 1048576 = true) (h1 : vs.all (fun v => Nat.beq v.cells.size s) = true) (hk : ∀ ro' b, Le ro ro' → Rs ro' (some ⟨b, 0, none⟩) n n s (flat vs) → K (.slice (some ⟨b, 0, none⟩) n n) ro' own) :
    OpOk P (.buildSlice t n ps.toArray) ty env ro own K :=
  OpOk.after (OpOk.buildSlice hv hp ht hn h1 (fun b => ⟨_, _, Take.hit _ _, fun ro' hl hc => hk ro' b hl (Rs.last hc)⟩))
end Go.E
namespace Go.Proofs.YtinbmhbfcoiefaaGreatDoor
open Go Go.E
set_option linter.unusedVariables false
set_option linter.unusedSimpArgs false
set_option maxRecDepth 10000
theorem RgOk.one' {ro : Ro} {k lo hi : Int} {b : Nat} {x : RgD} {v cs : List Value} (h : Rs ro (some ⟨b, 0, none⟩) 1 1 8 cs) (hc : cs = v) (hx : RgOk ro x v) : RgOk ro (.mk k zeroS [x] lo hi) (nodeV k zeroS (some ⟨b, 0, none⟩) 1 1 lo hi) := by
  subst hc
  rw [RgOk]
  refine ⟨_, _, cs, rfl, zeroS_in, h, ?_⟩
  rw [RgsOk]
  exact ⟨cs, [], by simp, hx, by rw [RgsOk]⟩
theorem RgOk.two' {ro : Ro} {k lo hi : Int} {b : Nat} {x y : RgD} {v u cs : List Value} (h : Rs ro (some ⟨b, 0, none⟩) 2 2 8 cs) (hc : cs = v ++ u) (hx : RgOk ro x v) (hy : RgOk ro y u) : RgOk ro (.mk k zeroS [x, y] lo hi) (nodeV k zeroS (some ⟨b, 0, none⟩) 2 2 lo hi) := by
  subst hc
  rw [RgOk]
  refine ⟨_, _, _, rfl, zeroS_in, h, ?_⟩
  rw [RgsOk]
  refine ⟨v, u, rfl, hx, ?_⟩
  rw [RgsOk]
  exact ⟨u, [], by simp, hy, by rw [RgsOk]⟩
theorem RgOk.none' (ro : Ro) : RgOk ro (.mk 1 zeroS [] 0 0) (nodeV 1 zeroS none 0 0 0 0) := by
  rw [RgOk]
  exact ⟨_, _, [], rfl, zeroS_in, Rs.nil ro 8, by rw [RgsOk]⟩
/-- Of two expressions that stand for the same the least automata are the same. -/
theorem lst_order {ro ro' : Ro} {n m : RgD} {v u : List Value} (hv : RgOk ro n v) (hu : RgOk ro' m u) (hn : mdB n) (hm : mdB m) (h : ∀ w, langN n w ↔ langN m w) : lstD n = lstD m := by
  obtain ⟨a1, a2, a3⟩ := hn
  obtain ⟨b1, b2, b3⟩ := hm
  have hK := make_k (rg_ins hv)
  have hJ := make_k (rg_ins hu)
  obtain ⟨w1, _⟩ := make_size a2
  obtain ⟨w2, _⟩ := make_size b2
  obtain ⟨p1, _, p2, _⟩ := dfa_lang w1 hK.sets a2 a3
  obtain ⟨q1, _, q2, _⟩ := dfa_lang w2 hJ.sets b2 b3
  exact p1.same q1 fun x => by rw [Bool.eq_iff_iff, p2, q2]; exact h x
section
variable {ro : Ro} {own r : Chs} {K : Value → Ro → Chs → Prop} {g : Chunk → Chs}
set_option maxHeartbeats 4000000 in
theorem dorder_law {n m : RgD} {v u : List Value} (ht : TabOk ro) (hv : RgOk ro n v) (hu : RgOk ro m u) (hk : K (.bool true) ro own) : CallOk Tryz.prog 5 #[.agg v.toArray, .agg u.toArray] ro own K := by
  refine CallOk.back ?_
  obtain ⟨a1, c1, hvc⟩ := hv.cells
  obtain ⟨a2, c2, huc⟩ := hu.cells
  have hv0 := hv
  have hu0 := hu
  subst hvc
  subst huc
  refine CallOk.intro (args := [_, _]) (rs := [_]) T_ok Tryz.func5 Tryz.call5 rfl rfl (by kernel_rfl) rfl rfl ?_
  repeat (first | exact endA | refine wkP ?_ | refine opB (fun b => ?_) | refine opA (fun a' c' hc1 hc2 => ?_) | (apply GJ.and; exact rfl; intro hg) | (apply GJ.or; exact rfl; intro hg))
  refine makes08_ok ht (fun ro1 hl1 => ?_)
  have hv1 := hv0.le hl1
  have hu1 := hu0.le hl1
  have ht1 := ht.le hl1
  clear hv hu hv0 hu0 ht
  repeat (first | exact endA | refine wkP ?_)
  refine OpOk.buildSliceF rfAuto rfAuto rfAuto rfAuto rfAuto (fun ro2 b1 hl2 hb1 => ?_)
  repeat (first | exact endA | refine wkP ?_)
  refine OpOk.buildSliceF rfAuto rfAuto rfAuto rfAuto rfAuto (fun ro3 b2 hl3 hb2 => ?_)
  repeat (first | exact endA | refine wkP ?_)
  refine OpOk.buildK (ps := [(0, .tmp 18), (1, .tmp 22)]) (nodeV 4 zeroS (some ⟨b1, 0, none⟩) 2 2 0 0 ++ nodeV 4 zeroS (some ⟨b2, 0, none⟩) 2 2 0 0) rfl (by kernel_rfl) ?_
  repeat (first | exact endA | refine wkP ?_)
  refine OpOk.buildSliceF rfAuto rfAuto rfAuto rfAuto rfAuto (fun ro4 b3 hl4 hb3 => ?_)
  repeat (first | exact endA | refine wkP ?_)
  refine OpOk.buildSliceF rfAuto rfAuto rfAuto rfAuto rfAuto (fun ro5 b4 hl5 hb4 => ?_)
  repeat (first | exact endA | refine wkP ?_)
  refine OpOk.buildSliceF rfAuto rfAuto rfAuto rfAuto rfAuto (fun ro6 b5 hl6 hb5 => ?_)
  repeat (first | exact endA | refine wkP ?_)
  refine OpOk.buildK (ps := [(0, .tmp 26), (1, .tmp 32)]) (nodeV 5 zeroS (some ⟨b3, 0, none⟩) 1 1 0 (-1) ++ nodeV 4 zeroS (some ⟨b5, 0, none⟩) 2 2 0 0) rfl (by kernel_rfl) ?_
  repeat (first | exact endA | refine wkP ?_)
  refine OpOk.buildSliceF rfAuto rfAuto rfAuto rfAuto rfAuto (fun ro7 b6 hl7 hb6 => ?_)
  repeat (first | exact endA | refine wkP ?_)
  refine OpOk.buildK (ps := [(0, .tmp 37), (1, .tmp 38)]) (nodeV 3 zeroS (some ⟨b6, 0, none⟩) 2 2 0 0 ++ nodeV n.kind n.set a1 n.kids.length c1 n.min n.max) rfl (by kernel_rfl) ?_
  repeat (first | exact endA | refine wkP ?_)
  refine OpOk.buildK (ps := [(0, .tmp 23), (1, .tmp 33), (2, .tmp 39)]) ((nodeV 4 zeroS (some ⟨b1, 0, none⟩) 2 2 0 0 ++ nodeV 4 zeroS (some ⟨b2, 0, none⟩) 2 2 0 0) ++ (nodeV 5 zeroS (some ⟨b3, 0, none⟩) 1 1 0 (-1) ++ nodeV 4 zeroS (some ⟨b5, 0, none⟩) 2 2 0 0) ++ (nodeV 3 zeroS (some ⟨b6, 0, none⟩) 2 2 0 0 ++ nodeV n.kind n.set a1 n.kids.length c1 n.min n.max)) rfl (by kernel_rfl) ?_
  have hA := RgOk.two' (k := 4) (lo := 0) (hi := 0) hb1 rfl (hv1.le hl2) (hu1.le hl2)
  have hB := RgOk.two' (k := 4) (lo := 0) (hi := 0) hb2 rfl ((hu1.le hl2).le hl3) ((hv1.le hl2).le hl3)
  have hv3 := (hv1.le hl2).le hl3
  have hC := RgOk.one' (k := 5) (lo := 0) (hi := -1) hb3 rfl (hv3.le hl4)
  have hv4 := hv3.le hl4
  have hD := RgOk.one' (k := 5) (lo := 1) (hi := -1) hb4 rfl (hv4.le hl5)
  have hv5 := (hv4.le hl5).le hl6
  have hE := RgOk.two' (k := 4) (lo := 0) (hi := 0) hb5 rfl (RgOk.none' ro6) (hD.le hl6)
  have hv6 := hv5.le hl7
  have hF := RgOk.two' (k := 3) (lo := 0) (hi := 0) hb6 rfl (RgOk.none' ro7) hv6
  clear hb1 hb2 hb3 hb4 hb5 hb6
  have ht7 := (((((ht1.le hl2).le hl3).le hl4).le hl5).le hl6).le hl7
  have hA7 := ((((hA.le hl3).le hl4).le hl5).le hl6).le hl7
  have hB7 := (((hB.le hl4).le hl5).le hl6).le hl7
  have hC7 := ((hC.le hl5).le hl6).le hl7
  have hE7 := hE.le hl7
  clear hA hB hC hD hE hv1 hu1 hv3 hv4 hv5 ht1
  repeat (first | exact endA | refine wkP ?_ | refine opB (fun b => ?_) | refine opA (fun a' c' hc1 hc2 => ?_) | (apply GJ.and; exact rfl; intro hg) | (apply GJ.or; exact rfl; intro hg))
  refine LoopOk.auto (ι := Nat) Keep.auto (fun i => [(41, .int .i64 (i : Int))]) (fun i => own) (fun i rc => i ≤ 3) (fun i => 3 - i) 0 ?_ Sub.auto Sup.auto ?_
  · exact Nat.zero_le _
  intro i rc hlc i1
  dsimp only [List.cons_append, List.nil_append] at i1 ⊢
  by_cases hi : i < 3
  · obtain rfl | rfl | rfl : i = 0 ∨ i = 1 ∨ i = 2 := by omega
    · repeat (first | exact endA | refine wkP ?_ | refine opB (fun b => ?_) | refine opA (fun a' c' hc1 hc2 => ?_) | (apply GJ.and; exact rfl; intro hg) | (apply GJ.or; exact rfl; intro hg))
      refine OpOk.indexRow (k := 0) (e := 43) (n := 3) (z := 16) (vs := nodeV 4 zeroS (some ⟨b1, 0, none⟩) 2 2 0 0 ++ nodeV 4 zeroS (some ⟨b2, 0, none⟩) 2 2 0 0) rfl rfl (by kernel_rfl) (.inr ⟨2, 26, by kernel_rfl⟩) (by kernel_rfl) rfl (by decide) (by rfl) ?_
      repeat (first | exact endA | refine wkP ?_ | refine opB (fun b => ?_) | refine opA (fun a' c' hc1 hc2 => ?_) | (apply GJ.and; exact rfl; intro hg) | (apply GJ.or; exact rfl; intro hg))
      refine dmade_ok (ht7.le hlc) (hA7.le hlc) (fun rx hlx hnx => ?_) (fun rx p1 q1 hlx hmx hp1 hq1 => ?_)
      · repeat (first | exact endA | refine wkP ?_ | refine opB (fun b => ?_) | refine opA (fun a' c' hc1 hc2 => ?_) | (apply GJ.and; exact rfl; intro hg) | (apply GJ.or; exact rfl; intro hg))
        refine dmade_ok ((ht7.le hlc).le hlx) ((hB7.le hlc).le hlx) (fun ry hly hny => ?_) (fun ry p2 q2 hly hmy hp2 hq2 => ?_)
        · repeat (first | exact endA | refine wkP ?_ | refine opB (fun b => ?_) | refine opA (fun a' c' hc1 hc2 => ?_) | (apply GJ.and; exact rfl; intro hg) | (apply GJ.or; exact rfl; intro hg))
          refine Wk.id ⟨0 + 1, ?_, ?_, Sub.auto, Sup.auto⟩
          all_goals try dsimp only
          · omega
          · omega
        · repeat (first | exact endA | refine wkP ?_ | refine opB (fun b => ?_) | refine opA (fun a' c' hc1 hc2 => ?_) | (apply GJ.and; exact rfl; intro hg) | (apply GJ.or; exact rfl; intro hg))
          refine Wk.id ⟨0 + 1, ?_, ?_, Sub.auto, Sup.auto⟩
          all_goals try dsimp only
          · omega
          · omega
      · repeat (first | exact endA | refine wkP ?_ | refine opB (fun b => ?_) | refine opA (fun a' c' hc1 hc2 => ?_) | (apply GJ.and; exact rfl; intro hg) | (apply GJ.or; exact rfl; intro hg))
        refine dmade_ok ((ht7.le hlc).le hlx) ((hB7.le hlc).le hlx) (fun ry hly hny => ?_) (fun ry p2 q2 hly hmy hp2 hq2 => ?_)
        · repeat (first | exact endA | refine wkP ?_ | refine opB (fun b => ?_) | refine opA (fun a' c' hc1 hc2 => ?_) | (apply GJ.and; exact rfl; intro hg) | (apply GJ.or; exact rfl; intro hg))
          refine Wk.id ⟨0 + 1, ?_, ?_, Sub.auto, Sup.auto⟩
          all_goals try dsimp only
          · omega
          · omega
        · have he := lst_order hA7 hB7 hmx hmy (fun w => order_alt n m zeroS zeroS 0 0 0 0 w)
          rw [← he] at hq2
          repeat (first | exact endA | refine wkP ?_ | refine opB (fun b => ?_) | refine opA (fun a' c' hc1 hc2 => ?_) | (apply GJ.and; exact rfl; intro hg) | (apply GJ.or; exact rfl; intro hg))
          refine dsame_ok (hq1.le hly) hq2 ?_
          repeat (first | exact endA | refine wkP ?_ | refine opB (fun b => ?_) | refine opA (fun a' c' hc1 hc2 => ?_) | (apply GJ.and; exact rfl; intro hg) | (apply GJ.or; exact rfl; intro hg))
          refine Wk.id ⟨0 + 1, ?_, ?_, Sub.auto, Sup.auto⟩
          all_goals try dsimp only
          · omega
          · omega
    · repeat (first | exact endA | refine wkP ?_ | refine opB (fun b => ?_) | refine opA (fun a' c' hc1 hc2 => ?_) | (apply GJ.and; exact rfl; intro hg) | (apply GJ.or; exact rfl; intro hg))
      refine OpOk.indexRow (k := 1) (e := 43) (n := 3) (z := 16) (vs := nodeV 5 zeroS (some ⟨b3, 0, none⟩) 1 1 0 (-1) ++ nodeV 4 zeroS (some ⟨b5, 0, none⟩) 2 2 0 0) rfl rfl (by kernel_rfl) (.inr ⟨2, 26, by kernel_rfl⟩) (by kernel_rfl) rfl (by decide) (by rfl) ?_
      repeat (first | exact endA | refine wkP ?_ | refine opB (fun b => ?_) | refine opA (fun a' c' hc1 hc2 => ?_) | (apply GJ.and; exact rfl; intro hg) | (apply GJ.or; exact rfl; intro hg))
      refine dmade_ok (ht7.le hlc) (hC7.le hlc) (fun rx hlx hnx => ?_) (fun rx p1 q1 hlx hmx hp1 hq1 => ?_)
      · repeat (first | exact endA | refine wkP ?_ | refine opB (fun b => ?_) | refine opA (fun a' c' hc1 hc2 => ?_) | (apply GJ.and; exact rfl; intro hg) | (apply GJ.or; exact rfl; intro hg))
        refine dmade_ok ((ht7.le hlc).le hlx) ((hE7.le hlc).le hlx) (fun ry hly hny => ?_) (fun ry p2 q2 hly hmy hp2 hq2 => ?_)
        · repeat (first | exact endA | refine wkP ?_ | refine opB (fun b => ?_) | refine opA (fun a' c' hc1 hc2 => ?_) | (apply GJ.and; exact rfl; intro hg) | (apply GJ.or; exact rfl; intro hg))
          refine Wk.id ⟨1 + 1, ?_, ?_, Sub.auto, Sup.auto⟩
          all_goals try dsimp only
          · omega
          · omega
        · repeat (first | exact endA | refine wkP ?_ | refine opB (fun b => ?_) | refine opA (fun a' c' hc1 hc2 => ?_) | (apply GJ.and; exact rfl; intro hg) | (apply GJ.or; exact rfl; intro hg))
          refine Wk.id ⟨1 + 1, ?_, ?_, Sub.auto, Sup.auto⟩
          all_goals try dsimp only
          · omega
          · omega
      · repeat (first | exact endA | refine wkP ?_ | refine opB (fun b => ?_) | refine opA (fun a' c' hc1 hc2 => ?_) | (apply GJ.and; exact rfl; intro hg) | (apply GJ.or; exact rfl; intro hg))
        refine dmade_ok ((ht7.le hlc).le hlx) ((hE7.le hlc).le hlx) (fun ry hly hny => ?_) (fun ry p2 q2 hly hmy hp2 hq2 => ?_)
        · repeat (first | exact endA | refine wkP ?_ | refine opB (fun b => ?_) | refine opA (fun a' c' hc1 hc2 => ?_) | (apply GJ.and; exact rfl; intro hg) | (apply GJ.or; exact rfl; intro hg))
          refine Wk.id ⟨1 + 1, ?_, ?_, Sub.auto, Sup.auto⟩
          all_goals try dsimp only
          · omega
          · omega
        · have he := lst_order hC7 hE7 hmx hmy (fun w => order_rep n zeroS zeroS zeroS zeroS 0 0 0 0 (-1) (by decide) [] w)
          rw [← he] at hq2
          repeat (first | exact endA | refine wkP ?_ | refine opB (fun b => ?_) | refine opA (fun a' c' hc1 hc2 => ?_) | (apply GJ.and; exact rfl; intro hg) | (apply GJ.or; exact rfl; intro hg))
          refine dsame_ok (hq1.le hly) hq2 ?_
          repeat (first | exact endA | refine wkP ?_ | refine opB (fun b => ?_) | refine opA (fun a' c' hc1 hc2 => ?_) | (apply GJ.and; exact rfl; intro hg) | (apply GJ.or; exact rfl; intro hg))
          refine Wk.id ⟨1 + 1, ?_, ?_, Sub.auto, Sup.auto⟩
          all_goals try dsimp only
          · omega
          · omega
    · repeat (first | exact endA | refine wkP ?_ | refine opB (fun b => ?_) | refine opA (fun a' c' hc1 hc2 => ?_) | (apply GJ.and; exact rfl; intro hg) | (apply GJ.or; exact rfl; intro hg))
      refine OpOk.indexRow (k := 2) (e := 43) (n := 3) (z := 16) (vs := nodeV 3 zeroS (some ⟨b6, 0, none⟩) 2 2 0 0 ++ nodeV n.kind n.set a1 n.kids.length c1 n.min n.max) rfl rfl (by kernel_rfl) (.inr ⟨2, 26, by kernel_rfl⟩) (by kernel_rfl) rfl (by decide) (by rfl) ?_
      repeat (first | exact endA | refine wkP ?_ | refine opB (fun b => ?_) | refine opA (fun a' c' hc1 hc2 => ?_) | (apply GJ.and; exact rfl; intro hg) | (apply GJ.or; exact rfl; intro hg))
      refine dmade_ok (ht7.le hlc) (hF.le hlc) (fun rx hlx hnx => ?_) (fun rx p1 q1 hlx hmx hp1 hq1 => ?_)
      · repeat (first | exact endA | refine wkP ?_ | refine opB (fun b => ?_) | refine opA (fun a' c' hc1 hc2 => ?_) | (apply GJ.and; exact rfl; intro hg) | (apply GJ.or; exact rfl; intro hg))
        refine dmade_ok ((ht7.le hlc).le hlx) ((hv6.le hlc).le hlx) (fun ry hly hny => ?_) (fun ry p2 q2 hly hmy hp2 hq2 => ?_)
        · repeat (first | exact endA | refine wkP ?_ | refine opB (fun b => ?_) | refine opA (fun a' c' hc1 hc2 => ?_) | (apply GJ.and; exact rfl; intro hg) | (apply GJ.or; exact rfl; intro hg))
          refine Wk.id ⟨2 + 1, ?_, ?_, Sub.auto, Sup.auto⟩
          all_goals try dsimp only
          · omega
          · omega
        · repeat (first | exact endA | refine wkP ?_ | refine opB (fun b => ?_) | refine opA (fun a' c' hc1 hc2 => ?_) | (apply GJ.and; exact rfl; intro hg) | (apply GJ.or; exact rfl; intro hg))
          refine Wk.id ⟨2 + 1, ?_, ?_, Sub.auto, Sup.auto⟩
          all_goals try dsimp only
          · omega
          · omega
      · repeat (first | exact endA | refine wkP ?_ | refine opB (fun b => ?_) | refine opA (fun a' c' hc1 hc2 => ?_) | (apply GJ.and; exact rfl; intro hg) | (apply GJ.or; exact rfl; intro hg))
        refine dmade_ok ((ht7.le hlc).le hlx) ((hv6.le hlc).le hlx) (fun ry hly hny => ?_) (fun ry p2 q2 hly hmy hp2 hq2 => ?_)
        · repeat (first | exact endA | refine wkP ?_ | refine opB (fun b => ?_) | refine opA (fun a' c' hc1 hc2 => ?_) | (apply GJ.and; exact rfl; intro hg) | (apply GJ.or; exact rfl; intro hg))
          refine Wk.id ⟨2 + 1, ?_, ?_, Sub.auto, Sup.auto⟩
          all_goals try dsimp only
          · omega
          · omega
        · have he := lst_order hF hv6 hmx hmy (fun w => order_cat n zeroS zeroS 0 0 0 0 [] w)
          rw [← he] at hq2
          repeat (first | exact endA | refine wkP ?_ | refine opB (fun b => ?_) | refine opA (fun a' c' hc1 hc2 => ?_) | (apply GJ.and; exact rfl; intro hg) | (apply GJ.or; exact rfl; intro hg))
          refine dsame_ok (hq1.le hly) hq2 ?_
          repeat (first | exact endA | refine wkP ?_ | refine opB (fun b => ?_) | refine opA (fun a' c' hc1 hc2 => ?_) | (apply GJ.and; exact rfl; intro hg) | (apply GJ.or; exact rfl; intro hg))
          refine Wk.id ⟨2 + 1, ?_, ?_, Sub.auto, Sup.auto⟩
          all_goals try dsimp only
          · omega
          · omega
  · obtain rfl : i = 3 := by omega
    repeat (first | exact endA | refine wkP ?_ | refine opB (fun b => ?_) | refine opA (fun a' c' hc1 hc2 => ?_) | (apply GJ.and; exact rfl; intro hg) | (apply GJ.or; exact rfl; intro hg))
    exact Wk.back1 Sup.auto (.refl _) hk
end
end Go.Proofs.YtinbmhbfcoiefaaGreatDoor
end
