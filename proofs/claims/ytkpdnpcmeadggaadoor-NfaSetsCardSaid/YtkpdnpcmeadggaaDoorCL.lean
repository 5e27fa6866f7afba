/- Contracts of class: Each, as an iterator. -/
import Derived.Test.YtkpdnpcmeadggaaDoorC1
import Derived.Test.YtkpdnpcmeadggaaDoorEn4
namespace Go.Proofs.YtkpdnpcmeadggaaDoor
open Go Go.E
set_option linter.unusedVariables false
set_option linter.unusedSimpArgs false
set_option maxRecDepth 10000
/-- The bytes of a set, rising. -/
def bytesD (s : SetD) : List Nat := (List.range 256).filter s.has
theorem hp_back {w W : World} {h h0 : Heap} (hw : Hp h W w) : Hp h0 W { w with heap := h0 } := ⟨rfl, hw.os, hw.tape, hw.output⟩
set_option maxHeartbeats 1000000 in
theorem each_iter {s : SetD} (hs : SetIn s) : IterOk Tryd.prog 31 ([.agg (setV s).toArray] : List Value).toArray (fun c : Nat => ([.int .u8 (c : Int)] : List Value).toArray) (bytesD s) := by
  refine ⟨fun l J Jx ρ W hJr hJa hJy hJx hJp hJxp h0 => callsIn_wide.2 ?_⟩
  show Calls _ _ ([.agg (setV s).toArray, .func (.yield l) #[] #[]] : List Value).toArray _ _
  refine calls_of_C Tryd.func31 rfl rfl rfl ?_
  have hup : ∀ {ρ ρ' : Ro} {pre : List Nat} {h h' : Heap}, (∀ w, Hp h W w → J ρ pre w) → Le ρ ρ' → (∀ b o, ρ' b = some o → ρ b = some o ∨ h.size ≤ b) → (∀ b, b < h.size → h'[b]? = h[b]?) → (∀ b o, ρ' b = some o → h'[b]? = some o) → ∀ w, Hp h' W w → J ρ' pre w := fun {ρ ρ' pre h h'} hJ hl hn hk hla w hw => by
    have hh := hw.heap
    subst hh
    exact hJa ρ ρ' pre { w with heap := h } w (hJ _ (hp_back hw)) hl hn hk hla ⟨rfl, rfl, rfl, rfl⟩
  have h0' : ∀ w, Hp W.heap W w → J ρ [] w := fun w hw => hJa ρ ρ [] W w h0 (Le.refl _) (fun b o h => .inl h) (fun b _ => by rw [hw.heap]) (fun b o h => by rw [hw.heap]; exact hJr _ _ _ h0 b o h) ⟨rfl, hw.os, hw.tape, hw.output⟩
  refine C.seq (C.byV (T := T) T_ok rfl rfl (k := fun e => match e with
    | .normal => fun env' ro' own' => ∃ B, own' = [.blk B 43 (setV s)] ∧ Sub [(1, .func (.yield l) #[] #[]), (2, .pointer (some ⟨B, 0, none⟩))] env'
    | _ => fun _ _ _ => False) ?_ ?_)
  · repeat (first
      | (show _ ∧ _; exact ⟨rfl, rfl, rfl⟩)
      | refine wkG ?_
      | (show OpOk _ _ _ _ _ _ _; first | refine opB (fun b => ?_) | refine opA (fun a' c' hc1 hc2 => ?_))
      | (show GJ _ _ _ _ _ _ _; first | (apply GJ.and; exact rfl; intro hg) | (apply GJ.or; exact rfl; intro hg) | refine GJ.t omAuto ?_ | refine GJ.f omAuto ?_ | refine GJ.ft omAuto ?_ | refine GJ.ff omAuto ?_))
    exact ⟨_, rfl, Sub.auto⟩
  rintro e env' ro' own' h' hl hk hs'
  cases e <;> first | exact hk.elim | skip
  obtain ⟨B, rfl, hsub⟩ := hk
  have hBrow : h'[B]? = some (.cells (setV s).toArray 43 (0, 0)) := hs'.parts (.blk B 43 (setV s)) (by simp)
  have hBsz : W.heap.size ≤ B := by
    refine Nat.le_of_not_lt fun hlt => ?_
    have h1 := hs'.ap _ (List.mem_singleton.2 rfl) B (by simp [Chunk.fp])
    rw [hl.le B _ (Array.getElem?_eq_getElem hlt)] at h1
    cases h1
  obtain ⟨ρ2, hρ2⟩ : ∃ ρ2 : Ro, ∀ b, ρ2 b = if b = B then some (.cells (setV s).toArray 43 (0, 0)) else ρ b := ⟨_, fun b => rfl⟩
  have hkeep : ∀ b, b < W.heap.size → h'[b]? = W.heap[b]? := fun b hb => by
    rw [Array.getElem?_eq_getElem hb]
    exact hs'.last b _ (hl.le b _ (Array.getElem?_eq_getElem hb))
  have h1' : ∀ w, Hp h' W w → J ρ2 [] w := hup h0' ⟨fun b o hb => by
      rw [hρ2, if_neg (fun e => by
        subst e
        have := (Array.getElem?_eq_some_iff.1 (hJr _ _ _ h0 _ _ hb)).1
        omega)]; exact hb⟩ (fun b o hb => by
      rw [hρ2] at hb
      by_cases e : b = B
      · subst e; exact .inr hBsz
      · rw [if_neg e] at hb; exact .inl hb) hkeep (fun b o hb => by
      rw [hρ2] at hb
      by_cases e : b = B
      · subst e; rw [if_pos rfl] at hb; cases hb; exact hBrow
      · rw [if_neg e] at hb
        have h1 := hJr _ _ _ h0 _ _ hb
        have hlt := (Array.getElem?_eq_some_iff.1 h1).1
        rw [hkeep b hlt]; exact h1)
  have hρB : ρ2 B = some (.cells (setV s).toArray 43 (0, 0)) := by rw [hρ2]; exact if_pos rfl
  refine N.then_normal (N.wp (C.sub _ hsub ?_))
  clear hsub hl hs' h0' hρ2 hkeep hBrow hBsz
  refine C.seq (C.region (L.pure (Pu.move rfl) rfl (L.nil (N.then_normal (N.wp ?_)))))
  refine C.block (C.loop (ι := Nat) (n := fun _ => ⟨20, []⟩) (fun c => [(5, .int .i64 (c : Int)), (1, .func (.yield l) #[] #[]), (2, .pointer (some ⟨B, 0, none⟩))]) (fun c h => c ≤ 256 ∧ ∀ w, Hp h W w → J ρ2 ((List.range c).filter s.has) w) (fun c => 256 - c) 0 ⟨by omega, h1'⟩ (by repeat (first | exact trivial | refine Sub.cons rfl ?_)) ?_)
  clear h1'
  rintro c h ⟨hc, hJ⟩
  refine C.seq (C.region (L.pure (Pu.lss rfl rfl) rfl (L.nil (N.then_normal (N.wp ?_)))))
  refine C.seq (C.dec rfl (fun hlt => C.skip (N.then_normal (N.wp ?_))) (fun hge => C.exit (N.then_exit (N.then_exit (N.block_same ?_)))))
  rotate_left
  · obtain rfl : c = 256 := by omega
    exact fun a w hf hw => ⟨hf.defers, .tuple #[], by simp [results, show (Tryd.f31).results = #[] from rfl], _, rfl, .inl ⟨ρ2, hJ w hw⟩⟩
  have hlt : c < 256 := by omega
  have hRow : RowR (hm h) B 43 (setV s) := hJr _ _ _ (hJ { W with heap := h } ⟨rfl, rfl, rfl, rfl⟩) _ _ hρB
  refine C.seq (C.block (C.seq (C.region (L.pure (Pu.move rfl) rfl (L.pure (Pu.assign rfl) rfl (L.nil (N.then_normal (N.wp ?_))))))))
  refine C.seq (C.regionI (LI.split (ops := [_, _, _, _, _]) (rest := _) rfl (L.byV (T := T) T_ok rfl (k := fun env' ro' own' => Sub [(12, .bool (s.has c)), (1, .func (.yield l) #[] #[]), (2, .pointer (some ⟨B, 0, none⟩)), (4, .int .i64 (c : Int)), (5, .int .i64 (c : Int))] env') ?_ ?_)))
  · repeat (first
      | (show _ ∧ _; exact ⟨rfl, rfl, rfl⟩)
      | refine wkG ?_
      | (show OpOk _ _ _ _ _ _ _; first | refine opB (fun b => ?_) | refine opA (fun a' c' hc1 hc2 => ?_))
      | (show GJ _ _ _ _ _ _ _; first | (apply GJ.and; exact rfl; intro hg) | (apply GJ.or; exact rfl; intro hg) | refine GJ.t omAuto ?_ | refine GJ.f omAuto ?_ | refine GJ.ft omAuto ?_ | refine GJ.ff omAuto ?_))
    refine OpOk.loadRow rfl rfl (LdN.lastBlk hRow) rfl ?_
    repeat (first
      | (show _ ∧ _; exact ⟨rfl, rfl, rfl⟩)
      | refine wkG ?_
      | (show OpOk _ _ _ _ _ _ _; first | refine opB (fun b => ?_) | refine opA (fun a' c' hc1 hc2 => ?_))
      | (show GJ _ _ _ _ _ _ _; first | (apply GJ.and; exact rfl; intro hg) | (apply GJ.or; exact rfl; intro hg) | refine GJ.t omAuto ?_ | refine GJ.f omAuto ?_ | refine GJ.ft omAuto ?_ | refine GJ.ff omAuto ?_))
    have e1 : (c : Int) % 256 = (c : Int) := by omega
    rw [e1]
    refine has_ok hs hlt ?_
    repeat (first
      | (show _ ∧ _; exact ⟨rfl, rfl, rfl⟩)
      | refine wkG ?_
      | (show OpOk _ _ _ _ _ _ _; first | refine opB (fun b => ?_) | refine opA (fun a' c' hc1 hc2 => ?_))
      | (show GJ _ _ _ _ _ _ _; first | (apply GJ.and; exact rfl; intro hg) | (apply GJ.or; exact rfl; intro hg) | refine GJ.t omAuto ?_ | refine GJ.f omAuto ?_ | refine GJ.ft omAuto ?_ | refine GJ.ff omAuto ?_))
    exact (by repeat (first | exact trivial | refine Sub.cons rfl ?_))
  rintro env' ro' own' h' hl hsub hs'
  have hJ' : ∀ w, Hp h' W w → J ρ2 ((List.range c).filter s.has) w := by
    have hkp : ∀ b, b < h.size → h'[b]? = h[b]? := fun b hb => by
      rw [Array.getElem?_eq_getElem hb]
      exact hs'.last b _ (hl.le b _ (Array.getElem?_eq_getElem hb))
    refine hup hJ (Le.refl _) (fun b o h => .inl h) hkp (fun b o hb => ?_)
    have h1 := hJr _ _ _ (hJ { W with heap := h } ⟨rfl, rfl, rfl, rfl⟩) _ _ hb
    rw [hkp b (Array.getElem?_eq_some_iff.1 h1).1]; exact h1
  have hsplit : (List.range (c + 1)).filter s.has = (List.range c).filter s.has ++ (if s.has c = true then [c] else []) := by
    rw [List.range_succ, List.filter_append]
    congr 1
    by_cases e : s.has c = true <;> simp [e]
  refine N.sub _ hsub (N.normalI ?_)
  cases hh : s.has c with
  | false =>
    rw [hh] at hsplit
    simp only [Bool.false_eq_true, if_false, List.append_nil] at hsplit
    refine LI.all rfl (L.guard_not rfl rfl rfl (L.guard_not rfl rfl rfl (L.guard_not rfl rfl rfl (L.guard_not rfl rfl rfl (L.guard_not rfl rfl rfl (L.pure (Pu.pickF rfl rfl) rfl (L.nil (N.normalA ?_))))))))
    refine N.then_normal (N.wp (C.ff rfl (C.skip (N.block_normal (N.then_normal (N.wp (C.region (L.pure (Pu.addI rfl rfl (by omega)) rfl (L.pure (Pu.move rfl) rfl (L.nil (N.then_normal ?_))))))))))) 
    refine N.round (n := fun _ => ⟨20, []⟩) (c + 1) ?_ ?_ ?_
    · exact ⟨by omega, by rw [hsplit]; exact hJ'⟩
    · omega
    · exact (by repeat (first | exact trivial | refine Sub.cons rfl ?_))
  | true =>
    rw [hh] at hsplit
    simp only [if_true] at hsplit
    refine LI.split (ops := [_, _, _]) (rest := _) rfl (L.guard rfl rfl (L.pure (Pu.move rfl) rfl (L.guard rfl rfl (L.pure (Pu.move rfl) rfl (L.guard rfl rfl (L.pure (Pu.convU8 rfl Tryd.underlying3 Tryd.underlying5) rfl (L.nil (N.normalI ?_))))))))
    refine LI.guard rfl rfl (LI.yield rfl (vs := [.int .u8 ((c % 256 : Nat) : Int)]) rfl rfl (fun w hw => ?_))
    have hx : bytesD s = (List.range c).filter s.has ++ c :: ((List.range' (c + 1) (255 - c)).filter s.has) := by
      have e : List.range 256 = List.range c ++ c :: List.range' (c + 1) (255 - c) := by
        rw [List.range_eq_range', List.range_eq_range', show (256 : Nat) = c + (1 + (255 - c)) by omega, ← List.range'_append_1]
        rw [Nat.zero_add, show 1 + (255 - c) = (255 - c) + 1 by omega, List.range'_succ]
      unfold bytesD
      rw [e, List.filter_append, List.filter_cons, if_pos hh]
    obtain ⟨fn, tmps, assign, body, hy, hR⟩ := hJy ρ2 _ c _ w hx (hJ' w hw)
    rw [Nat.mod_eq_of_lt hlt]
    refine ⟨fn, tmps, assign, body, hy, hR.mono fun e w' he => ?_⟩
    rcases he with ⟨rfl, hJ2⟩ | ⟨rfl, hJ2⟩
    · refine ⟨_, rfl, hJp _ _ _ hJ2, fun a' hf' => ?_⟩
      have hJ3 : ∀ w2, Hp w'.heap W w2 → J ρ2 ((List.range (c + 1)).filter s.has) w2 := fun w2 hw2 => by
        rw [hsplit]
        exact hJa ρ2 ρ2 _ w' w2 hJ2 (Le.refl _) (fun b o h => .inl h) (fun b _ => by rw [hw2.heap]) (fun b o h => by rw [hw2.heap]; exact hJr _ _ _ hJ2 b o h) ⟨rfl, hw2.os.trans (hJp _ _ _ hJ2).os.symm, hw2.tape.trans (hJp _ _ _ hJ2).tape.symm, hw2.output.trans (hJp _ _ _ hJ2).output.symm⟩
      refine LI.all rfl (L.guard rfl rfl (L.pure (Pu.not rfl) rfl (L.pure (Pu.pickT rfl rfl) rfl (L.nil (N.normalA ?_))))) a' w' hf' (hJp _ _ _ hJ2)
      refine N.then_normal (N.wp (C.ff rfl (C.skip (N.block_normal (N.then_normal (N.wp (C.region (L.pure (Pu.addI rfl rfl (by omega)) rfl (L.pure (Pu.move rfl) rfl (L.nil (N.then_normal ?_)))))))))))
      refine N.round (n := fun _ => ⟨20, []⟩) (c + 1) ?_ ?_ ?_
      · exact ⟨by omega, hJ3⟩
      · omega
      · exact (by repeat (first | exact trivial | refine Sub.cons rfl ?_))
    · refine ⟨_, rfl, hJxp _ hJ2, fun a' hf' => ?_⟩
      have hJ3 : ∀ w2, Hp w'.heap W w2 → Jx w2 := fun w2 hw2 => 
        hJx w' w2 hJ2 hw2.heap ⟨rfl, hw2.os.trans (hJxp _ hJ2).os.symm, hw2.tape.trans (hJxp _ hJ2).tape.symm, hw2.output.trans (hJxp _ hJ2).output.symm⟩
      refine LI.all rfl (L.guard rfl rfl (L.pure (Pu.not rfl) rfl (L.pure (Pu.pickT rfl rfl) rfl (L.nil (N.normalA ?_))))) a' w' hf' (hJxp _ hJ2)
      refine N.then_normal (N.wp (C.tt rfl (C.ret (N.block_ret (N.then_ret (N.then_ret (N.block_ret ?_)))))))
      exact fun a w hf hw => ⟨hf.defers, .tuple #[], by simp [results, show (Tryd.f31).results = #[] from rfl], _, rfl, .inr (hJ3 w hw)⟩
end Go.Proofs.YtkpdnpcmeadggaaDoor
