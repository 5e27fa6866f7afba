/- Contracts of spec: Each. -/
import Derived.Test.YtniofdklhlbphaaSpJ
namespace Go.E
open Go
theorem Repl.app (G : Chs) {l : Chs} {c x : Chunk} {l' : Chs} (h : Repl l c x l') : Repl (G ++ l) c x (G ++ l') := by
  induction G with
  | nil => exact h
  | cons y G ih => exact .miss y ih
instance HasBlk.app (G l : Chs) (b : Nat) (t : TypeId) (cs : List Value) (f : Chunk → Chs) [h : HasBlk l b t cs f] : HasBlk (G ++ l) b t cs (fun x => G ++ f x) := ⟨fun x => (h.repl x).app G⟩
instance HasSl.app (G l : Chs) (a : Option Addr) (n c : Nat) (t : TypeId) (s : Nat) (cs : List Value) (f : Chunk → Chs) [h : HasSl l a n c t s cs f] : HasSl (G ++ l) a n c t s cs (fun x => G ++ f x) := ⟨fun x => (h.repl x).app G⟩
end Go.E
namespace Go.Proofs.Ytniofdklhlbphaa
open Go Go.E
set_option linter.unusedVariables false
set_option linter.unusedSimpArgs false
set_option maxRecDepth 10000
theorem preI_eq {kd : Nat → List Int} (hk : ∀ i k, k ∈ kd i → 0 ≤ k ∧ k < (i : Int)) {N : Nat} {i : Nat} (hi : i < N) : preI kd N (i : Int) = (i : Int) :: (kd i).flatMap (preI kd N) := by
  rw [preI_more hk N (N + 1) i (by omega) (by omega) (by omega)]
  rfl
section
variable {ro : Ro}
set_option maxHeartbeats 2000000 in
theorem each_ok {s : SpecD} {a : SpecA} (ho : SpecOk ro s a) (hv : Ahead s) {fy : FuncId} {cap : Array Value} {ω : Type} {go : List Int → Bool} {T : List Int} (O : List Int → ω → Chs) (W : List Int → ω → Prop)
    (hy : ∀ p k r, T = p ++ k :: r → ∀ w, W p w → ∀ (ro' : Ro) (G : Chs) (K : Value → Ro → Chs → Prop) [Leq ro ro'], (∀ w', W (p ++ [k]) w' → K (.bool (go (p ++ [k]))) ro' (G ++ O (p ++ [k]) w')) → CallOk Try.prog fy (capA [.int .i64 k] cap) ro' (G ++ O p w) K) :
    ∀ (n i : Nat), i < n → i < s.nodes.length → ∀ (p r : List Int), T = p ++ preI (kidsAt s) s.nodes.length i ++ r → ∀ w, W p w → ∀ (ro' : Ro) (G : Chs) (K : Value → Ro → Chs → Prop) [Leq ro ro'],
      (∀ w', W (runG go p (preI (kidsAt s) s.nodes.length i)).2 w' → K (.bool (runG go p (preI (kidsAt s) s.nodes.length i)).1) ro' (G ++ O (runG go p (preI (kidsAt s) s.nodes.length i)).2 w')) →
      CallOk Try.prog 7 #[.agg (specV s a).toArray, .int .i64 (i : Int), .func (.func fy) #[] cap] ro' (G ++ O p w) K := by
  intro n
  induction n with
  | zero => intro i h; omega
  | succ n ih =>
    intro i hin hi p r hT w hw ro' G K hle hk
    have hr1 : Rs ro' a.na s.nodes.length a.nc 18 (nodesV s.nodes a.xs) := ho.nodes.up
    have hm := hr1.max
    unfold maxLen at hm
    obtain ⟨d, hd⟩ : ∃ d, s.nodes[i]? = some d := ⟨_, List.getElem?_eq_getElem hi⟩
    obtain ⟨x, hx⟩ : ∃ x, a.xs[i]? = some x := ⟨_, List.getElem?_eq_getElem (by rw [ho.len]; exact hi)⟩
    have hn1 := ho.each i d x hd hx
    have hN1 : NodeOk ro' d x := ⟨hn1.kids.up, hn1.last.up, hn1.fields.up, hn1.cases.up⟩
    have hdr1 := nodesV_drop _ _ _ _ _ hd hx
    obtain ⟨hf, hks⟩ := hv i d hd
    have hsm := form_small hf
    have hkd : kidsAt s i = kidsD d := by unfold kidsAt; rw [hd]
    rw [preI_eq hv.kidsAt hi, hkd] at hT hk
    refine CallOk.intro (args := [_, _, _]) (rs := [_]) T_ok Try.func7 Try.call7 rfl rfl (by kernel_rfl) rfl rfl ?_
    repeat (first
      | (show _ ∧ _; exact ⟨rfl, rfl, rfl⟩)
      | refine wkT ?_
      | (show OpOk _ _ _ _ _ _ _; first | refine opB (fun b => ?_) | refine opA (fun a' c' hc1 hc2 => ?_))
      | (show GJ _ _ _ _ _ _ _; first | (apply GJ.and; exact rfl; intro hg) | (apply GJ.or; exact rfl; intro hg)))
    refine hy p (i : Int) ((kidsD d).flatMap (preI (kidsAt s) s.nodes.length) ++ r) (by rw [hT]; simp) w hw ro' (.blk b 25 (specV s a) :: G) _ (fun w1 hw1 => ?_)
    cases hg : go (p ++ [(i : Int)]) with
    | false =>
      rw [runG, if_neg (by rw [hg]; simp)] at hk
      repeat (first
        | (show _ ∧ _; exact ⟨rfl, rfl, rfl⟩)
        | refine wkT ?_
        | (show OpOk _ _ _ _ _ _ _; first | refine opB (fun b => ?_) | refine opA (fun a' c' hc1 hc2 => ?_))
        | (show GJ _ _ _ _ _ _ _; first | (apply GJ.and; exact rfl; intro hg) | (apply GJ.or; exact rfl; intro hg)))
      exact Wk.own (G ++ O (p ++ [(i : Int)]) w1) (Sup.drop _ (Sup.all _)) (Wk.id (hk w1 hw1))
    | true =>
      rw [runG, if_pos hg] at hk
      rw [List.cons_append]
      repeat (first
        | (show _ ∧ _; exact ⟨rfl, rfl, rfl⟩)
        | refine wkT ?_
        | (show OpOk _ _ _ _ _ _ _; first | refine opB (fun b => ?_) | refine opA (fun a' c' hc1 hc2 => ?_))
        | (show GJ _ _ _ _ _ _ _; first | (apply GJ.and; exact rfl; intro hg) | (apply GJ.or; exact rfl; intro hg)))
      rw [Int.toNat_natCast]
      refine OpOk.loadRow rfl rfl (LdN.at hr1 hdr1) rfl ?_
      repeat (first
        | (show _ ∧ _; exact ⟨rfl, rfl, rfl⟩)
        | refine wkT ?_
        | (show OpOk _ _ _ _ _ _ _; first | refine opB (fun b => ?_) | refine opA (fun a' c' hc1 hc2 => ?_))
        | (show GJ _ _ _ _ _ _ _; first | (apply GJ.and; exact rfl; intro hg) | (apply GJ.or; exact rfl; intro hg)))
      refine kids_ok hN1 (by omega) (fun a1 n1 c1 h1 h2 h3 => ?_)
      subst h1
      have hkl : (kidsD d).length ≤ 1000 := by unfold kidsD; split <;> simp <;> omega
      repeat (first
        | (show _ ∧ _; exact ⟨rfl, rfl, rfl⟩)
        | refine wkT ?_
        | (show OpOk _ _ _ _ _ _ _; first | refine opB (fun b => ?_) | refine opA (fun a' c' hc1 hc2 => ?_))
        | (show GJ _ _ _ _ _ _ _; first | (apply GJ.and; exact rfl; intro hg) | (apply GJ.or; exact rfl; intro hg)))
      refine LoopOk.at (ι := Nat × ω) Keep.auto (fun (j, w) => [(20, .int .i64 (j : Int))]) (fun (j, w) => .sl a1 (kidsD d).length c1 3 1 (kidsV (kidsD d)) :: .blk b 25 (specV s a) :: (G ++ O (p ++ [(i : Int)] ++ ((kidsD d).take j).flatMap (preI (kidsAt s) s.nodes.length)) w)) (fun (j, w) => j ≤ (kidsD d).length ∧ W (p ++ [(i : Int)] ++ ((kidsD d).take j).flatMap (preI (kidsAt s) s.nodes.length)) w ∧ (runG go (p ++ [(i : Int)]) (((kidsD d).take j).flatMap (preI (kidsAt s) s.nodes.length))).1 = true) (fun (j, w) => (kidsD d).length - j) (0, w1) ?_ Sub.auto ?_ ?_
      · exact ⟨by omega, by simpa using hw1, rfl⟩
      · simp only [List.take_zero, List.flatMap_nil, List.append_nil]
        exact Sup.all _
      rintro ⟨j, w2⟩ ⟨i1, i2, i3⟩
      dsimp only [List.cons_append, List.nil_append] at i1 i2 i3 ⊢
      repeat (first
        | (show _ ∧ _; exact ⟨rfl, rfl, rfl⟩)
        | refine wkT ?_
        | (show OpOk _ _ _ _ _ _ _; first | refine opB (fun b => ?_) | refine opA (fun a' c' hc1 hc2 => ?_))
        | (show GJ _ _ _ _ _ _ _; first | (apply GJ.and; exact rfl; intro hg) | (apply GJ.or; exact rfl; intro hg)))
      refine Br.cases (fun hlt => ?_) (fun hlt => ?_)
      · have hj : j < (kidsD d).length := by omega
        have hsplit : (kidsD d).take (j + 1) = (kidsD d).take j ++ [(kidsD d)[j]] := by rw [List.take_succ_eq_append_getElem hj]
        have hbang : (kidsD d)[((j : Nat) : Int).toNat]! = (kidsD d)[j] := by rw [Int.toNat_natCast]; simp [hj]
        obtain ⟨q1, q2⟩ := hks _ (List.getElem_mem hj)
        obtain ⟨k, hk0⟩ := Int.eq_ofNat_of_zero_le q1
        have hdrop : (kidsD d).drop (j + 1) = (kidsD d).drop (j + 1) := rfl
        have hall : kidsD d = (kidsD d).take j ++ (kidsD d)[j] :: (kidsD d).drop (j + 1) := by
          conv => lhs; rw [← List.take_append_drop j (kidsD d)]
          rw [List.drop_eq_getElem_cons hj]
        repeat (first
          | (show _ ∧ _; exact ⟨rfl, rfl, rfl⟩)
          | refine wkT ?_
          | (show OpOk _ _ _ _ _ _ _; first | refine opB (fun b => ?_) | refine opA (fun a' c' hc1 hc2 => ?_))
          | (show GJ _ _ _ _ _ _ _; first | (apply GJ.and; exact rfl; intro hg) | (apply GJ.or; exact rfl; intro hg)))
        rw [hbang, hk0]
        rw [hk0] at hsplit hall q2
        have hT2 : T = p ++ [(i : Int)] ++ ((kidsD d).take j).flatMap (preI (kidsAt s) s.nodes.length) ++ preI (kidsAt s) s.nodes.length (k : Int) ++ (((kidsD d).drop (j + 1)).flatMap (preI (kidsAt s) s.nodes.length) ++ r) := by
          rw [hT]
          conv => lhs; rw [hall]
          simp
        have hnext : runG go (p ++ [(i : Int)]) (((kidsD d).take (j + 1)).flatMap (preI (kidsAt s) s.nodes.length)) = runG go (p ++ [(i : Int)] ++ ((kidsD d).take j).flatMap (preI (kidsAt s) s.nodes.length)) (preI (kidsAt s) s.nodes.length (k : Int)) := by
          rw [hsplit, List.flatMap_append, runG_append, if_pos i3, List.flatMap_singleton]
        refine ih k (by omega) (by omega) (p ++ [(i : Int)] ++ ((kidsD d).take j).flatMap (preI (kidsAt s) s.nodes.length)) _ hT2 w2 i2 ro' (.sl a1 (kidsD d).length c1 3 1 (kidsV (kidsD d)) :: .blk b 25 (specV s a) :: G) _ (fun w3 hw3 => ?_)
        rw [← hnext] at hw3 ⊢
        rw [List.cons_append, List.cons_append]
        cases hb : (runG go (p ++ [(i : Int)]) (((kidsD d).take (j + 1)).flatMap (preI (kidsAt s) s.nodes.length))).1 with
        | true =>
          rw [runG_true hb] at hw3 ⊢
          repeat (first
            | (show _ ∧ _; exact ⟨rfl, rfl, rfl⟩)
            | refine wkT ?_
            | (show OpOk _ _ _ _ _ _ _; first | refine opB (fun b => ?_) | refine opA (fun a' c' hc1 hc2 => ?_))
            | (show GJ _ _ _ _ _ _ _; first | (apply GJ.and; exact rfl; intro hg) | (apply GJ.or; exact rfl; intro hg)))
          refine Wk.id ⟨(j + 1, w3), ⟨rfl, ?_⟩, ?_, Sub.auto, Sup.all _⟩
          · exact ⟨by omega, hw3, hb⟩
          · dsimp only; omega
        | false =>
          have hfin : runG go (p ++ [(i : Int)]) ((kidsD d).flatMap (preI (kidsAt s) s.nodes.length)) = runG go (p ++ [(i : Int)]) (((kidsD d).take (j + 1)).flatMap (preI (kidsAt s) s.nodes.length)) := by
            conv => lhs; rw [← List.take_append_drop (j + 1) (kidsD d)]
            rw [List.flatMap_append, runG_append, if_neg (by rw [hb]; simp)]
          have hk2 := hk w3 (by rw [hfin]; exact hw3)
          rw [hfin, hb] at hk2
          repeat (first
            | (show _ ∧ _; exact ⟨rfl, rfl, rfl⟩)
            | refine wkT ?_
            | (show OpOk _ _ _ _ _ _ _; first | refine opB (fun b => ?_) | refine opA (fun a' c' hc1 hc2 => ?_))
            | (show GJ _ _ _ _ _ _ _; first | (apply GJ.and; exact rfl; intro hg) | (apply GJ.or; exact rfl; intro hg)))
          exact Wk.own _ (Sup.drop _ (Sup.drop _ (Sup.all _))) (Wk.id hk2)
      · obtain rfl : j = (kidsD d).length := by omega
        rw [List.take_length] at *
        have hk2 := hk w2 (by rw [runG_true i3]; exact i2)
        rw [runG_true i3, i3] at hk2
        repeat (first
          | (show _ ∧ _; exact ⟨rfl, rfl, rfl⟩)
          | refine wkT ?_
          | (show OpOk _ _ _ _ _ _ _; first | refine opB (fun b => ?_) | refine opA (fun a' c' hc1 hc2 => ?_))
          | (show GJ _ _ _ _ _ _ _; first | (apply GJ.and; exact rfl; intro hg) | (apply GJ.or; exact rfl; intro hg)))
        exact Wk.own _ (Sup.drop _ (Sup.drop _ (Sup.all _))) (Wk.id hk2)
end
end Go.Proofs.Ytniofdklhlbphaa
