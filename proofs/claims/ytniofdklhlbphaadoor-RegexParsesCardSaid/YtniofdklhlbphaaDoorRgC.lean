/- Contracts of regex: write, Text. -/
import Derived.Test.YtniofdklhlbphaaDoorRgA
import Derived.Test.YtniofdklhlbphaaDoorRgB
namespace Go.Proofs.YtniofdklhlbphaaDoor
open Go Go.E
set_option linter.unusedVariables false
set_option linter.unusedSimpArgs false
set_option maxRecDepth 10000
section
variable {ro : Ro} {own r : Chs} {K : Value → Ro → Chs → Prop} {g : Chunk → Chs}
theorem wbyteL_ok {b n c x : Nat} {q a : Option Addr} {l : List UInt8} {u : UInt8} (hq : BQ b q) (hx : x = u.toNat) (hn : n = l.length) (hl : l.length ≤ 20000000) (hk : ∀ a' c', n + 1 ≤ c' → c' ≤ maxLen → K .nilIface ro (.blk b 87 [ptr' b, .slice a' (n + 1) c'] :: .sl a' (n + 1) c' 5 1 ((l ++ [u]).map u8) :: r)) :
    CallOk Tryd.prog 84 #[ptr' b, .int .u8 (x : Int)] ro (.blk b 87 [.pointer q, .slice a n c] :: .sl a n c 5 1 (l.map u8) :: r) K := by
  subst hx
  rw [List.map_append] at hk
  refine CallOk.intro (args := [_, _]) (rs := [_]) T_ok Tryd.func84 Tryd.call84 rfl rfl (by kernel_rfl) rfl rfl ?_
  repeat (first
    | (show _ ∧ _; exact ⟨rfl, rfl, rfl⟩)
    | refine wkG ?_
    | (show OpOk _ _ _ _ _ _ _; first | refine opB (fun b => ?_) | refine opA (fun a' c' hc1 hc2 => ?_))
    | (show GJ _ _ _ _ _ _ _; first | (apply GJ.and; exact rfl; intro hg) | (apply GJ.or; exact rfl; intro hg) | refine GJ.t omAuto ?_ | refine GJ.f omAuto ?_ | refine GJ.ft omAuto ?_ | refine GJ.ff omAuto ?_))
  refine copy_ok hq ?_
  repeat (first
    | (show _ ∧ _; exact ⟨rfl, rfl, rfl⟩)
    | refine wkG ?_
    | (show OpOk _ _ _ _ _ _ _; first | refine opB (fun b => ?_) | refine opA (fun a' c' hc1 hc2 => ?_))
    | (show GJ _ _ _ _ _ _ _; first | (apply GJ.and; exact rfl; intro hg) | (apply GJ.or; exact rfl; intro hg) | refine GJ.t omAuto ?_ | refine GJ.f omAuto ?_ | refine GJ.ft omAuto ?_ | refine GJ.ff omAuto ?_))
  exact Wk.outS Sup.auto (.refl _) (hk a' c' hc1 hc2)
theorem wstrL_ok {b n c : Nat} {q a : Option Addr} {l m : List UInt8} (hq : BQ b q) (hn : n = l.length) (hl : l.length ≤ 20000000 ∧ m.length ≤ 20000000) (hk : ∀ a' c', n + m.length ≤ c' → c' ≤ maxLen → K (.tuple #[.int .i64 ((m.length : Nat) : Int), .nilIface]) ro (.blk b 87 [ptr' b, .slice a' (n + m.length) c'] :: .sl a' (n + m.length) c' 5 1 ((l ++ m).map u8) :: r)) :
    CallOk Tryd.prog 42 #[ptr' b, str m] ro (.blk b 87 [.pointer q, .slice a n c] :: .sl a n c 5 1 (l.map u8) :: r) K := by
  rw [List.map_append] at hk
  refine CallOk.intro (args := [_, _]) (rs := [_, _]) T_ok Tryd.func42 Tryd.call42 rfl rfl (by kernel_rfl) rfl rfl ?_
  repeat (first
    | (show _ ∧ _; exact ⟨rfl, rfl, rfl⟩)
    | refine wkG ?_
    | (show OpOk _ _ _ _ _ _ _; first | refine opB (fun b => ?_) | refine opA (fun a' c' hc1 hc2 => ?_))
    | (show GJ _ _ _ _ _ _ _; first | (apply GJ.and; exact rfl; intro hg) | (apply GJ.or; exact rfl; intro hg) | refine GJ.t omAuto ?_ | refine GJ.f omAuto ?_ | refine GJ.ft omAuto ?_ | refine GJ.ff omAuto ?_))
  refine copy_ok hq ?_
  repeat (first
    | (show _ ∧ _; exact ⟨rfl, rfl, rfl⟩)
    | refine wkG ?_
    | (show OpOk _ _ _ _ _ _ _; first | refine opB (fun b => ?_) | refine opA (fun a' c' hc1 hc2 => ?_))
    | (show GJ _ _ _ _ _ _ _; first | (apply GJ.and; exact rfl; intro hg) | (apply GJ.or; exact rfl; intro hg) | refine GJ.t omAuto ?_ | refine GJ.f omAuto ?_ | refine GJ.ft omAuto ?_ | refine GJ.ff omAuto ?_))
  refine OpOk.appendS rfl rfl (by kernel_rfl) (by kernel_rfl) (by kernel_rfl) (by omega) (fun a' c' hc1 hc2 => ?_)
  repeat (first
    | (show _ ∧ _; exact ⟨rfl, rfl, rfl⟩)
    | refine wkG ?_
    | (show OpOk _ _ _ _ _ _ _; first | refine opB (fun b => ?_) | refine opA (fun a' c' hc1 hc2 => ?_))
    | (show GJ _ _ _ _ _ _ _; first | (apply GJ.and; exact rfl; intro hg) | (apply GJ.or; exact rfl; intro hg) | refine GJ.t omAuto ?_ | refine GJ.f omAuto ?_ | refine GJ.ft omAuto ?_ | refine GJ.ff omAuto ?_))
  exact Wk.outS Sup.auto (.refl _) (hk a' c' hc1 hc2)
theorem bstrL_ok {b n c : Nat} {q a : Option Addr} {l : List UInt8} (hn : n = l.length) (h0 : l ≠ []) (hnc : n ≤ c) (hl : l.length ≤ 20000000) (hk : K (str l) ro (.blk b 87 [.pointer q, .slice a n c] :: r)) :
    CallOk Tryd.prog 44 #[ptr' b] ro (.blk b 87 [.pointer q, .slice a n c] :: .sl a n c 5 1 (l.map u8) :: r) K := by
  refine CallOk.intro (args := [_]) (rs := [_]) T_ok Tryd.func44 Tryd.call44 rfl rfl (by kernel_rfl) rfl rfl ?_
  repeat (first
    | (show _ ∧ _; exact ⟨rfl, rfl, rfl⟩)
    | refine wkG ?_
    | (show OpOk _ _ _ _ _ _ _; first | refine opB (fun b => ?_) | refine opA (fun a' c' hc1 hc2 => ?_))
    | (show GJ _ _ _ _ _ _ _; first | (apply GJ.and; exact rfl; intro hg) | (apply GJ.or; exact rfl; intro hg) | refine GJ.t omAuto ?_ | refine GJ.f omAuto ?_ | refine GJ.ft omAuto ?_ | refine GJ.ff omAuto ?_))
  refine Bs.all ?_
  repeat (first
    | (show _ ∧ _; exact ⟨rfl, rfl, rfl⟩)
    | refine wkG ?_
    | (show OpOk _ _ _ _ _ _ _; first | refine opB (fun b => ?_) | refine opA (fun a' c' hc1 hc2 => ?_))
    | (show GJ _ _ _ _ _ _ _; first | (apply GJ.and; exact rfl; intro hg) | (apply GJ.or; exact rfl; intro hg) | refine GJ.t omAuto ?_ | refine GJ.f omAuto ?_ | refine GJ.ft omAuto ?_ | refine GJ.ff omAuto ?_))
  have hl0 : l.length ≠ 0 := by simpa using h0
  refine OpOk.know (∃ b', a = some ⟨b', 0, none⟩) (fun h hs => Sat.slSome Take.auto hs (by omega)) (fun ⟨b', e⟩ => ?_)
  subst e
  refine OpOk.sliceData rfl (by omega) ?_
  repeat (first
    | (show _ ∧ _; exact ⟨rfl, rfl, rfl⟩)
    | refine wkG ?_
    | (show OpOk _ _ _ _ _ _ _; first | refine opB (fun b => ?_) | refine opA (fun a' c' hc1 hc2 => ?_))
    | (show GJ _ _ _ _ _ _ _; first | (apply GJ.and; exact rfl; intro hg) | (apply GJ.or; exact rfl; intro hg) | refine GJ.t omAuto ?_ | refine GJ.f omAuto ?_ | refine GJ.ft omAuto ?_ | refine GJ.ff omAuto ?_))
  subst hn
  refine OpOk.unsafeString (l := l) rfl rfl (by kernel_rfl) (by kernel_rfl) Take.auto h0 (by omega) ?_
  repeat (first
    | (show _ ∧ _; exact ⟨rfl, rfl, rfl⟩)
    | refine wkG ?_
    | (show OpOk _ _ _ _ _ _ _; first | refine opB (fun b => ?_) | refine opA (fun a' c' hc1 hc2 => ?_))
    | (show GJ _ _ _ _ _ _ _; first | (apply GJ.and; exact rfl; intro hg) | (apply GJ.or; exact rfl; intro hg) | refine GJ.t omAuto ?_ | refine GJ.f omAuto ?_ | refine GJ.ft omAuto ?_ | refine GJ.ff omAuto ?_))
  exact Wk.outS Sup.auto (.refl _) hk
end
/-! how long -/
theorem text_len (s : SetD) : (textD s).length ≤ 2306 := by
  rcases textD_three s with ⟨h1, h2⟩ | ⟨c, hc, h1, h2, h3, h4, h5⟩ | ⟨h1, h2, h3⟩
  · rw [h2]; decide
  · rw [h5]; have := (nameD_len c).2; omega
  · rw [h3]; have := runsF_len s 256 0; simp; omega
theorem often_len (a b : Int) : (oftenD a b).length ≤ 44 := by
  have h1 := digsD_len a.toNat
  have h2 := digsD_len b.toNat
  unfold oftenD
  repeat' split
  all_goals first | (simp; done) | (simp; omega)
theorem writeC_app : ∀ (a b : List RgD), writeC (a ++ b) = writeC a ++ writeC b
  | [], b => rfl
  | x :: a, b => by rw [List.cons_append, writeC, writeC, writeC_app a b, List.append_assoc]
theorem writeA_app : ∀ (a b : List RgD) (f : Bool), writeA (a ++ b) f = writeA a f ++ writeA b (f && a.isEmpty)
  | [], b, f => by simp [writeA]
  | x :: a, b, f => by rw [List.cons_append, writeA, writeA, writeA_app a b]; simp
mutual
theorem write_len : ∀ (n : RgD) (w : Bool), (writeD n w).length + 1 ≤ 2400 * sizeD n
  | .mk k s l a b, w => by
    have h1 := text_len s
    have h2 := often_len a b
    have h3 := writeK_len l
    rw [writeD, sizeD]
    have e1 : (if w = true ∧ k ≠ 2 ∧ k ≠ 5 then ([40] : List UInt8) else []).length ≤ 1 := by split <;> simp
    have e2 : (if w = true ∧ k ≠ 2 ∧ k ≠ 5 then ([41] : List UInt8) else []).length ≤ 1 := by split <;> simp
    have e3 : (if k = 2 then textD s else if k = 3 then writeC l else if k = 4 then writeA l true else if k = 5 then writeH l ++ oftenD a b else []).length ≤ 2390 + 2400 * sizeK l := by
      have h4 := h3.2.1 true
      repeat' split
      all_goals first | omega | (rw [List.length_append]; omega) | simp
    rw [List.length_append, List.length_append]
    omega
theorem writeK_len : ∀ (l : List RgD), (writeC l).length ≤ 2400 * sizeK l ∧ (∀ f, (writeA l f).length ≤ 2400 * sizeK l) ∧ (writeH l).length ≤ 2400 * sizeK l
  | [] => by simp [writeC, writeA, writeH]
  | x :: r => by
    have h1 := write_len x true
    have h2 := write_len x false
    have h3 := writeK_len r
    rw [writeC, writeH, sizeK, List.length_append]
    refine ⟨by omega, fun f => ?_, by omega⟩
    have h4 := h3.2.1 false
    rw [writeA, List.length_append, List.length_append]
    have e1 : (if f then ([] : List UInt8) else [124]).length ≤ 1 := by split <;> simp
    cases decide (x.kind = 4) <;> omega
end

end Go.Proofs.YtniofdklhlbphaaDoor
