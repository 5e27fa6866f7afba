/- Contracts of strings.Builder. -/
import Derived.Test.YtniofdklhlbphaaDoorT
import Derived.Test.YtniofdklhlbphaaDoorEn2
namespace Go.Proofs.YtniofdklhlbphaaDoor
open Go Go.E
set_option linter.unusedVariables false
set_option maxRecDepth 10000
section
variable {ro : Ro} {own r : Chs} {K : Value → Ro → Chs → Prop} {g : Chunk → Chs}
theorem copy_ok {b : Nat} {q : Option Addr} {v : Value} (hq : q = none ∨ q = some ⟨b, 0, none⟩) (hk : K (.tuple #[]) ro (.blk b 87 [ptr' b, v] :: r)) : CallOk Tryd.prog 68 #[ptr' b] ro (.blk b 87 [.pointer q, v] :: r) K := by
  rcases hq with rfl | rfl
  · refine CallOk.intro (args := [_]) (rs := []) T_ok Tryd.func68 Tryd.call68 rfl rfl (by kernel_rfl) rfl rfl ?_
    repeat (first
      | (show _ ∧ _; exact ⟨rfl, rfl, rfl⟩)
      | refine wkG ?_
      | (show OpOk _ _ _ _ _ _ _; first | refine opB (fun b => ?_) | refine opA (fun a' c' hc1 hc2 => ?_))
      | (show GJ _ _ _ _ _ _ _; first | (apply GJ.and; exact rfl; intro hg) | (apply GJ.or; exact rfl; intro hg) | refine GJ.t omAuto ?_ | refine GJ.f omAuto ?_ | refine GJ.ft omAuto ?_ | refine GJ.ff omAuto ?_))
    refine OpOk.eqlPtrNil rfl rfl (by kernel_rfl) ?_
    repeat (first
      | (show _ ∧ _; exact ⟨rfl, rfl, rfl⟩)
      | refine wkG ?_
      | (show OpOk _ _ _ _ _ _ _; first | refine opB (fun b => ?_) | refine opA (fun a' c' hc1 hc2 => ?_))
      | (show GJ _ _ _ _ _ _ _; first | (apply GJ.and; exact rfl; intro hg) | (apply GJ.or; exact rfl; intro hg) | refine GJ.t omAuto ?_ | refine GJ.f omAuto ?_ | refine GJ.ft omAuto ?_ | refine GJ.ff omAuto ?_))
    refine OpOk.unsafe (e := 87) (v := .pointer none) rfl rfl (by kernel_rfl) (by kernel_rfl) (Ld.hasBlk rfl) ?_
    repeat (first
      | (show _ ∧ _; exact ⟨rfl, rfl, rfl⟩)
      | refine wkG ?_
      | (show OpOk _ _ _ _ _ _ _; first | refine opB (fun b => ?_) | refine opA (fun a' c' hc1 hc2 => ?_))
      | (show GJ _ _ _ _ _ _ _; first | (apply GJ.and; exact rfl; intro hg) | (apply GJ.or; exact rfl; intro hg) | refine GJ.t omAuto ?_ | refine GJ.f omAuto ?_ | refine GJ.ft omAuto ?_ | refine GJ.ff omAuto ?_))
    refine CallOk.ext Tryd.func90 (by kernel_rfl) (by kernel_rfl) (by kernel_rfl) (e := Extern.AbiNoEscape.same) (by kernel_rfl) (fun w => rfl) ?_
    repeat (first
      | (show _ ∧ _; exact ⟨rfl, rfl, rfl⟩)
      | refine wkG ?_
      | (show OpOk _ _ _ _ _ _ _; first | refine opB (fun b => ?_) | refine opA (fun a' c' hc1 hc2 => ?_))
      | (show GJ _ _ _ _ _ _ _; first | (apply GJ.and; exact rfl; intro hg) | (apply GJ.or; exact rfl; intro hg) | refine GJ.t omAuto ?_ | refine GJ.f omAuto ?_ | refine GJ.ft omAuto ?_ | refine GJ.ff omAuto ?_))
    refine OpOk.fromUnsafe (u := 87) rfl (by kernel_rfl) (by kernel_rfl) (by kernel_rfl) (by kernel_rfl) ?_
    repeat (first
      | (show _ ∧ _; exact ⟨rfl, rfl, rfl⟩)
      | refine wkG ?_
      | (show OpOk _ _ _ _ _ _ _; first | refine opB (fun b => ?_) | refine opA (fun a' c' hc1 hc2 => ?_))
      | (show GJ _ _ _ _ _ _ _; first | (apply GJ.and; exact rfl; intro hg) | (apply GJ.or; exact rfl; intro hg) | refine GJ.t omAuto ?_ | refine GJ.f omAuto ?_ | refine GJ.ft omAuto ?_ | refine GJ.ff omAuto ?_))
    exact Wk.outS Sup.auto (.refl _) hk
  · refine CallOk.intro (args := [_]) (rs := []) T_ok Tryd.func68 Tryd.call68 rfl rfl (by kernel_rfl) rfl rfl ?_
    repeat (first
      | (show _ ∧ _; exact ⟨rfl, rfl, rfl⟩)
      | refine wkG ?_
      | (show OpOk _ _ _ _ _ _ _; first | refine opB (fun b => ?_) | refine opA (fun a' c' hc1 hc2 => ?_))
      | (show GJ _ _ _ _ _ _ _; first | (apply GJ.and; exact rfl; intro hg) | (apply GJ.or; exact rfl; intro hg) | refine GJ.t omAuto ?_ | refine GJ.f omAuto ?_ | refine GJ.ft omAuto ?_ | refine GJ.ff omAuto ?_))
    refine OpOk.neqPtrSame (te := 87) rfl rfl (by kernel_rfl) (by kernel_rfl) ?_
    repeat (first
      | (show _ ∧ _; exact ⟨rfl, rfl, rfl⟩)
      | refine wkG ?_
      | (show OpOk _ _ _ _ _ _ _; first | refine opB (fun b => ?_) | refine opA (fun a' c' hc1 hc2 => ?_))
      | (show GJ _ _ _ _ _ _ _; first | (apply GJ.and; exact rfl; intro hg) | (apply GJ.or; exact rfl; intro hg) | refine GJ.t omAuto ?_ | refine GJ.f omAuto ?_ | refine GJ.ft omAuto ?_ | refine GJ.ff omAuto ?_))
    exact Wk.outS Sup.auto (.refl _) hk
/-- A builder with its bytes. -/
def BQ (b : Nat) (q : Option Addr) : Prop := q = none ∨ q = some ⟨b, 0, none⟩
theorem wbyte_ok {b n c x : Nat} {q a : Option Addr} {l : List UInt8} {u : UInt8} (hq : BQ b q) (hx : x = u.toNat) (hn : n = l.length) (hl : l.length ≤ 100000) (hk : ∀ a' c', n + 1 ≤ c' → c' ≤ maxLen → K .nilIface ro (.blk b 87 [ptr' b, .slice a' (n + 1) c'] :: .sl a' (n + 1) c' 5 1 ((l ++ [u]).map u8) :: r)) :
    CallOk Tryd.prog 84 #[ptr' b, .int .u8 (x : Int)] ro (.blk b 87 [.pointer q, .slice a n c] :: .sl a n c 5 1 (l.map u8) :: r) K := by
  subst hx
  rw [List.map_append] at hk
  refine CallOk.intro (args := [_, _]) (rs := [_]) T_ok Tryd.func84 Tryd.call84 rfl rfl (by kernel_rfl) rfl rfl ?_
  repeat (first
    | (show _ ∧ _; exact ⟨rfl, rfl, rfl⟩)
    | refine wkG ?_
    | (show OpOk _ _ _ _ _ _ _; first | refine opB (fun b => ?_) | refine opA (fun a' c' hc1 hc2 => ?_))
    | (show GJ _ _ _ _ _ _ _; first | (apply GJ.and; exact rfl; intro hg) | (apply GJ.or; exact rfl; intro hg) | refine GJ.t omAuto ?_ | refine GJ.f omAuto ?_ | refine GJ.ft omAuto ?_ | refine GJ.ff omAuto ?_))
  refine copy_ok hq ?_
  repeat (first
    | (show _ ∧ _; exact ⟨rfl, rfl, rfl⟩)
    | refine wkG ?_
    | (show OpOk _ _ _ _ _ _ _; first | refine opB (fun b => ?_) | refine opA (fun a' c' hc1 hc2 => ?_))
    | (show GJ _ _ _ _ _ _ _; first | (apply GJ.and; exact rfl; intro hg) | (apply GJ.or; exact rfl; intro hg) | refine GJ.t omAuto ?_ | refine GJ.f omAuto ?_ | refine GJ.ft omAuto ?_ | refine GJ.ff omAuto ?_))
  exact Wk.outS Sup.auto (.refl _) (hk a' c' hc1 hc2)
theorem wstr_ok {b n c : Nat} {q a : Option Addr} {l m : List UInt8} (hq : BQ b q) (hn : n = l.length) (hl : l.length ≤ 100000 ∧ m.length ≤ 100000) (hk : ∀ a' c', n + m.length ≤ c' → c' ≤ maxLen → K (.tuple #[.int .i64 ((m.length : Nat) : Int), .nilIface]) ro (.blk b 87 [ptr' b, .slice a' (n + m.length) c'] :: .sl a' (n + m.length) c' 5 1 ((l ++ m).map u8) :: r)) :
    CallOk Tryd.prog 42 #[ptr' b, str m] ro (.blk b 87 [.pointer q, .slice a n c] :: .sl a n c 5 1 (l.map u8) :: r) K := by
  rw [List.map_append] at hk
  refine CallOk.intro (args := [_, _]) (rs := [_, _]) T_ok Tryd.func42 Tryd.call42 rfl rfl (by kernel_rfl) rfl rfl ?_
  repeat (first
    | (show _ ∧ _; exact ⟨rfl, rfl, rfl⟩)
    | refine wkG ?_
    | (show OpOk _ _ _ _ _ _ _; first | refine opB (fun b => ?_) | refine opA (fun a' c' hc1 hc2 => ?_))
    | (show GJ _ _ _ _ _ _ _; first | (apply GJ.and; exact rfl; intro hg) | (apply GJ.or; exact rfl; intro hg) | refine GJ.t omAuto ?_ | refine GJ.f omAuto ?_ | refine GJ.ft omAuto ?_ | refine GJ.ff omAuto ?_))
  refine copy_ok hq ?_
  repeat (first
    | (show _ ∧ _; exact ⟨rfl, rfl, rfl⟩)
    | refine wkG ?_
    | (show OpOk _ _ _ _ _ _ _; first | refine opB (fun b => ?_) | refine opA (fun a' c' hc1 hc2 => ?_))
    | (show GJ _ _ _ _ _ _ _; first | (apply GJ.and; exact rfl; intro hg) | (apply GJ.or; exact rfl; intro hg) | refine GJ.t omAuto ?_ | refine GJ.f omAuto ?_ | refine GJ.ft omAuto ?_ | refine GJ.ff omAuto ?_))
  refine OpOk.appendS rfl rfl (by kernel_rfl) (by kernel_rfl) (by kernel_rfl) (by omega) (fun a' c' hc1 hc2 => ?_)
  repeat (first
    | (show _ ∧ _; exact ⟨rfl, rfl, rfl⟩)
    | refine wkG ?_
    | (show OpOk _ _ _ _ _ _ _; first | refine opB (fun b => ?_) | refine opA (fun a' c' hc1 hc2 => ?_))
    | (show GJ _ _ _ _ _ _ _; first | (apply GJ.and; exact rfl; intro hg) | (apply GJ.or; exact rfl; intro hg) | refine GJ.t omAuto ?_ | refine GJ.f omAuto ?_ | refine GJ.ft omAuto ?_ | refine GJ.ff omAuto ?_))
  exact Wk.outS Sup.auto (.refl _) (hk a' c' hc1 hc2)
theorem bstr_ok {b n c : Nat} {q a : Option Addr} {l : List UInt8} (hn : n = l.length) (h0 : l ≠ []) (hnc : n ≤ c) (hl : l.length ≤ 100000) (hk : K (str l) ro (.blk b 87 [.pointer q, .slice a n c] :: r)) :
    CallOk Tryd.prog 44 #[ptr' b] ro (.blk b 87 [.pointer q, .slice a n c] :: .sl a n c 5 1 (l.map u8) :: r) K := by
  refine CallOk.intro (args := [_]) (rs := [_]) T_ok Tryd.func44 Tryd.call44 rfl rfl (by kernel_rfl) rfl rfl ?_
  repeat (first
    | (show _ ∧ _; exact ⟨rfl, rfl, rfl⟩)
    | refine wkG ?_
    | (show OpOk _ _ _ _ _ _ _; first | refine opB (fun b => ?_) | refine opA (fun a' c' hc1 hc2 => ?_))
    | (show GJ _ _ _ _ _ _ _; first | (apply GJ.and; exact rfl; intro hg) | (apply GJ.or; exact rfl; intro hg) | refine GJ.t omAuto ?_ | refine GJ.f omAuto ?_ | refine GJ.ft omAuto ?_ | refine GJ.ff omAuto ?_))
  refine Bs.all ?_
  repeat (first
    | (show _ ∧ _; exact ⟨rfl, rfl, rfl⟩)
    | refine wkG ?_
    | (show OpOk _ _ _ _ _ _ _; first | refine opB (fun b => ?_) | refine opA (fun a' c' hc1 hc2 => ?_))
    | (show GJ _ _ _ _ _ _ _; first | (apply GJ.and; exact rfl; intro hg) | (apply GJ.or; exact rfl; intro hg) | refine GJ.t omAuto ?_ | refine GJ.f omAuto ?_ | refine GJ.ft omAuto ?_ | refine GJ.ff omAuto ?_))
  have hl0 : l.length ≠ 0 := by simpa using h0
  refine OpOk.know (∃ b', a = some ⟨b', 0, none⟩) (fun h hs => Sat.slSome Take.auto hs (by omega)) (fun ⟨b', e⟩ => ?_)
  subst e
  refine OpOk.sliceData rfl (by omega) ?_
  repeat (first
    | (show _ ∧ _; exact ⟨rfl, rfl, rfl⟩)
    | refine wkG ?_
    | (show OpOk _ _ _ _ _ _ _; first | refine opB (fun b => ?_) | refine opA (fun a' c' hc1 hc2 => ?_))
    | (show GJ _ _ _ _ _ _ _; first | (apply GJ.and; exact rfl; intro hg) | (apply GJ.or; exact rfl; intro hg) | refine GJ.t omAuto ?_ | refine GJ.f omAuto ?_ | refine GJ.ft omAuto ?_ | refine GJ.ff omAuto ?_))
  subst hn
  refine OpOk.unsafeString (l := l) rfl rfl (by kernel_rfl) (by kernel_rfl) Take.auto h0 (by omega) ?_
  repeat (first
    | (show _ ∧ _; exact ⟨rfl, rfl, rfl⟩)
    | refine wkG ?_
    | (show OpOk _ _ _ _ _ _ _; first | refine opB (fun b => ?_) | refine opA (fun a' c' hc1 hc2 => ?_))
    | (show GJ _ _ _ _ _ _ _; first | (apply GJ.and; exact rfl; intro hg) | (apply GJ.or; exact rfl; intro hg) | refine GJ.t omAuto ?_ | refine GJ.f omAuto ?_ | refine GJ.ft omAuto ?_ | refine GJ.ff omAuto ?_))
  exact Wk.outS Sup.auto (.refl _) hk
end
end Go.Proofs.YtniofdklhlbphaaDoor
