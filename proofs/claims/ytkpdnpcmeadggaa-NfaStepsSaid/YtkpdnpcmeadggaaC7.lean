/- Contracts of class: Name. -/
import Derived.Test.YtkpdnpcmeadggaaC6
namespace Go.Proofs.Ytkpdnpcmeadggaa
open Go Go.E
set_option linter.unusedVariables false
set_option linter.unusedSimpArgs false
set_option maxRecDepth 10000
def signsB : List UInt8 := [92, 47, 91, 93, 40, 41, 123, 125, 124, 42, 43, 63, 46, 45, 94, 35, 34]
def hexB : List UInt8 := [48, 49, 50, 51, 52, 53, 54, 55, 56, 57, 97, 98, 99, 100, 101, 102]
def plainC (c : Nat) : Bool := decide (32 < c) && decide (c < 127) && !(signsB.map (·.toNat)).contains c
def nameD (c : Nat) : List UInt8 := if plainC c then [UInt8.ofNat c] else [92, 120, hexB.getD (c / 16) 0, hexB.getD (c % 16) 0]
section
variable {ro : Ro} {own r : Chs} {K : Value → Ro → Chs → Prop} {g : Chunk → Chs}
theorem hexs : ∀ k : Nat, k < 16 → List.take ((((k : Int) + 1) % 256).toNat - (k : Int).toNat) (List.drop (k : Int).toNat ([48, 49, 50, 51, 52, 53, 54, 55, 56, 57, 97, 98, 99, 100, 101, 102] : List UInt8)) = [hexB.getD k 0] := by decide +kernel
theorem signs_all : ∀ c : Nat, c < 256 → decide (0 ≤ firstIdx ⟨⟨signsB⟩⟩ (UInt8.ofNat c)) = (signsB.map (·.toNat)).contains c := by decide +kernel
theorem signs_u (u : UInt8) : decide (0 ≤ firstIdx ⟨⟨signsB⟩⟩ u) = (signsB.map (·.toNat)).contains u.toNat := by
  have := signs_all u.toNat u.toNat_lt
  rwa [UInt8.ofNat_toNat] at this
theorem ibs_ok {l : List UInt8} {u : UInt8} (hk : K (.int .i64 (firstIdx ⟨⟨l⟩⟩ u)) ro own) : CallOk Try.prog 86 #[str l, .int .u8 ((u.toNat : Nat) : Int)] ro own K :=
  CallOk.ext Try.func86 (by kernel_rfl) (by kernel_rfl) (by kernel_rfl) (e := Extern.BytealgIndexByte.indexByte) (by kernel_rfl) (fun w => run_indexByte_string ⟨⟨l⟩⟩ ((u.toNat : Nat) : Int) w) (by simpa using hk)
theorem sib_ok {l : List UInt8} {u : UInt8} (hk : K (.int .i64 (firstIdx ⟨⟨l⟩⟩ u)) ro own) : CallOk Try.prog 80 #[str l, .int .u8 ((u.toNat : Nat) : Int)] ro own K := by
  refine CallOk.intro (args := [_, _]) (rs := [_]) T_ok Try.func80 Try.call80 rfl rfl (by kernel_rfl) rfl rfl ?_
  repeat (first
    | (show _ ∧ _; exact ⟨rfl, rfl, rfl⟩)
    | refine wkG ?_
    | (show OpOk _ _ _ _ _ _ _; first | refine opB (fun b => ?_) | refine opA (fun a' c' hc1 hc2 => ?_))
    | (show GJ _ _ _ _ _ _ _; first | (apply GJ.and; exact rfl; intro hg) | (apply GJ.or; exact rfl; intro hg) | refine GJ.t omAuto ?_ | refine GJ.f omAuto ?_ | refine GJ.ft omAuto ?_ | refine GJ.ff omAuto ?_))
  refine ibs_ok ?_
  repeat (first
    | (show _ ∧ _; exact ⟨rfl, rfl, rfl⟩)
    | refine wkG ?_
    | (show OpOk _ _ _ _ _ _ _; first | refine opB (fun b => ?_) | refine opA (fun a' c' hc1 hc2 => ?_))
    | (show GJ _ _ _ _ _ _ _; first | (apply GJ.and; exact rfl; intro hg) | (apply GJ.or; exact rfl; intro hg) | refine GJ.t omAuto ?_ | refine GJ.f omAuto ?_ | refine GJ.ft omAuto ?_ | refine GJ.ff omAuto ?_))
  exact Wk.outS Sup.auto (.refl _) hk
theorem sidx_ok {l : List UInt8} {u : UInt8} (hne : [u] ≠ l) (hk : K (.int .i64 (firstIdx ⟨⟨l⟩⟩ u)) ro own) : CallOk Try.prog 77 #[str l, str [u]] ro own K := by
  have hl1 : ([u] : List UInt8).length = 1 := rfl
  refine CallOk.intro (args := [_, _]) (rs := [_]) T_ok Try.func77 Try.call77 rfl rfl (by kernel_rfl) rfl rfl ?_
  repeat (first
    | (show _ ∧ _; exact ⟨rfl, rfl, rfl⟩)
    | refine wkT ?_
    | (show OpOk _ _ _ _ _ _ _; first | refine opB (fun b => ?_) | refine opA (fun a' c' hc1 hc2 => ?_))
    | (show GJ _ _ _ _ _ _ _; first | (apply GJ.and; exact rfl; intro hg) | (apply GJ.or; exact rfl; intro hg)))
  refine sib_ok (u := u) ?_
  repeat (first
    | (show _ ∧ _; exact ⟨rfl, rfl, rfl⟩)
    | refine wkT ?_
    | (show OpOk _ _ _ _ _ _ _; first | refine opB (fun b => ?_) | refine opA (fun a' c' hc1 hc2 => ?_))
    | (show GJ _ _ _ _ _ _ _; first | (apply GJ.and; exact rfl; intro hg) | (apply GJ.or; exact rfl; intro hg)))
  exact Wk.outS Sup.auto (.refl _) hk
theorem index_ok {l : List UInt8} {u : UInt8} (hne : [u] ≠ l) (hk : K (.int .i64 (firstIdx ⟨⟨l⟩⟩ u)) ro own) : CallOk Try.prog 75 #[str l, str [u]] ro own K := by
  refine CallOk.intro (args := [_, _]) (rs := [_]) T_ok Try.func75 Try.call75 rfl rfl (by kernel_rfl) rfl rfl ?_
  repeat (first
    | (show _ ∧ _; exact ⟨rfl, rfl, rfl⟩)
    | refine wkG ?_
    | (show OpOk _ _ _ _ _ _ _; first | refine opB (fun b => ?_) | refine opA (fun a' c' hc1 hc2 => ?_))
    | (show GJ _ _ _ _ _ _ _; first | (apply GJ.and; exact rfl; intro hg) | (apply GJ.or; exact rfl; intro hg) | refine GJ.t omAuto ?_ | refine GJ.f omAuto ?_ | refine GJ.ft omAuto ?_ | refine GJ.ff omAuto ?_))
  refine sidx_ok hne ?_
  repeat (first
    | (show _ ∧ _; exact ⟨rfl, rfl, rfl⟩)
    | refine wkG ?_
    | (show OpOk _ _ _ _ _ _ _; first | refine opB (fun b => ?_) | refine opA (fun a' c' hc1 hc2 => ?_))
    | (show GJ _ _ _ _ _ _ _; first | (apply GJ.and; exact rfl; intro hg) | (apply GJ.or; exact rfl; intro hg) | refine GJ.t omAuto ?_ | refine GJ.f omAuto ?_ | refine GJ.ft omAuto ?_ | refine GJ.ff omAuto ?_))
  exact Wk.outS Sup.auto (.refl _) hk
theorem contains_ok {u : UInt8} (hk : K (.bool (decide (0 ≤ firstIdx ⟨⟨signsB⟩⟩ u))) ro own) : CallOk Try.prog 71 #[str signsB, str [u]] ro own K := by
  refine CallOk.intro (args := [_, _]) (rs := [_]) T_ok Try.func71 Try.call71 rfl rfl (by kernel_rfl) rfl rfl ?_
  repeat (first
    | (show _ ∧ _; exact ⟨rfl, rfl, rfl⟩)
    | refine wkG ?_
    | (show OpOk _ _ _ _ _ _ _; first | refine opB (fun b => ?_) | refine opA (fun a' c' hc1 hc2 => ?_))
    | (show GJ _ _ _ _ _ _ _; first | (apply GJ.and; exact rfl; intro hg) | (apply GJ.or; exact rfl; intro hg) | refine GJ.t omAuto ?_ | refine GJ.f omAuto ?_ | refine GJ.ft omAuto ?_ | refine GJ.ff omAuto ?_))
  refine index_ok (by intro h; cases h) ?_
  repeat (first
    | (show _ ∧ _; exact ⟨rfl, rfl, rfl⟩)
    | refine wkG ?_
    | (show OpOk _ _ _ _ _ _ _; first | refine opB (fun b => ?_) | refine opA (fun a' c' hc1 hc2 => ?_))
    | (show GJ _ _ _ _ _ _ _; first | (apply GJ.and; exact rfl; intro hg) | (apply GJ.or; exact rfl; intro hg) | refine GJ.t omAuto ?_ | refine GJ.f omAuto ?_ | refine GJ.ft omAuto ?_ | refine GJ.ff omAuto ?_))
  exact Wk.outS Sup.auto (.refl _) hk
end
end Go.Proofs.Ytkpdnpcmeadggaa
