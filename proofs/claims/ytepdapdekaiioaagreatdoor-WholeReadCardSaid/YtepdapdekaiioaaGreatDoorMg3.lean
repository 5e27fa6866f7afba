/- Texts of a walk, one behind the other. -/
import Derived.Test.YtepdapdekaiioaaGreatDoorProg
import Derived.KernelRfl
import Derived.Lib.MakeNoZero
import Derived.Laws.CopyOwn
import Derived.RangeFuncRecord
import Derived.Below
import Derived.Lib.LaidTab
import Derived.Stop.LaidErr
import Derived.Test.YtepdapdekaiioaaGreatDoorMg2
section
/- The table of types. Written by a program of mine (gent.py) out of the loaded program. -/
namespace Go.Proofs.YtepdapdekaiioaaGreatDoor
open Go Go.E
def T : TT := [
  (2, ⟨ .int .i64, 1, [.int .i64 0]⟩),
  (3, ⟨ .int .i64, 1, [.int .i64 0]⟩),
  (4, ⟨ .bool, 1, [.bool false]⟩),
  (5, ⟨ .int .u8, 1, [.int .u8 0]⟩),
  (9, ⟨ .str, 1, [str []]⟩),
  (12, ⟨ .int .u64, 1, [.int .u64 0]⟩),
  (13, ⟨ .struct [(9, 0, 1), (12, 1, 1)], 2, [str [], .int .u64 0]⟩),
  (15, ⟨ .ptr 173, 1, [.pointer none]⟩),
  (16, ⟨ .ptr 176, 1, [.pointer none]⟩),
  (19, ⟨ .struct [(17, 0, 1)], 1, [.pointer none]⟩),
  (21, ⟨ .int .i32, 1, [.int .i32 0]⟩),
  (23, ⟨ .slice 56, 1, [.slice none 0 0]⟩),
  (24, ⟨ .slice 36, 1, [.slice none 0 0]⟩),
  (25, ⟨ .struct [(23, 0, 1), (24, 1, 1)], 2, [.slice none 0 0, .slice none 0 0]⟩),
  (26, ⟨ .struct [(23, 0, 1), (24, 1, 1)], 2, [.slice none 0 0, .slice none 0 0]⟩),
  (27, ⟨ .int .i64, 1, [.int .i64 0]⟩),
  (28, ⟨ .struct [(27, 0, 1), (3, 1, 1)], 2, [.int .i64 0, .int .i64 0]⟩),
  (29, ⟨ .struct [(27, 0, 1), (3, 1, 1)], 2, [.int .i64 0, .int .i64 0]⟩),
  (32, ⟨ .slice 40, 1, [.slice none 0 0]⟩),
  (35, ⟨ .struct [(9, 0, 1), (3, 1, 1)], 2, [str [], .int .i64 0]⟩),
  (36, ⟨ .struct [(9, 0, 1), (3, 1, 1)], 2, [str [], .int .i64 0]⟩),
  (39, ⟨ .struct [(3, 0, 1), (3, 1, 1), (9, 2, 1)], 3, [.int .i64 0, .int .i64 0, str []]⟩),
  (40, ⟨ .struct [(3, 0, 1), (3, 1, 1), (9, 2, 1)], 3, [.int .i64 0, .int .i64 0, str []]⟩),
  (44, ⟨ .struct [(26, 0, 2)], 2, [.slice none 0 0, .slice none 0 0]⟩),
  (45, ⟨ .struct [(26, 0, 2)], 2, [.slice none 0 0, .slice none 0 0]⟩),
  (48, ⟨ .int .u64, 1, [.int .u64 0]⟩),
  (49, ⟨ .struct [(9, 0, 1), (48, 1, 1), (48, 2, 1)], 3, [str [], .int .u64 0, .int .u64 0]⟩),
  (50, ⟨ .struct [(9, 0, 1), (48, 1, 1), (48, 2, 1)], 3, [str [], .int .u64 0, .int .u64 0]⟩),
  (51, ⟨ .slice 3, 1, [.slice none 0 0]⟩),
  (52, ⟨ .slice 4, 1, [.slice none 0 0]⟩),
  (53, ⟨ .slice 66, 1, [.slice none 0 0]⟩),
  (54, ⟨ .slice 97, 1, [.slice none 0 0]⟩),
  (55, ⟨ .struct [(3, 0, 1), (3, 1, 1), (4, 2, 1), (4, 3, 1), (4, 4, 1), (48, 5, 1), (48, 6, 1), (9, 7, 1), (50, 8, 3), (51, 11, 1), (52, 12, 1), (53, 13, 1), (9, 14, 1), (48, 15, 1), (54, 16, 1), (3, 17, 1)], 18, [.int .i64 0, .int .i64 0, .bool false, .bool false, .bool false, .int .u64 0, .int .u64 0, str [], str [], .int .u64 0, .int .u64 0, .slice none 0 0, .slice none 0 0, .slice none 0 0, str [], .int .u64 0, .slice none 0 0, .int .i64 0]⟩),
  (56, ⟨ .struct [(3, 0, 1), (3, 1, 1), (4, 2, 1), (4, 3, 1), (4, 4, 1), (48, 5, 1), (48, 6, 1), (9, 7, 1), (50, 8, 3), (51, 11, 1), (52, 12, 1), (53, 13, 1), (9, 14, 1), (48, 15, 1), (54, 16, 1), (3, 17, 1)], 18, [.int .i64 0, .int .i64 0, .bool false, .bool false, .bool false, .int .u64 0, .int .u64 0, str [], str [], .int .u64 0, .int .u64 0, .slice none 0 0, .slice none 0 0, .slice none 0 0, str [], .int .u64 0, .slice none 0 0, .int .i64 0]⟩),
  (65, ⟨ .struct [(9, 0, 1), (3, 1, 1), (3, 2, 1), (9, 3, 1), (9, 4, 1)], 5, [str [], .int .i64 0, .int .i64 0, str [], str []]⟩),
  (66, ⟨ .struct [(9, 0, 1), (3, 1, 1), (3, 2, 1), (9, 3, 1), (9, 4, 1)], 5, [str [], .int .i64 0, .int .i64 0, str [], str []]⟩),
  (67, ⟨ .ptr 69, 1, [.pointer none]⟩),
  (68, ⟨ .struct [(32, 0, 1), (3, 1, 1), (45, 2, 2), (29, 4, 2)], 6, [.slice none 0 0, .int .i64 0, .slice none 0 0, .slice none 0 0, .int .i64 0, .int .i64 0]⟩),
  (69, ⟨ .struct [(32, 0, 1), (3, 1, 1), (45, 2, 2), (29, 4, 2)], 6, [.slice none 0 0, .int .i64 0, .slice none 0 0, .slice none 0 0, .int .i64 0, .int .i64 0]⟩),
  (71, ⟨ .ptr 73, 1, [.pointer none]⟩),
  (72, ⟨ .struct [(9, 0, 1), (3, 1, 1), (32, 2, 1)], 3, [str [], .int .i64 0, .slice none 0 0]⟩),
  (73, ⟨ .struct [(9, 0, 1), (3, 1, 1), (32, 2, 1)], 3, [str [], .int .i64 0, .slice none 0 0]⟩),
  (80, ⟨ .slice 9, 1, [.slice none 0 0]⟩),
  (83, ⟨ .ptr 45, 1, [.pointer none]⟩),
  (96, ⟨ .struct [(48, 0, 1), (3, 1, 1)], 2, [.int .u64 0, .int .i64 0]⟩),
  (97, ⟨ .struct [(48, 0, 1), (3, 1, 1)], 2, [.int .u64 0, .int .i64 0]⟩),
  (100, ⟨ .ptr 103, 1, [.pointer none]⟩),
  (101, ⟨ .slice 5, 1, [.slice none 0 0]⟩),
  (102, ⟨ .struct [(100, 0, 1), (101, 1, 1)], 2, [.pointer none, .slice none 0 0]⟩),
  (103, ⟨ .struct [(100, 0, 1), (101, 1, 1)], 2, [.pointer none, .slice none 0 0]⟩),
  (115, ⟨ .arr 256 5, 256, List.replicate 256 (.int .u8 0)⟩),
  (120, ⟨ .ptr 5, 1, [.pointer none]⟩),
  (126, ⟨ .slice 128, 1, [.slice none 0 0]⟩),
  (127, ⟨ .struct [(3, 0, 1), (3, 1, 1)], 2, [.int .i64 0, .int .i64 0]⟩),
  (128, ⟨ .struct [(3, 0, 1), (3, 1, 1)], 2, [.int .i64 0, .int .i64 0]⟩),
  (129, ⟨ .int .u32, 1, [.int .u32 0]⟩),
  (131, ⟨ .ptr 148, 1, [.pointer none]⟩),
  (133, ⟨ .int .u64, 1, [.int .u64 0]⟩),
  (138, ⟨ .arr 24 5, 24, [.int .u8 0, .int .u8 0, .int .u8 0, .int .u8 0, .int .u8 0, .int .u8 0, .int .u8 0, .int .u8 0, .int .u8 0, .int .u8 0, .int .u8 0, .int .u8 0, .int .u8 0, .int .u8 0, .int .u8 0, .int .u8 0, .int .u8 0, .int .u8 0, .int .u8 0, .int .u8 0, .int .u8 0, .int .u8 0, .int .u8 0, .int .u8 0]⟩),
  (145, ⟨ .slice 151, 1, [.slice none 0 0]⟩),
  (146, ⟨ .slice 154, 1, [.slice none 0 0]⟩),
  (147, ⟨ .struct [(145, 0, 1), (146, 1, 1), (3, 2, 1)], 3, [.slice none 0 0, .slice none 0 0, .int .i64 0]⟩),
  (148, ⟨ .struct [(145, 0, 1), (146, 1, 1), (3, 2, 1)], 3, [.slice none 0 0, .slice none 0 0, .int .i64 0]⟩),
  (149, ⟨ .int .u16, 1, [.int .u16 0]⟩),
  (150, ⟨ .struct [(149, 0, 1), (149, 1, 1), (149, 2, 1)], 3, [.int .u16 0, .int .u16 0, .int .u16 0]⟩),
  (151, ⟨ .struct [(149, 0, 1), (149, 1, 1), (149, 2, 1)], 3, [.int .u16 0, .int .u16 0, .int .u16 0]⟩),
  (153, ⟨ .struct [(129, 0, 1), (129, 1, 1), (129, 2, 1)], 3, [.int .u32 0, .int .u32 0, .int .u32 0]⟩),
  (154, ⟨ .struct [(129, 0, 1), (129, 1, 1), (129, 2, 1)], 3, [.int .u32 0, .int .u32 0, .int .u32 0]⟩),
  (159, ⟨ .arr 20 48, 20, [.int .u64 0, .int .u64 0, .int .u64 0, .int .u64 0, .int .u64 0, .int .u64 0, .int .u64 0, .int .u64 0, .int .u64 0, .int .u64 0, .int .u64 0, .int .u64 0, .int .u64 0, .int .u64 0, .int .u64 0, .int .u64 0, .int .u64 0, .int .u64 0, .int .u64 0, .int .u64 0]⟩),
  (160, ⟨ .arr 65 5, 65, List.replicate 65 (.int .u8 0)⟩),
  (163, ⟨ .ptr 151, 1, [.pointer none]⟩),
  (164, ⟨ .ptr 154, 1, [.pointer none]⟩),
  (167, ⟨ .arr 32 5, 32, [.int .u8 0, .int .u8 0, .int .u8 0, .int .u8 0, .int .u8 0, .int .u8 0, .int .u8 0, .int .u8 0, .int .u8 0, .int .u8 0, .int .u8 0, .int .u8 0, .int .u8 0, .int .u8 0, .int .u8 0, .int .u8 0, .int .u8 0, .int .u8 0, .int .u8 0, .int .u8 0, .int .u8 0, .int .u8 0, .int .u8 0, .int .u8 0, .int .u8 0, .int .u8 0, .int .u8 0, .int .u8 0, .int .u8 0, .int .u8 0, .int .u8 0, .int .u8 0]⟩),
  (168, ⟨ .arr 64 5, 64, List.replicate 64 (.int .u8 0)⟩),
  (174, ⟨ .arr 0 16, 0, []⟩),
  (175, ⟨ .struct [(174, 0, 0)], 0, []⟩)]
set_option maxRecDepth 100000 in
theorem T_ok : TOk Tryz.prog T := by
  repeat (first | exact trivial | refine ⟨by kernel_rfl, ?_⟩)
instance T_tab : TTab Tryz.prog T := ⟨T_ok⟩
end Go.Proofs.YtepdapdekaiioaaGreatDoor
end
section
/- Contracts of strings.Builder. -/
namespace Go.Proofs.YtepdapdekaiioaaGreatDoor
open Go Go.E
set_option linter.unusedVariables false
set_option maxRecDepth 10000
section
variable {ro : Ro} {own r : Chs} {K : Value → Ro → Chs → Prop} {g : Chunk → Chs}
theorem copy_ok {b : Nat} {q : Option Addr} {v : Value} (hq : q = none ∨ q = some ⟨b, 0, none⟩) (hk : K (.tuple #[]) ro (.blk b 103 [ptr' b, v] :: r)) : CallOk Tryz.prog 76 #[ptr' b] ro (.blk b 103 [.pointer q, v] :: r) K := by
  rcases hq with rfl | rfl
  · refine CallOk.intro (args := [_]) (rs := []) T_ok Tryz.func76 Tryz.call76 rfl rfl (by kernel_rfl) rfl rfl ?_
    repeat (first | exact endA | refine wkG ?_ | refine opB (fun b => ?_) | refine opA (fun a' c' hc1 hc2 => ?_) | (show GJ _ _ _ _ _ _ _; first | (apply GJ.and; exact rfl; intro hg) | (apply GJ.or; exact rfl; intro hg) | refine GJ.t omAuto ?_ | refine GJ.f omAuto ?_ | refine GJ.ft omAuto ?_ | refine GJ.ff omAuto ?_))
    refine OpOk.eqlPtrNil rfl rfl (by kernel_rfl) ?_
    repeat (first | exact endA | refine wkG ?_ | refine opB (fun b => ?_) | refine opA (fun a' c' hc1 hc2 => ?_) | (show GJ _ _ _ _ _ _ _; first | (apply GJ.and; exact rfl; intro hg) | (apply GJ.or; exact rfl; intro hg) | refine GJ.t omAuto ?_ | refine GJ.f omAuto ?_ | refine GJ.ft omAuto ?_ | refine GJ.ff omAuto ?_))
    refine OpOk.unsafe (e := 103) (v := .pointer none) rfl rfl (by kernel_rfl) (by kernel_rfl) (Ld.hasBlk rfl) ?_
    repeat (first | exact endA | refine wkG ?_ | refine opB (fun b => ?_) | refine opA (fun a' c' hc1 hc2 => ?_) | (show GJ _ _ _ _ _ _ _; first | (apply GJ.and; exact rfl; intro hg) | (apply GJ.or; exact rfl; intro hg) | refine GJ.t omAuto ?_ | refine GJ.f omAuto ?_ | refine GJ.ft omAuto ?_ | refine GJ.ff omAuto ?_))
    refine CallOk.ext Tryz.func100 (by kernel_rfl) (by kernel_rfl) (by kernel_rfl) (e := Extern.AbiNoEscape.same) (by kernel_rfl) (fun w => rfl) ?_
    repeat (first | exact endA | refine wkG ?_ | refine opB (fun b => ?_) | refine opA (fun a' c' hc1 hc2 => ?_) | (show GJ _ _ _ _ _ _ _; first | (apply GJ.and; exact rfl; intro hg) | (apply GJ.or; exact rfl; intro hg) | refine GJ.t omAuto ?_ | refine GJ.f omAuto ?_ | refine GJ.ft omAuto ?_ | refine GJ.ff omAuto ?_))
    refine OpOk.fromUnsafe (u := 103) rfl (by kernel_rfl) (by kernel_rfl) (by kernel_rfl) (by kernel_rfl) ?_
    repeat (first | exact endA | refine wkG ?_ | refine opB (fun b => ?_) | refine opA (fun a' c' hc1 hc2 => ?_) | (show GJ _ _ _ _ _ _ _; first | (apply GJ.and; exact rfl; intro hg) | (apply GJ.or; exact rfl; intro hg) | refine GJ.t omAuto ?_ | refine GJ.f omAuto ?_ | refine GJ.ft omAuto ?_ | refine GJ.ff omAuto ?_))
    exact Wk.outS Sup.auto (.refl _) hk
  · refine CallOk.intro (args := [_]) (rs := []) T_ok Tryz.func76 Tryz.call76 rfl rfl (by kernel_rfl) rfl rfl ?_
    repeat (first | exact endA | refine wkG ?_ | refine opB (fun b => ?_) | refine opA (fun a' c' hc1 hc2 => ?_) | (show GJ _ _ _ _ _ _ _; first | (apply GJ.and; exact rfl; intro hg) | (apply GJ.or; exact rfl; intro hg) | refine GJ.t omAuto ?_ | refine GJ.f omAuto ?_ | refine GJ.ft omAuto ?_ | refine GJ.ff omAuto ?_))
    refine OpOk.neqPtrSame (te := 103) rfl rfl (by kernel_rfl) (by kernel_rfl) ?_
    repeat (first | exact endA | refine wkG ?_ | refine opB (fun b => ?_) | refine opA (fun a' c' hc1 hc2 => ?_) | (show GJ _ _ _ _ _ _ _; first | (apply GJ.and; exact rfl; intro hg) | (apply GJ.or; exact rfl; intro hg) | refine GJ.t omAuto ?_ | refine GJ.f omAuto ?_ | refine GJ.ft omAuto ?_ | refine GJ.ff omAuto ?_))
    exact Wk.outS Sup.auto (.refl _) hk
/-- A builder with its bytes. -/
def BQ (b : Nat) (q : Option Addr) : Prop := q = none ∨ q = some ⟨b, 0, none⟩
theorem wstr_ok {b n c : Nat} {q a : Option Addr} {l m : List UInt8} (hq : BQ b q) (hn : n = l.length) (hl : l.length ≤ 100000 ∧ m.length ≤ 100000) (hk : ∀ a' c', n + m.length ≤ c' → c' ≤ maxLen → K (.tuple #[.int .i64 ((m.length : Nat) : Int), .nilIface]) ro (.blk b 103 [ptr' b, .slice a' (n + m.length) c'] :: .sl a' (n + m.length) c' 5 1 ((l ++ m).map u8) :: r)) :
    CallOk Tryz.prog 54 #[ptr' b, str m] ro (.blk b 103 [.pointer q, .slice a n c] :: .sl a n c 5 1 (l.map u8) :: r) K := by
  rw [List.map_append] at hk
  refine CallOk.intro (args := [_, _]) (rs := [_, _]) T_ok Tryz.func54 Tryz.call54 rfl rfl (by kernel_rfl) rfl rfl ?_
  repeat (first | exact endA | refine wkG ?_ | refine opB (fun b => ?_) | refine opA (fun a' c' hc1 hc2 => ?_) | (show GJ _ _ _ _ _ _ _; first | (apply GJ.and; exact rfl; intro hg) | (apply GJ.or; exact rfl; intro hg) | refine GJ.t omAuto ?_ | refine GJ.f omAuto ?_ | refine GJ.ft omAuto ?_ | refine GJ.ff omAuto ?_))
  refine copy_ok hq ?_
  repeat (first | exact endA | refine wkG ?_ | refine opB (fun b => ?_) | refine opA (fun a' c' hc1 hc2 => ?_) | (show GJ _ _ _ _ _ _ _; first | (apply GJ.and; exact rfl; intro hg) | (apply GJ.or; exact rfl; intro hg) | refine GJ.t omAuto ?_ | refine GJ.f omAuto ?_ | refine GJ.ft omAuto ?_ | refine GJ.ff omAuto ?_))
  refine OpOk.appendS rfl rfl (by kernel_rfl) (by kernel_rfl) (by kernel_rfl) (by omega) (fun a' c' hc1 hc2 => ?_)
  repeat (first | exact endA | refine wkG ?_ | refine opB (fun b => ?_) | refine opA (fun a' c' hc1 hc2 => ?_) | (show GJ _ _ _ _ _ _ _; first | (apply GJ.and; exact rfl; intro hg) | (apply GJ.or; exact rfl; intro hg) | refine GJ.t omAuto ?_ | refine GJ.f omAuto ?_ | refine GJ.ft omAuto ?_ | refine GJ.ff omAuto ?_))
  exact Wk.outS Sup.auto (.refl _) (hk a' c' hc1 hc2)
theorem bstr_ok {b n c : Nat} {q a : Option Addr} {l : List UInt8} (hn : n = l.length) (h0 : l ≠ []) (hnc : n ≤ c) (hl : l.length ≤ 100000) (hk : K (str l) ro (.blk b 103 [.pointer q, .slice a n c] :: r)) :
    CallOk Tryz.prog 55 #[ptr' b] ro (.blk b 103 [.pointer q, .slice a n c] :: .sl a n c 5 1 (l.map u8) :: r) K := by
  refine CallOk.intro (args := [_]) (rs := [_]) T_ok Tryz.func55 Tryz.call55 rfl rfl (by kernel_rfl) rfl rfl ?_
  repeat (first | exact endA | refine wkG ?_ | refine opB (fun b => ?_) | refine opA (fun a' c' hc1 hc2 => ?_) | (show GJ _ _ _ _ _ _ _; first | (apply GJ.and; exact rfl; intro hg) | (apply GJ.or; exact rfl; intro hg) | refine GJ.t omAuto ?_ | refine GJ.f omAuto ?_ | refine GJ.ft omAuto ?_ | refine GJ.ff omAuto ?_))
  refine Bs.all ?_
  repeat (first | exact endA | refine wkG ?_ | refine opB (fun b => ?_) | refine opA (fun a' c' hc1 hc2 => ?_) | (show GJ _ _ _ _ _ _ _; first | (apply GJ.and; exact rfl; intro hg) | (apply GJ.or; exact rfl; intro hg) | refine GJ.t omAuto ?_ | refine GJ.f omAuto ?_ | refine GJ.ft omAuto ?_ | refine GJ.ff omAuto ?_))
  have hl0 : l.length ≠ 0 := by simpa using h0
  refine OpOk.know (∃ b', a = some ⟨b', 0, none⟩) (fun h hs => Sat.slSome Take.auto hs (by omega)) (fun ⟨b', e⟩ => ?_)
  subst e
  refine OpOk.sliceData rfl (by omega) ?_
  repeat (first | exact endA | refine wkG ?_ | refine opB (fun b => ?_) | refine opA (fun a' c' hc1 hc2 => ?_) | (show GJ _ _ _ _ _ _ _; first | (apply GJ.and; exact rfl; intro hg) | (apply GJ.or; exact rfl; intro hg) | refine GJ.t omAuto ?_ | refine GJ.f omAuto ?_ | refine GJ.ft omAuto ?_ | refine GJ.ff omAuto ?_))
  subst hn
  refine OpOk.unsafeString (l := l) rfl rfl (by kernel_rfl) (by kernel_rfl) Take.auto h0 (by omega) ?_
  repeat (first | exact endA | refine wkG ?_ | refine opB (fun b => ?_) | refine opA (fun a' c' hc1 hc2 => ?_) | (show GJ _ _ _ _ _ _ _; first | (apply GJ.and; exact rfl; intro hg) | (apply GJ.or; exact rfl; intro hg) | refine GJ.t omAuto ?_ | refine GJ.f omAuto ?_ | refine GJ.ft omAuto ?_ | refine GJ.ff omAuto ?_))
  exact Wk.outS Sup.auto (.refl _) hk
end
end Go.Proofs.YtepdapdekaiioaaGreatDoor
end
section
/- Merged of: V16 V17 V18 V19 V20 V25 V26 V27 V28. Slices cut, read whatever they are. No program in sight. -/
/-! Slices cut, read whatever they are. No program in sight. -/
namespace Go.E
open Go
set_option linter.unusedVariables false
theorem Rds.cutI {ro : Ro} {own : Chs} {a : Option Addr} {n c s : Nat} {cs : List Value} (hr : Rds ro own a n c s cs) {lo hi : Int} (h : 0 ≤ lo ∧ lo ≤ hi ∧ hi ≤ n) : Rds ro own (cutA a lo.toNat c s) (hi.toNat - lo.toNat) (c - lo.toNat) s ((cs.drop (lo.toNat * s)).take ((hi.toNat - lo.toNat) * s)) := by
  have hl := hr.len
  have h2 : hi.toNat * s ≤ n * s := Nat.mul_le_mul_right s (by omega)
  have h3 : (hi.toNat - lo.toNat) * s = hi.toNat * s - lo.toNat * s := Nat.sub_mul _ _ s
  refine ⟨fun h' hs => ?_, by rw [List.length_take, List.length_drop]; omega, by have := hr.le; omega, by have := hr.max; omega⟩
  have := (hr.run h' hs).cut (s := s) (l := lo.toNat) (m := hi.toNat) (by omega) (by omega)
  rw [sliced_eq] at this
  exact this
theorem LdN.atR {ro ro' : Ro} {own own' : Chs} {a : Option Addr} {n c s k z o : Nat} {cs vs : List Value} (hr : Rds ro own a n c s cs) (hd : (cs.drop k).take z = vs) (ho : o = ao a + k) [hl : Leq ro ro'] [hp : Suf own' own] : LdN ro' own' (ab a) o vs := by
  subst ho; subst hd; exact LdN.rds hr
end Go.E
/-! Regions that draw their order, where operations that change something may come up in any order: each has its own place in memory; what it does is told by itself. No program in sight. -/
namespace Go.E
open Go
set_option linter.unusedVariables false
section
variable {P : Program} {T : TT} {Q : Exit → Act → World → Prop} {n : Nat} {σ : World}
end
end Go.E
/-! .. and that it is right. No program in sight. -/
namespace Go.E
open Go
set_option linter.unusedVariables false
section
variable {P : Program} {T : TT} {Q : Exit → Act → World → Prop} {n : Fr} {σ : World}
end
end Go.E
/-! Room that nobody has cleared (a Builder grows); copying nothing. No program in sight. -/
namespace Go.E
open Go
set_option linter.unusedVariables false
set_option linter.unusedSimpArgs false
section
variable {P : Program} {f : FuncId} {fn : Func} {ro : Ro} {own : Chs} {K : Value → Ro → Chs → Prop}
theorem CallOk.makeNoZero {n : Nat} {t e : TypeId} {ps : Array TypeId} (hf : P.funcs[f]? = some fn) (hname : (fn.name == "runtime.NumGoroutine") = false) (hb : fn.body.isNone = true) (hn : Extern.findNext fn = none) (he : Extern.find fn = some (Extern.BytealgMakeNoZero.makeNoZero ps #[t]))
    (ht : P.underlying t = some (.slice e)) (hle : n ≤ 134217728) (hk : ∀ b c, n ≤ c → c ≤ maxLen → K (.slice (some ⟨b, 0, none⟩) n c) ro (.sl (some ⟨b, 0, none⟩) 0 c e 1 [] :: own)) : CallOk P f #[.int .i64 (n : Int)] ro own K :=
  ⟨fun w hs => by
    obtain ⟨cs, hrun, h1, h2⟩ := Lib.run_makeNoZero (P := P) w ps t e ht n (by omega)
    have hm := h2 (by unfold maxLen; omega)
    refine .inr ⟨_, w.drew.drew.alloc (.cells cs e), by rw [run_callFunc_extern hf hname hb hn he, hrun]; rfl, ⟨rfl, rfl, rfl, rfl⟩, ro, _, Le.refl _, ?_, hk w.heap.size cs.size h1 hm⟩
    have hnew : (w.drew.drew.alloc (.cells cs e)).heap[w.heap.size]? = some (.cells cs e (0, 0)) := by
      exact World.alloc_heap_new w.drew.drew (.cells cs e)
    refine hs.new (fun b hb => ?_) ⟨rfl, Nat.zero_le _, hm, .inr ⟨w.heap.size, cs.toList, rfl, ?_, by simp⟩⟩ (by simp [Chunk.fp]) (by simp [Chunk.fp])
    · have hb' : b ≠ w.heap.size := by omega
      exact Go.RowKit.Below.heap_alloc w.drew.drew (.cells cs e) b hb
    · show (w.drew.drew.alloc (.cells cs e)).heap[w.heap.size]? = some (.cells ([] ++ cs.toList).toArray e (0, 0))
      rw [hnew]; simp⟩
end
section
variable {P : Program} {T : TT} [hT : TTab P T] {ty : TypeId} {env : Env} {ro : Ro} {own : Chs} {K : Value → Ro → Chs → Prop}
theorem OpOk.copy0 {x y : Operand} {t t2 e : TypeId} {s z1 : Nat} {z2 : List Value} {dp sp : Option Addr} {dLen dCap sLen sCap : Nat} (hx : ev env x = some (.slice dp dLen dCap)) (hy : ev env y = some (.slice sp sLen sCap)) (hu : P.underlying t = some (.slice e)) (hsz : (P.info? e).map (·.size) = some 1) (hn : Nat.min sLen dLen = 0)
    (hk : K (.int .i64 0) ro own) : OpOk P (.call ⟨.builtin .copy, #[x, y], #[t, t2]⟩) ty env ro own K :=
  OpOk.pu (fun h hs d pos af g => .mk fun ρ w hρ hw => by
    have hr := run_copy_none (P := P) w t t2 ty e dp sp dLen dCap sLen sCap hu hsz hn
    simp only [execOp, resolve, invoke, builtin, Sem.run_bind, Sem.run_pure, Result.andThen_ok]
    simp [hρ _ _ hx, hρ _ _ hy, hr, Result.andThen]
    rfl) hk
theorem cutA_zero (a : Option Addr) (c s : Nat) : cutA a 0 c s = a := by
  unfold cutA
  split
  · rfl
  · cases a with
    | none => rfl
    | some a => simp [Addr.add]
end
end Go.E
/-! A contract of the shelf as one of this engine: it leaves what was there as it was. No program in sight. -/
namespace Go.E
open Go
set_option linter.unusedVariables false
section
variable {P : Program} {f : FuncId} {ro : Ro} {own : Chs} {K : Value → Ro → Chs → Prop}
theorem CallOk.ofBelow {args : Array Value} {v : Value} (enter : ∀ args w, (callFunc f args).run P w = .ok (.enter f args) w) (h : ∀ w, Calls P f args w fun e w' => e = .returned v ∧ Go.RowKit.Below w.heap.size w w') (hk : K v ro own) : CallOk P f args ro own K :=
  CallOk.body enter fun h0 hs w hw => (h w).mono fun e w' ⟨he, hb⟩ => ⟨v, he, ⟨rfl, hb.os, hb.tape, hb.output⟩, ro, own, Le.refl _, hs.keep (fun b hb' => by subst hw; exact hb.block b hb'), hk⟩
end
end Go.E
/-! Slices of structs that are made; what lies in them is left open. No program in sight. -/
namespace Go.E
open Go
set_option linter.unusedVariables false
section
variable {P : Program} {T : TT} [hT : TTab P T] {ty : TypeId} {env : Env} {ro : Ro} {own : Chs} {K : Value → Ro → Chs → Prop}
end
end Go.E
/-! A slice of one's own is told shorter. No program in sight. -/
namespace Go.E
open Go
set_option linter.unusedVariables false
section
variable {P : Program} {T : TT} {ty : TypeId} {env : Env} {ro : Ro} {own : Chs} {K : Value → Ro → Chs → Prop}
theorem QOk.eqlStruct [hT : TTab P T] {K : Value → Prop} {t yt : TypeId} {x y : Operand} {xs ys : List Value} {fs : List (TypeId × Nat × Nat)} {z1 : Nat} {z2 : List Value} {q : Bool} (hx : ev env x = some (.agg xs.toArray)) (hy : ev env y = some (.agg ys.toArray)) (ht : T.get t = some ⟨.struct fs, z1, z2⟩) (hq : eqFs T xs ys fs = some q)
    (h1 : P.stoodInHeld t = false) (h2 : P.eqGuardType P.depth t = false) (h3 : ((P.fieldsOf t).toList.all fun f => f.name != "_") = true) (hk : K (.bool q)) : QOk P (.binOp .eql t x y yt) ty env ro own K := by
  obtain ⟨l, e1, e2, _⟩ := hT.ok.struct ht
  have e3 : P.fieldsOf t = l.toArray := by simp [Program.fieldsOf, e1]
  rw [e3] at h3
  subst e2
  refine QOk.pu (fun h hs d pos af g => .mk fun ρ w hρ _ => ?_) hk
  have h4 := eqFs_spec (P := P) (T := T) (xs := xs) (ys := ys) 9998 w l q (fun f hf => by have := List.all_eq_true.1 h3 f (by simpa using hf); simpa using this) hq
  simp only [execOp, hρ _ _ hx, hρ _ _ hy, Sem.run_bind, run_eqGuard_agg w .eql t x y _ _ h2, Result.andThen_ok, run_eql_struct, run_equalIn_agg w 9999 t _ _ (by rw [e3]; exact e1) h1, e3, h4, Sem.run_pure]
end
end Go.E
/-! A struct within a struct is stored. No program in sight. -/
namespace Go.E
open Go
set_option linter.unusedVariables false
section
variable {P : Program} {T : TT} [hT : TTab P T] {ty : TypeId} {env : Env} {ro : Ro} {own : Chs} {K : Value → Ro → Chs → Prop}
theorem OpOk.storePart {t : TypeId} {x y : Operand} {b o : Nat} {vs : List Value} {t0 : TypeId} {cs cs' : List Value} {f : Chunk → Chs} {z : Nat} (hx : ev env x = some (.pointer (some ⟨b, o, none⟩))) (hy : ev env y = some (.agg vs.toArray)) (ht : rowT T t = some z) (hz : vs.length = z) (h1 : vs.all (fun u => u.oneCell') = true)
    [hb : HasBlk own b t0 cs f] (hc : o + z ≤ cs.length) (he : Nf (splice cs o vs) cs') (hk : K undef ro (f (.blk b t0 cs'))) : OpOk P (.store t x y) ty env ro own K :=
  ⟨fun h hsat d pos af g => by
    have he := he.eq
    subst he
    obtain ⟨r, p1, p2⟩ := (hb.repl (.blk b t0 (splice cs o vs))).perm
    have hsat := hsat.perm p1
    refine (Eff.storeN0 hx hy ((rsz ht).trans (by simp [Value.cells, hz])) (by simpa [Value.cells] using List.all_eq_true.1 h1) hsat.cons.1 (by simp [Value.cells]; omega)).mono ?_
    rintro _ h' ⟨rfl, g1, g2, g3⟩
    have g2' : Row h' b t0 (splice cs o vs) := by simpa [Value.cells] using g2
    exact ⟨ro, _, Le.refl _, (hsat.put (c' := .blk b t0 (splice cs o vs)) (fun k _ hk => g3 k (by simpa [Chunk.fp] using hk)) g2' (fun k hk => .inl hk) (by simp [Chunk.fp])).perm p2.symm, hk⟩⟩
end
end Go.E
/-! An array behind a pointer is cut. No program in sight. -/
namespace Go.E
open Go
set_option linter.unusedVariables false
section
variable {P : Program} {T : TT} [hT : TTab P T] {ty : TypeId} {env : Env} {ro : Ro} {own : Chs} {K : Value → Ro → Chs → Prop}
end
end Go.E
end
section
/- Letters, digits; contracts of lex: letter, digit, while. -/
namespace Go.E
open Go
set_option linter.unusedVariables false
section
variable {P : Program} {T : TT} [hT : TTab P T]
theorem CodeOk.scope {a : Code} {k : Exit → Kt} {env : Env} {ro : Ro} {own : Chs} (hv : V P T a (fun e => match e with
    | .goto _ => fun _ _ _ => False
    | e => k e) env ro own) : CodeOk P (.scope a) k env ro own :=
  ⟨fun n σ Q hok hk h hs a' w hf hw => wp_scope_straight ((V_sound hT.ok hv).run n σ (Exit.noGoto Q) (by simpa [okS] using hok) (fun e env' ro' own' D h' hl hk' hs' hm => by
    cases e <;> first | exact hk'.elim | exact fun a2 w2 hf2 hw2 => hk _ env' ro' own' D h' hl hk' hs' hm a2 w2 hf2 hw2) h hs a' w hf hw)⟩
end
end Go.E
namespace Go.Proofs.YtepdapdekaiioaaGreatDoor
open Go Go.E
set_option linter.unusedVariables false
set_option linter.unusedSimpArgs false
set_option maxRecDepth 10000
def letB (u : UInt8) : Bool := (decide (97 ≤ u.toNat) && decide (u.toNat ≤ 122)) || (decide (65 ≤ u.toNat) && decide (u.toNat ≤ 90)) || decide (u.toNat = 95)
def digB (u : UInt8) : Bool := decide (48 ≤ u.toNat) && decide (u.toNat ≤ 57)
def nlB (u : UInt8) : Bool := decide (u.toNat ≠ 10)
def wordB (u : UInt8) : Bool := letB u || digB u
def patB (u : UInt8) : Bool := decide (u.toNat ≠ 47) && (decide (32 ≤ u.toNat) && decide (u.toNat < 127))
/-- What a function of one byte answers. -/
def ByteFn (f : FuncId) (S : UInt8 → Bool) : Prop := ∀ (u : UInt8) (ro : Ro) (own : Chs) (K : Value → Ro → Chs → Prop), K (.bool (S u)) ro own → CallOk Tryz.prog f #[.int .u8 ((u.toNat : Nat) : Int)] ro own K
theorem letter_ok : ByteFn 42 letB := fun u ro own K hk => by
  have hu := u.toNat_lt
  have hl : letB u = ((decide (97 ≤ u.toNat) && decide (u.toNat ≤ 122)) || (decide (65 ≤ u.toNat) && decide (u.toNat ≤ 90)) || decide (u.toNat = 95)) := rfl
  generalize letB u = q at hl hk
  refine CallOk.intro (args := [_]) (rs := [_]) T_ok Tryz.func42 Tryz.call42 rfl rfl (by kernel_rfl) rfl rfl ?_
  by_cases h1 : 97 ≤ u.toNat <;> by_cases h2 : u.toNat ≤ 122 <;> by_cases h3 : 65 ≤ u.toNat <;> by_cases h4 : u.toNat ≤ 90
  all_goals
    try omega
  all_goals
    repeat (first | exact endA | refine wkT ?_ | refine opB (fun b => ?_) | refine opA (fun a' c' hc1 hc2 => ?_) | (apply GJ.and; exact rfl; intro hg) | (apply GJ.or; exact rfl; intro hg))
    refine Wk.outV Sup.auto hk (congrArg Value.bool ?_)
    rw [hl]
    simp [h1, h2, h3, h4]
    try omega
theorem digit_ok : ByteFn 44 digB := fun u ro own K hk => by
  have hu := u.toNat_lt
  have hl : digB u = (decide (48 ≤ u.toNat) && decide (u.toNat ≤ 57)) := rfl
  generalize digB u = q at hl hk
  refine CallOk.intro (args := [_]) (rs := [_]) T_ok Tryz.func44 Tryz.call44 rfl rfl (by kernel_rfl) rfl rfl ?_
  by_cases h1 : 48 ≤ u.toNat <;> by_cases h2 : u.toNat ≤ 57
  all_goals
    try omega
  all_goals
    repeat (first | exact endA | refine wkT ?_ | refine opB (fun b => ?_) | refine opA (fun a' c' hc1 hc2 => ?_) | (apply GJ.and; exact rfl; intro hg) | (apply GJ.or; exact rfl; intro hg))
    refine Wk.outV Sup.auto hk (congrArg Value.bool ?_)
    rw [hl]
    simp [h1, h2]
    try omega
theorem nl_ok : ByteFn 41 nlB := fun u ro own K hk => by
  have hu := u.toNat_lt
  refine CallOk.intro (args := [_]) (rs := [_]) T_ok Tryz.func41 Tryz.call41 rfl rfl (by kernel_rfl) rfl rfl ?_
  repeat (first | exact endA | refine wkT ?_ | refine opB (fun b => ?_) | refine opA (fun a' c' hc1 hc2 => ?_) | (apply GJ.and; exact rfl; intro hg) | (apply GJ.or; exact rfl; intro hg))
  refine Wk.outV Sup.auto hk (congrArg Value.bool ?_)
  unfold nlB
  rw [decide_eq_decide]
  omega
theorem word_ok : ByteFn 43 wordB := fun u ro own K hk => by
  have hu := u.toNat_lt
  have hw : wordB u = (letB u || digB u) := rfl
  generalize wordB u = q at hw hk
  refine CallOk.intro (args := [_]) (rs := [_]) T_ok Tryz.func43 Tryz.call43 rfl rfl (by kernel_rfl) rfl rfl ?_
  repeat (first | exact endA | refine wkT ?_ | refine opB (fun b => ?_) | refine opA (fun a' c' hc1 hc2 => ?_) | (apply GJ.and; exact rfl; intro hg) | (apply GJ.or; exact rfl; intro hg))
  refine letter_ok u _ _ _ ?_
  obtain ⟨x, hx⟩ : ∃ x, letB u = x := ⟨_, rfl⟩
  rw [hx] at hw ⊢
  cases x with
  | true =>
    repeat (first | exact endA | refine wkT ?_ | refine opB (fun b => ?_) | refine opA (fun a' c' hc1 hc2 => ?_) | (apply GJ.and; exact rfl; intro hg) | (apply GJ.or; exact rfl; intro hg))
    exact Wk.outV Sup.auto hk (by rw [hw]; rfl)
  | false =>
    repeat (first | exact endA | refine wkT ?_ | refine opB (fun b => ?_) | refine opA (fun a' c' hc1 hc2 => ?_) | (apply GJ.and; exact rfl; intro hg) | (apply GJ.or; exact rfl; intro hg))
    refine digit_ok u _ _ _ ?_
    repeat (first | exact endA | refine wkT ?_ | refine opB (fun b => ?_) | refine opA (fun a' c' hc1 hc2 => ?_) | (apply GJ.and; exact rfl; intro hg) | (apply GJ.or; exact rfl; intro hg))
    exact Wk.outV Sup.auto hk (by rw [hw]; rfl)
theorem pat_ok : ByteFn 68 patB := fun u ro own K hk => by
  have hu := u.toNat_lt
  have hl : patB u = (decide (u.toNat ≠ 47) && (decide (32 ≤ u.toNat) && decide (u.toNat < 127))) := rfl
  generalize patB u = q at hl hk
  refine CallOk.intro (args := [_]) (rs := [_]) T_ok Tryz.func68 Tryz.call68 rfl rfl (by kernel_rfl) rfl rfl ?_
  by_cases h1 : u.toNat = 47 <;> by_cases h2 : 32 ≤ u.toNat <;> by_cases h3 : u.toNat < 127
  all_goals
    try omega
  all_goals
    repeat (first | exact endA | refine wkT ?_ | refine opB (fun b => ?_) | refine opA (fun a' c' hc1 hc2 => ?_) | (apply GJ.and; exact rfl; intro hg) | (apply GJ.or; exact rfl; intro hg))
    refine Wk.outV Sup.auto hk (congrArg Value.bool ?_)
    rw [hl]
    simp [h1, h2, h3]
    try omega
theorem takeWhile_at {α : Type} {S : α → Bool} : ∀ {l : List α} {i : Nat} {u : α}, l[i]? = some u → (i < (l.takeWhile S).length → S u = true) ∧ (i = (l.takeWhile S).length → S u = false)
  | [], i, u, h => by simp at h
  | x :: l, 0, u, h => by
    simp at h; subst h
    rw [List.takeWhile_cons]
    cases hx : S x <;> simp [hx]
  | x :: l, i + 1, u, h => by
    have ih := takeWhile_at (S := S) (l := l) (i := i) (u := u) (by simpa using h)
    rw [List.takeWhile_cons]
    cases hx : S x with
    | false => simp
    | true => simp; exact ih
theorem takeWhile_le {α : Type} (S : α → Bool) (l : List α) : (l.takeWhile S).length ≤ l.length := (List.takeWhile_sublist S).length_le
theorem takeWhile_take {α : Type} (S : α → Bool) (l : List α) : l.takeWhile S = l.take (l.takeWhile S).length := List.prefix_iff_eq_take.1 (List.takeWhile_prefix S)
theorem cutW {S : UInt8 → Bool} {tx : List UInt8} {a i : Nat} (h : ((tx.drop a).takeWhile S).length = i) : (tx.drop a).takeWhile S = List.take (((a + i : Nat) : Int).toNat - (a : Int).toNat) (List.drop (a : Int).toNat tx) := by
  rw [Int.toNat_natCast, Int.toNat_natCast, show a + i - a = i by omega, ← h]
  exact takeWhile_take S _
section
variable {ro : Ro} {own r : Chs} {K : Value → Ro → Chs → Prop} {g : Chunk → Chs}
theorem while_ok {fid : FuncId} {S : UInt8 → Bool} {b a : Nat} {tx : List UInt8} {o : Value} (hS : ByteFn fid S) (hat : a ≤ tx.length) (hl : tx.length ≤ 100000)
    (hk : K (str ((tx.drop a).takeWhile S)) ro (.blk b 73 [str tx, .int .i64 ((a + ((tx.drop a).takeWhile S).length : Nat) : Int), o] :: r)) : CallOk Tryz.prog 40 #[ptr' b, .func (.func fid) #[] #[]] ro (.blk b 73 [str tx, .int .i64 (a : Int), o] :: r) K := by
  obtain ⟨m, hm⟩ : ∃ m, ((tx.drop a).takeWhile S).length = m := ⟨_, rfl⟩
  have hml : m ≤ tx.length - a := by rw [← hm]; exact Nat.le_trans (takeWhile_le _ _) (by simp)
  rw [hm] at hk
  refine CallOk.intro (args := [_, _]) (rs := [_]) T_ok Tryz.func40 Tryz.call40 rfl rfl (by kernel_rfl) rfl rfl ?_
  repeat (first | exact endA | refine wkT ?_ | refine opB (fun b => ?_) | refine opA (fun a' c' hc1 hc2 => ?_) | (apply GJ.and; exact rfl; intro hg) | (apply GJ.or; exact rfl; intro hg))
  refine LoopOk.at (ι := Nat) Keep.auto (fun i => []) (fun i => .blk b 73 [str tx, .int .i64 ((a + i : Nat) : Int), o] :: r) (fun i => i ≤ m) (fun i => m - i) 0 ?_ Sub.auto Sup.auto ?_
  · exact Nat.zero_le _
  rintro i i1
  dsimp only [List.cons_append, List.nil_append] at i1 ⊢
  by_cases hb : a + i < tx.length
  · obtain ⟨u, hu⟩ : ∃ u, tx[a + i]? = some u := ⟨_, List.getElem?_eq_getElem hb⟩
    have hu2 : tx[((a + i : Nat) : Int).toNat]! = u := by
      rw [Int.toNat_natCast, List.getElem!_eq_getElem?_getD, hu]; rfl
    have hw := takeWhile_at (S := S) (l := tx.drop a) (i := i) (u := u) (by rw [List.getElem?_drop]; exact hu)
    rw [hm] at hw
    repeat (first | exact endA | refine wkA ?_ | refine opB (fun b => ?_) | refine opA (fun a' c' hc1 hc2 => ?_) | (apply GJ.and; exact rfl; intro hg) | (apply GJ.or; exact rfl; intro hg))
    try rw [hu2]
    refine hS u _ _ _ ?_
    cases hs : S u with
    | true =>
      repeat (first | exact endA | refine wkA ?_ | refine opB (fun b => ?_) | refine opA (fun a' c' hc1 hc2 => ?_) | (apply GJ.and; exact rfl; intro hg) | (apply GJ.or; exact rfl; intro hg))
      refine Wk.id ⟨i + 1, ⟨rfl, ?_⟩, ?_, Sub.auto, Sup.auto⟩
      all_goals try dsimp only
      · have : i ≠ m := fun e => by have := hw.2 e; rw [hs] at this; cases this
        omega
      · have : i ≠ m := fun e => by have := hw.2 e; rw [hs] at this; cases this
        omega
    | false =>
      have him : i = m := by
        apply Classical.byContradiction
        intro e
        have := hw.1 (by omega)
        rw [hs] at this; cases this
      subst him
      repeat (first | exact endA | refine wkA ?_ | refine opB (fun b => ?_) | refine opA (fun a' c' hc1 hc2 => ?_) | (apply GJ.and; exact rfl; intro hg) | (apply GJ.or; exact rfl; intro hg))
      exact Wk.outV Sup.auto hk (congrArg str (cutW hm))
  · obtain rfl : i = m := by omega
    repeat (first | exact endA | refine wkA ?_ | refine opB (fun b => ?_) | refine opA (fun a' c' hc1 hc2 => ?_) | (apply GJ.and; exact rfl; intro hg) | (apply GJ.or; exact rfl; intro hg))
    exact Wk.outV Sup.auto hk (congrArg str (cutW hm))
end
end Go.Proofs.YtepdapdekaiioaaGreatDoor
end
section
/- What is between two tokens; contracts of lex: gap, pattern. -/
namespace Go.Proofs.YtepdapdekaiioaaGreatDoor
open Go Go.E
set_option linter.unusedVariables false
set_option linter.unusedSimpArgs false
set_option maxRecDepth 10000
def gapD : Bool → List UInt8 → Nat
  | _, [] => 0
  | n, c :: r => if c.toNat = 10 then 1 + gapD false r else if n = true ∨ c.toNat = 32 ∨ c.toNat = 9 ∨ c.toNat = 13 then 1 + gapD n r else if c.toNat = 35 then 1 + gapD true r else 0
theorem gapD_le : ∀ (l : List UInt8) (n : Bool), gapD n l ≤ l.length
  | [], n => by cases n <;> simp [gapD]
  | c :: r, n => by
    have h1 := gapD_le r false
    have h2 := gapD_le r true
    have h3 := gapD_le r n
    rw [gapD, List.length_cons]
    split
    · omega
    · split
      · omega
      · split
        · omega
        · omega
theorem gapD_note : ∀ (r : List UInt8), gapD true r = (r.takeWhile nlB).length + gapD false (r.drop (r.takeWhile nlB).length)
  | [] => rfl
  | c :: r => by
    rw [List.takeWhile_cons]
    by_cases h : c.toNat = 10
    · have : nlB c = false := by unfold nlB; simp [h]
      rw [this]
      simp [gapD, h]
    · have : nlB c = true := by unfold nlB; simp [h]
      rw [this, gapD, if_neg h, if_pos (.inl rfl), gapD_note r]
      simp
      omega
theorem gapD_hash {c : UInt8} (r : List UInt8) (h : c.toNat = 35) : gapD false (c :: r) = ((c :: r).takeWhile nlB).length + gapD false ((c :: r).drop ((c :: r).takeWhile nlB).length) := by
  have h1 : nlB c = true := by unfold nlB; simp [h]
  rw [List.takeWhile_cons, h1, gapD, if_neg (by omega), if_neg (by simp; omega), if_pos h, gapD_note r]
  simp
  omega
section
variable {ro : Ro} {own r : Chs} {K : Value → Ro → Chs → Prop} {g : Chunk → Chs}
theorem gap_ok {b a : Nat} {tx : List UInt8} {o : Value} (hat : a ≤ tx.length) (hl : tx.length ≤ 100000)
    (hk : K (.tuple #[]) ro (.blk b 73 [str tx, .int .i64 ((a + gapD false (tx.drop a) : Nat) : Int), o] :: r)) : CallOk Tryz.prog 24 #[ptr' b] ro (.blk b 73 [str tx, .int .i64 (a : Int), o] :: r) K := by
  refine CallOk.intro (args := [_]) (rs := []) T_ok Tryz.func24 Tryz.call24 rfl rfl (by kernel_rfl) rfl rfl ?_
  repeat (first | exact endA | refine wkT ?_ | refine opB (fun b => ?_) | refine opA (fun a' c' hc1 hc2 => ?_) | (apply GJ.and; exact rfl; intro hg) | (apply GJ.or; exact rfl; intro hg))
  refine CodeOk.scope ?_
  repeat (first | exact endA | refine wkT ?_ | refine opB (fun b => ?_) | refine opA (fun a' c' hc1 hc2 => ?_) | (apply GJ.and; exact rfl; intro hg) | (apply GJ.or; exact rfl; intro hg))
  refine LoopOk.at (ι := Nat) Keep.auto (fun i => []) (fun i => .blk b 73 [str tx, .int .i64 ((a + i : Nat) : Int), o] :: r) (fun i => a + i ≤ tx.length ∧ i + gapD false (tx.drop (a + i)) = gapD false (tx.drop a)) (fun i => tx.length - (a + i)) 0 ?_ Sub.auto Sup.auto ?_
  · exact ⟨by omega, by simp⟩
  rintro i ⟨i1, i2⟩
  dsimp only [List.cons_append, List.nil_append] at i1 i2 ⊢
  by_cases hb : a + i < tx.length
  · obtain ⟨u, hu⟩ : ∃ u, tx[a + i]? = some u := ⟨_, List.getElem?_eq_getElem hb⟩
    have hu2 : tx[((a + i : Nat) : Int).toNat]! = u := by
      rw [Int.toNat_natCast, List.getElem!_eq_getElem?_getD, hu]; rfl
    have hd : tx.drop (a + i) = u :: tx.drop (a + (i + 1)) := by
      rw [List.drop_eq_getElem_cons hb]
      congr 1
      rw [List.getElem?_eq_getElem hb] at hu
      exact Option.some.inj hu
    have hun := u.toNat_lt
    rw [hd, gapD] at i2
    repeat (first | exact endA | refine wkA ?_ | refine opB (fun b => ?_) | refine opA (fun a' c' hc1 hc2 => ?_) | (apply GJ.and; exact rfl; intro hg) | (apply GJ.or; exact rfl; intro hg))
    try rw [hu2]
    refine SeqOk.pass ?_
    by_cases h1 : u.toNat = 32
    · rw [if_neg (by omega), if_pos (.inr (.inl h1))] at i2
      repeat (first | exact endA | refine wkA ?_ | refine opB (fun b => ?_) | refine opA (fun a' c' hc1 hc2 => ?_) | (apply GJ.and; exact rfl; intro hg) | (apply GJ.or; exact rfl; intro hg))
      refine Wk.id ⟨i + 1, ⟨rfl, ?_⟩, ?_, Sub.auto, Sup.auto⟩
      all_goals try dsimp only
      · exact ⟨by omega, by omega⟩
      · omega
    · by_cases h2 : u.toNat = 9
      · rw [if_neg (by omega), if_pos (.inr (.inr (.inl h2)))] at i2
        repeat (first | exact endA | refine wkA ?_ | refine opB (fun b => ?_) | refine opA (fun a' c' hc1 hc2 => ?_) | (apply GJ.and; exact rfl; intro hg) | (apply GJ.or; exact rfl; intro hg))
        refine Wk.id ⟨i + 1, ⟨rfl, ?_⟩, ?_, Sub.auto, Sup.auto⟩
        all_goals try dsimp only
        · exact ⟨by omega, by omega⟩
        · omega
      · by_cases h3 : u.toNat = 10
        · rw [if_pos h3] at i2
          repeat (first | exact endA | refine wkA ?_ | refine opB (fun b => ?_) | refine opA (fun a' c' hc1 hc2 => ?_) | (apply GJ.and; exact rfl; intro hg) | (apply GJ.or; exact rfl; intro hg))
          refine Wk.id ⟨i + 1, ⟨rfl, ?_⟩, ?_, Sub.auto, Sup.auto⟩
          all_goals try dsimp only
          · exact ⟨by omega, by omega⟩
          · omega
        · by_cases h4 : u.toNat = 13
          · rw [if_neg h3, if_pos (.inr (.inr (.inr h4)))] at i2
            repeat (first | exact endA | refine wkA ?_ | refine opB (fun b => ?_) | refine opA (fun a' c' hc1 hc2 => ?_) | (apply GJ.and; exact rfl; intro hg) | (apply GJ.or; exact rfl; intro hg))
            refine Wk.id ⟨i + 1, ⟨rfl, ?_⟩, ?_, Sub.auto, Sup.auto⟩
            all_goals try dsimp only
            · exact ⟨by omega, by omega⟩
            · omega
          · by_cases h5 : u.toNat = 35
            · have hh := gapD_hash (tx.drop (a + (i + 1))) h5
              rw [gapD] at hh
              rw [hh, ← hd] at i2
              have hwl := takeWhile_le nlB (tx.drop (a + i))
              rw [List.length_drop] at hwl
              have hw1 : 1 ≤ ((tx.drop (a + i)).takeWhile nlB).length := by
                have : nlB u = true := by unfold nlB; simp [h5]
                rw [hd, List.takeWhile_cons, this]; simp
              repeat (first | exact endA | refine wkA ?_ | refine opB (fun b => ?_) | refine opA (fun a' c' hc1 hc2 => ?_) | (apply GJ.and; exact rfl; intro hg) | (apply GJ.or; exact rfl; intro hg))
              refine while_ok nl_ok (by omega) hl ?_
              generalize ((tx.drop (a + i)).takeWhile nlB).length = w at *
              rw [show a + i + w = a + (i + w) by omega]
              repeat (first | exact endA | refine wkA ?_ | refine opB (fun b => ?_) | refine opA (fun a' c' hc1 hc2 => ?_) | (apply GJ.and; exact rfl; intro hg) | (apply GJ.or; exact rfl; intro hg))
              refine Wk.id ⟨i + w, ⟨rfl, ?_⟩, ?_, Sub.auto, Sup.auto⟩
              all_goals try dsimp only
              · refine ⟨by omega, ?_⟩
                rw [List.drop_drop] at i2
                rw [show a + (i + w) = a + i + w by omega]
                omega
              · omega
            · rw [if_neg h3, if_neg (by simp; omega), if_neg h5] at i2
              have e : gapD false (tx.drop a) = i := by omega
              rw [e] at hk
              repeat (first | exact endA | refine wkA ?_ | refine opB (fun b => ?_) | refine opA (fun a' c' hc1 hc2 => ?_) | (apply GJ.and; exact rfl; intro hg) | (apply GJ.or; exact rfl; intro hg))
              exact Wk.outS Sup.auto (.refl _) hk
  · have : a + i = tx.length := by omega
    have h0 : tx.drop (a + i) = [] := List.drop_eq_nil_of_le (by omega)
    rw [h0] at i2
    have e : gapD false (tx.drop a) = i := by rw [← i2]; simp [gapD]
    rw [e] at hk
    repeat (first | exact endA | refine wkA ?_ | refine opB (fun b => ?_) | refine opA (fun a' c' hc1 hc2 => ?_) | (apply GJ.and; exact rfl; intro hg) | (apply GJ.or; exact rfl; intro hg))
    exact Wk.outS Sup.auto (.refl _) hk
end
end Go.Proofs.YtepdapdekaiioaaGreatDoor
end
section
/- Contracts of lex: pattern; strings.HasPrefix. -/
namespace Go.Proofs.YtepdapdekaiioaaGreatDoor
open Go Go.E
set_option linter.unusedVariables false
set_option linter.unusedSimpArgs false
set_option maxRecDepth 10000
def tokV (k a : Nat) (x : List UInt8) : List Value := [.int .i64 (k : Int), .int .i64 (a : Int), str x]
/-- What is between two slashes, behind the first one: the text; where it is wrong: none. -/
def patD (l : List UInt8) : Option (List UInt8) := match (l.drop (l.takeWhile patB).length) with
  | [] => none
  | x :: _ => if x.toNat = 47 then some (l.takeWhile patB) else none
section
variable {ro : Ro} {own r : Chs} {K : Value → Ro → Chs → Prop} {g : Chunk → Chs}
theorem pattern_ok {p a : Nat} {tx : List UInt8} {o : Value} (hat : a < tx.length) (hl : tx.length ≤ 100000)
    (hk1 : ∀ w, patD (tx.drop (a + 1)) = some w → a + w.length + 2 ≤ tx.length → K (.tuple #[.agg (tokV 3 0 w).toArray, .int .i64 0]) ro (.blk p 73 [str tx, .int .i64 ((a + w.length + 2 : Nat) : Int), o] :: r))
    (hk2 : patD (tx.drop (a + 1)) = none → ∀ a' : Nat, a' ≤ tx.length → K (.tuple #[.agg (tokV 0 0 []).toArray, .int .i64 5]) ro (.blk p 73 [str tx, .int .i64 (a' : Int), o] :: r)) :
    CallOk Tryz.prog 45 #[ptr' p] ro (.blk p 73 [str tx, .int .i64 (a : Int), o] :: r) K := by
  have hwl := takeWhile_le patB (tx.drop (a + 1))
  rw [List.length_drop] at hwl
  refine CallOk.intro (args := [_]) (rs := [_, _]) T_ok Tryz.func45 Tryz.call45 rfl rfl (by kernel_rfl) rfl rfl ?_
  repeat (first | exact endA | refine wkT ?_ | refine opB (fun b => ?_) | refine opA (fun a' c' hc1 hc2 => ?_) | (apply GJ.and; exact rfl; intro hg) | (apply GJ.or; exact rfl; intro hg))
  refine CallOk.sup (own0 := .blk p 73 [str tx, .int .i64 ((a + 1 : Nat) : Int), o] :: .blk b 40 [.int .i64 0, .int .i64 0, str []] :: r) Sup.auto ?_
  refine while_ok pat_ok (by omega) hl ?_
  have hpd : patD (tx.drop (a + 1)) = (match tx.drop (a + 1 + ((tx.drop (a + 1)).takeWhile patB).length) with
    | [] => none
    | x :: _ => if x.toNat = 47 then some ((tx.drop (a + 1)).takeWhile patB) else none) := by unfold patD; rw [List.drop_drop]
  generalize (tx.drop (a + 1)).takeWhile patB = w at *
  by_cases hb : a + 1 + w.length < tx.length
  · obtain ⟨u, hu⟩ : ∃ u, tx[a + 1 + w.length]? = some u := ⟨_, List.getElem?_eq_getElem hb⟩
    have hu2 : tx[((a + 1 + w.length : Nat) : Int).toNat]! = u := by
      rw [Int.toNat_natCast, List.getElem!_eq_getElem?_getD, hu]; rfl
    have hd : tx.drop (a + 1 + w.length) = u :: tx.drop (a + 1 + w.length + 1) := by
      rw [List.drop_eq_getElem_cons hb]
      congr 1
      rw [List.getElem?_eq_getElem hb] at hu
      exact Option.some.inj hu
    rw [hd] at hpd
    simp only at hpd
    repeat (first | exact endA | refine wkA ?_ | refine opB (fun b => ?_) | refine opA (fun a' c' hc1 hc2 => ?_) | (apply GJ.and; exact rfl; intro hg) | (apply GJ.or; exact rfl; intro hg))
    try rw [hu2]
    by_cases h47 : u.toNat = 47
    · rw [if_pos h47] at hpd
      have hk := hk1 w hpd (by omega)
      rw [show a + w.length + 2 = a + 1 + w.length + 1 by omega] at hk
      repeat (first | exact endA | refine wkA ?_ | refine opB (fun b => ?_) | refine opA (fun a' c' hc1 hc2 => ?_) | (apply GJ.and; exact rfl; intro hg) | (apply GJ.or; exact rfl; intro hg))
      exact Wk.outS Sup.auto (.refl _) hk
    · rw [if_neg h47] at hpd
      have hk := hk2 hpd _ (Nat.le_of_lt hb)
      repeat (first | exact endA | refine wkA ?_ | refine opB (fun b => ?_) | refine opA (fun a' c' hc1 hc2 => ?_) | (apply GJ.and; exact rfl; intro hg) | (apply GJ.or; exact rfl; intro hg))
      exact Wk.outS Sup.auto (.refl _) hk
  · have h0 : tx.drop (a + 1 + w.length) = [] := List.drop_eq_nil_of_le (by omega)
    rw [h0] at hpd
    have hk := hk2 hpd (a + 1 + w.length) (by omega)
    repeat (first | exact endA | refine wkA ?_ | refine opB (fun b => ?_) | refine opA (fun a' c' hc1 hc2 => ?_) | (apply GJ.and; exact rfl; intro hg) | (apply GJ.or; exact rfl; intro hg))
    exact Wk.outS Sup.auto (.refl _) hk
theorem sprefix_ok {x y : List UInt8} (hx : x.length ≤ 1000000) (hy : y.length ≤ 1000000) (hk : K (.bool (y.isPrefixOf x)) ro own) : CallOk Tryz.prog 71 #[str x, str y] ro own K := by
  have hp : y.isPrefixOf x = decide (x.take y.length = y) := by
    rw [Bool.eq_iff_iff, List.isPrefixOf_iff_prefix, decide_eq_true_iff, List.prefix_iff_eq_take]
    exact eq_comm
  rw [hp] at hk
  refine CallOk.intro (args := [_, _]) (rs := [_]) T_ok Tryz.func71 Tryz.call71 rfl rfl (by kernel_rfl) rfl rfl ?_
  by_cases hl : y.length ≤ x.length
  · repeat (first | exact endA | refine wkT ?_ | refine opB (fun b => ?_) | refine opA (fun a' c' hc1 hc2 => ?_) | (apply GJ.and; exact rfl; intro hg) | (apply GJ.or; exact rfl; intro hg))
    exact Wk.outV Sup.auto hk (congrArg Value.bool (by rw [Int.toNat_natCast]))
  · have : decide (x.take y.length = y) = false := by
      rw [decide_eq_false_iff_not]
      intro e
      have := congrArg List.length e
      rw [List.length_take] at this
      omega
    rw [this] at hk
    repeat (first | exact endA | refine wkT ?_ | refine opB (fun b => ?_) | refine opA (fun a' c' hc1 hc2 => ?_) | (apply GJ.and; exact rfl; intro hg) | (apply GJ.or; exact rfl; intro hg))
    exact Wk.outV Sup.auto hk rfl
theorem prefix_ok {x y : List UInt8} (hx : x.length ≤ 1000000) (hy : y.length ≤ 1000000) (hk : K (.bool (y.isPrefixOf x)) ro own) : CallOk Tryz.prog 47 #[str x, str y] ro own K := by
  refine CallOk.intro (args := [_, _]) (rs := [_]) T_ok Tryz.func47 Tryz.call47 rfl rfl (by kernel_rfl) rfl rfl ?_
  repeat (first | exact endA | refine wkT ?_ | refine opB (fun b => ?_) | refine opA (fun a' c' hc1 hc2 => ?_) | (apply GJ.and; exact rfl; intro hg) | (apply GJ.or; exact rfl; intro hg))
  refine sprefix_ok hx hy ?_
  repeat (first | exact endA | refine wkT ?_ | refine opB (fun b => ?_) | refine opA (fun a' c' hc1 hc2 => ?_) | (apply GJ.and; exact rfl; intro hg) | (apply GJ.or; exact rfl; intro hg))
  exact Wk.outS Sup.auto (.refl _) hk
end
end Go.Proofs.YtepdapdekaiioaaGreatDoor
end
section
/- The table of blanks; strings.Fields of all signs. -/
namespace Go.Proofs.YtepdapdekaiioaaGreatDoor
open Go Go.E
set_option linter.unusedVariables false
set_option linter.unusedSimpArgs false
set_option maxRecDepth 10000
def spI (i : Nat) : Int := if 9 ≤ i ∧ i ≤ 13 ∨ i = 32 then 1 else 0
def spL : List Int := (List.range 256).map spI
structure SpOk (ro : Ro) : Prop where
  cells : ∃ cs t fr, ro 0 = some (.cells cs t fr) ∧ ∀ i, i < 256 → cs[i]? = some (.int .u8 (spI i))
theorem SpOk.le {ro ro' : Ro} (h : SpOk ro) (hl : Le ro ro') : SpOk ro' := by
  obtain ⟨cs, t, fr, h1, h2⟩ := h.cells
  exact ⟨cs, t, fr, hl.le _ _ h1, h2⟩
theorem SpOk.ld {ro : Ro} {own : Chs} {o i : Nat} (h : SpOk ro) (ho : o = i) (hi : i < 256) : Ld ro own 0 o (.int .u8 (spI i)) := fun hp hs => by
  subst ho
  obtain ⟨cs, t, fr, h1, h2⟩ := h.cells
  have := hs.last _ _ h1
  rw [cellAt_of this]; exact h2 o hi
theorem SpOk.ofLaid {W : World} {x : String × DataW Unit} {rest : List (String × DataW Unit)} (h : laidMet Tryz.prog (x :: ("strings.asciiSpace", Lib.tabData .u8 spL) :: rest) W) : SpOk (hm W.heap) := by
  have hg : Tryz.prog.globalNamed "strings.asciiSpace" = some 0 := by kernel_rfl
  have hT := Lib.tabIs_of_head (n := 256) hg (by kernel_rfl) Tryz.underlying115 Tryz.underlying5 (by kernel_rfl) (by kernel_rfl) h.tail
  unfold Lib.TabIs World.var? at hT
  rw [hg] at hT
  simp only [Option.bind_some] at hT
  split at hT
  · rename_i cs t fr he
    cases hT
    refine ⟨⟨_, _, _, he, fun i hi => ?_⟩⟩
    simp [spL, hi]
  · cases hT
def sgB : List UInt8 := [46, 46, 32, 61, 32, 59, 32, 123, 32, 125, 32, 91, 32, 93, 32, 40, 32, 41, 32, 58, 32, 124, 32, 42, 32, 43, 32, 37]
def sgU (i : Nat) : UInt8 := sgB.getD i 0
def spU (u : UInt8) : Int := spI u.toNat
def wF : Nat → Int
  | 0 => 1
  | i + 1 => spU (sgU i)
def nF : Nat → Int
  | 0 => 0
  | i + 1 => nF i + iand (wF i) (ixor (-1) (spU (sgU i)))
def bF : Nat → Nat
  | 0 => 0
  | i + 1 => bF i ||| (sgU i).toNat
def naF : Nat → Nat
  | 0 => 0
  | i + 1 => if spU (sgU i) = 0 then naF i else naF i + 1
def fsF : Nat → Nat
  | 0 => 0
  | i + 1 => if spU (sgU i) = 0 then fsF i else i + 1
def tbF : Nat → List (List UInt8)
  | 0 => List.replicate 14 []
  | i + 1 => if spU (sgU i) = 0 then tbF i else (tbF i).set (naF i) ((sgB.drop (fsF i)).take (i - fsF i))
def signsL : List (List UInt8) := [[46, 46], [61], [59], [123], [125], [91], [93], [40], [41], [58], [124], [42], [43], [37]]
theorem sg_one : ∀ i, i ≤ 28 → 0 ≤ nF i ∧ nF i ≤ 28 ∧ (wF i = 0 ∨ wF i = 1) ∧ bF i < 128 := by decide +kernel
theorem sg_get : ∀ i, i < 28 → sgB[i]? = some (sgU i) := by decide +kernel
theorem sg_n : nF 28 = 14 := by decide +kernel
theorem sg_two : ∀ i, i ≤ 28 → naF i ≤ 13 ∧ fsF i ≤ i ∧ (tbF i).length = 14 := by decide +kernel
theorem sg_next : ∀ i, i < 27 → spU (sgU i) ≠ 0 → spU (sgU (i + 1)) = 0 := by decide +kernel
theorem sg_end : fsF 28 = 27 ∧ naF 28 = 13 ∧ (tbF 28).set 13 (sgB.drop 27) = signsL ∧ spU (sgU 27) = 0 := by decide +kernel
section
variable {ro : Ro} {own r : Chs} {K : Value → Ro → Chs → Prop} {g : Chunk → Chs}
set_option maxHeartbeats 2000000 in
theorem fields_ok (hS : SpOk ro) (hk : ∀ b : Nat, K (.slice (some ⟨b, 0, none⟩) 14 14) ro (.sl (some ⟨b, 0, none⟩) 14 14 9 1 (signsL.map str) :: own)) : CallOk Tryz.prog 46 #[str sgB] ro own K := by
  have hlen : sgB.length = 28 := rfl
  obtain ⟨sg, hsg⟩ : ∃ x, sgB = x := ⟨_, rfl⟩
  rw [hsg] at hlen ⊢
  have hget := sg_get
  rw [hsg] at hget
  refine CallOk.intro (args := [_]) (rs := [_]) T_ok Tryz.func46 Tryz.call46 rfl rfl (by kernel_rfl) rfl rfl ?_
  repeat (first | exact endA | refine wkT ?_ | refine opB (fun b => ?_) | refine opA (fun a' c' hc1 hc2 => ?_) | (apply GJ.and; exact rfl; intro hg) | (apply GJ.or; exact rfl; intro hg))
  refine LoopOk.at (ι := Nat) Keep.auto (fun i => [(6, .int .i64 (i : Int)), (3, .int .i64 (nF i)), (4, .int .i64 (wF i)), (5, .int .u8 ((bF i : Nat) : Int))]) (fun i => own) (fun i => i ≤ 28) (fun i => 28 - i) 0 ?_ Sub.auto Sup.auto ?_
  · exact Nat.zero_le _
  rintro i i1
  dsimp only [List.cons_append, List.nil_append] at i1 ⊢
  by_cases hb : i < 28
  · have hu := hget i hb
    have h1 := sg_one i i1
    have h2 := sg_one (i + 1) hb
    have hn : nF (i + 1) = nF i + iand (wF i) (ixor (-1) (spU (sgU i))) := rfl
    have hw : wF (i + 1) = spU (sgU i) := rfl
    have hbb : bF (i + 1) = bF i ||| (sgU i).toNat := rfl
    have hsp : spU (sgU i) = spI (sgU i).toNat := rfl
    generalize hn2 : nF (i + 1) = n2 at hn h2
    generalize hw2 : wF (i + 1) = w2 at hw h2
    generalize hb2 : bF (i + 1) = b2 at hbb h2
    generalize hn1 : nF i = n1 at h1 hn ⊢
    generalize hw1 : wF i = w1 at h1 hn ⊢
    generalize hb1 : bF i = b1 at h1 hbb ⊢
    generalize sgU i = u at hu hn hw hbb hsp
    generalize spU u = s at hn hw hsp
    have hun := u.toNat_lt
    have hu2 : sg[(i : Int).toNat]! = u := by
      rw [Int.toNat_natCast, List.getElem!_eq_getElem?_getD, hu]; rfl
    have hor : nor2 ((b1 : Nat) : Int) ((u.toNat : Nat) : Int) = ((b2 : Nat) : Int) := by rw [hbb]; rfl
    repeat (first | exact endA | refine wkT ?_ | refine opB (fun b => ?_) | refine opA (fun a' c' hc1 hc2 => ?_) | (apply GJ.and; exact rfl; intro hg) | (apply GJ.or; exact rfl; intro hg))
    rw [hu2, hor]
    refine ⟨by omega, ?_⟩
    repeat (first | exact endA | refine wkT ?_ | refine opB (fun b => ?_) | refine opA (fun a' c' hc1 hc2 => ?_) | (apply GJ.and; exact rfl; intro hg) | (apply GJ.or; exact rfl; intro hg))
    refine OpOk.load rfl rfl (hS.ld (i := u.toNat) (by omega) (by omega)) ?_
    rw [← hsp]
    repeat (first | exact endA | refine wkT ?_ | refine opB (fun b => ?_) | refine opA (fun a' c' hc1 hc2 => ?_) | (apply GJ.and; exact rfl; intro hg) | (apply GJ.or; exact rfl; intro hg))
    refine OpOk.notI rfl ?_
    generalize ixor (-1) s = x at hn ⊢
    repeat (first | exact endA | refine wkT ?_ | refine opB (fun b => ?_) | refine opA (fun a' c' hc1 hc2 => ?_) | (apply GJ.and; exact rfl; intro hg) | (apply GJ.or; exact rfl; intro hg))
    refine OpOk.andI rfl rfl ?_
    generalize iand w1 x = y at hn ⊢
    repeat (first | exact endA | refine wkT ?_ | refine opB (fun b => ?_) | refine opA (fun a' c' hc1 hc2 => ?_) | (apply GJ.and; exact rfl; intro hg) | (apply GJ.or; exact rfl; intro hg))
    try rw [← hn]
    repeat (first | exact endA | refine wkT ?_ | refine opB (fun b => ?_) | refine opA (fun a' c' hc1 hc2 => ?_) | (apply GJ.and; exact rfl; intro hg) | (apply GJ.or; exact rfl; intro hg))
    try rw [← hn]
    try rw [← hw]
    subst hn2
    subst hw2
    subst hb2
    refine Wk.id ⟨i + 1, ⟨rfl, ?_⟩, ?_, Sub.auto, Sup.auto⟩
    all_goals try dsimp only
    · omega
    · omega
  · obtain rfl : i = 28 := by omega
    have h1 := sg_one 28 (Nat.le_refl _)
    rw [sg_n] at h1 ⊢
    generalize wF 28 = w at h1 ⊢
    generalize bF 28 = bb at h1 ⊢
    repeat (first | exact endA | refine wkT ?_ | refine opB (fun b => ?_) | refine opA (fun a' c' hc1 hc2 => ?_) | (apply GJ.and; exact rfl; intro hg) | (apply GJ.or; exact rfl; intro hg))
    have hu0 : sg[Int.toNat 0]! = 46 := by rw [← hsg]; rfl
    have hs46 : spI 46 = 0 := by decide
    have hx46 : (46 : UInt8).toNat = 46 := rfl
    refine LoopOk.at (ι := Unit) Keep.auto (fun _u => [(12, .int .i64 0)]) (fun _u => .sl (some ⟨b, 0, none⟩) 14 14 9 1 (List.replicate 14 (str [])) :: own) (fun _u => True) (fun _u => 0) () ?_ Sub.auto Sup.auto ?_
    · trivial
    rintro _u -
    dsimp only [List.cons_append, List.nil_append]
    repeat (first | exact endA | refine wkA ?_ | refine opB (fun b => ?_) | refine opA (fun a' c' hc1 hc2 => ?_) | (apply GJ.and; exact rfl; intro hg) | (apply GJ.or; exact rfl; intro hg))
    try rw [hu0]
    repeat (first | exact endA | refine wkA ?_ | refine opB (fun b => ?_) | refine opA (fun a' c' hc1 hc2 => ?_) | (apply GJ.and; exact rfl; intro hg) | (apply GJ.or; exact rfl; intro hg))
    refine OpOk.load rfl rfl (hS.ld (i := 46) (by omega) (by omega)) ?_
    rw [hs46]
    repeat (first | exact endA | refine wkA ?_ | refine opB (fun b => ?_) | refine opA (fun a' c' hc1 hc2 => ?_) | (apply GJ.and; exact rfl; intro hg) | (apply GJ.or; exact rfl; intro hg))
    refine LoopOk.at (ι := Nat) Keep.auto (fun i => [(12, .int .i64 (i : Int)), (10, .int .i64 ((naF i : Nat) : Int)), (11, .int .i64 ((fsF i : Nat) : Int))]) (fun i => .sl (some ⟨b, 0, none⟩) 14 14 9 1 ((tbF i).map str) :: own) (fun i => i ≤ 28) (fun i => 28 - i) 0 ?_ Sub.auto Sup.auto ?_
    · exact Nat.zero_le _
    rintro i i1
    dsimp only [List.cons_append, List.nil_append] at i1 ⊢
    have h2 := sg_two i i1
    by_cases hb : i < 28
    · have hu := hget i hb
      have h3 := sg_next i
      have h4 := sg_end.2.2.2
      have hna : naF (i + 1) = if spU (sgU i) = 0 then naF i else naF i + 1 := rfl
      have hfs : fsF (i + 1) = if spU (sgU i) = 0 then fsF i else i + 1 := rfl
      have htb : tbF (i + 1) = if spU (sgU i) = 0 then tbF i else (tbF i).set (naF i) ((sg.drop (fsF i)).take (i - fsF i)) := by rw [← hsg]; rfl
      have hsp : spU (sgU i) = spI (sgU i).toNat := rfl
      have hs1 := (sg_one (i + 1) hb).2.2.1
      have hw : wF (i + 1) = spU (sgU i) := rfl
      rw [hw] at hs1
      have hi27 : spU (sgU i) ≠ 0 → i < 27 := fun hne => by
        rcases Nat.lt_or_ge i 27 with h | h
        · exact h
        · obtain rfl : i = 27 := by omega
          exact absurd h4 hne
      clear hw h4
      generalize hn1 : naF i = na at hna htb h2 ⊢
      generalize hf1 : fsF i = fs at hfs htb h2 ⊢
      generalize ht1 : tbF i = tb at htb h2 ⊢
      generalize hui : sgU i = u at hu h3 hna hfs htb hsp hs1 hi27
      generalize hsu : spU u = s at h3 hna hfs htb hsp hs1 hi27
      have hun := u.toNat_lt
      have hu2 : sg[(i : Int).toNat]! = u := by
        rw [Int.toNat_natCast, List.getElem!_eq_getElem?_getD, hu]; rfl
      repeat (first | exact endA | refine wkA ?_ | refine opB (fun b => ?_) | refine opA (fun a' c' hc1 hc2 => ?_) | (apply GJ.and; exact rfl; intro hg) | (apply GJ.or; exact rfl; intro hg))
      try rw [hu2]
      repeat (first | exact endA | refine wkA ?_ | refine opB (fun b => ?_) | refine opA (fun a' c' hc1 hc2 => ?_) | (apply GJ.and; exact rfl; intro hg) | (apply GJ.or; exact rfl; intro hg))
      refine OpOk.load rfl rfl (hS.ld (i := u.toNat) (by omega) (by omega)) ?_
      rw [← hsp]
      by_cases hs0 : s = 0
      · rw [if_pos hs0] at hna hfs htb
        repeat (first | exact endA | refine wkA ?_ | refine opB (fun b => ?_) | refine opA (fun a' c' hc1 hc2 => ?_) | (apply GJ.and; exact rfl; intro hg) | (apply GJ.or; exact rfl; intro hg))
        rw [← htb]
        refine Wk.id ⟨i + 1, ⟨rfl, ?_⟩, ?_, Sub.auto, Sup.auto⟩
        all_goals try dsimp only
        · omega
        · omega
      · rw [if_neg hs0] at hna hfs htb
        have hi := hi27 hs0
        have h5 := h3 hi hs0
        have hu3 := hget (i + 1) (by omega)
        have hsp3 : spU (sgU (i + 1)) = spI (sgU (i + 1)).toNat := rfl
        generalize sgU (i + 1) = u3 at h5 hu3 hsp3
        have hun3 := u3.toNat_lt
        have hu4 : sg[((i : Int) + 1).toNat]! = u3 := by
          rw [show ((i : Int) + 1).toNat = i + 1 by omega, List.getElem!_eq_getElem?_getD, hu3]; rfl
        have hml : (List.map str tb).length = 14 := by rw [List.length_map]; exact h2.2.2
        have hset : (List.map str tb).set na (str (List.take ((i : Int).toNat - (fs : Int).toNat) (List.drop (fs : Int).toNat sg))) = List.map str (tbF (i + 1)) := by
          rw [htb, List.map_set]; rfl
        repeat (first | exact endA | refine wkA ?_ | refine opB (fun b => ?_) | refine opA (fun a' c' hc1 hc2 => ?_) | (apply GJ.and; exact rfl; intro hg) | (apply GJ.or; exact rfl; intro hg))
        refine OpOk.storeSl (k := na) rfl rfl rfl rfl (by omega) ?_
        rw [hset]
        repeat (first | exact endA | refine wkA ?_ | refine opB (fun b => ?_) | refine opA (fun a' c' hc1 hc2 => ?_) | (apply GJ.and; exact rfl; intro hg) | (apply GJ.or; exact rfl; intro hg))
        refine LoopOk.at (ι := Unit) Keep.auto (fun _u => [(12, .int .i64 ((i : Int) + 1))]) (fun _u => .sl (some ⟨b, 0, none⟩) 14 14 9 1 (List.map str (tbF (i + 1))) :: own) (fun _u => True) (fun _u => 0) () ?_ Sub.auto Sup.auto ?_
        · trivial
        rintro _u -
        dsimp only [List.cons_append, List.nil_append]
        repeat (first | exact endA | refine wkA ?_ | refine opB (fun b => ?_) | refine opA (fun a' c' hc1 hc2 => ?_) | (apply GJ.and; exact rfl; intro hg) | (apply GJ.or; exact rfl; intro hg))
        try rw [hu4]
        repeat (first | exact endA | refine wkA ?_ | refine opB (fun b => ?_) | refine opA (fun a' c' hc1 hc2 => ?_) | (apply GJ.and; exact rfl; intro hg) | (apply GJ.or; exact rfl; intro hg))
        refine OpOk.load rfl rfl (hS.ld (i := u3.toNat) (by omega) (by omega)) ?_
        rw [← hsp3, h5]
        repeat (first | exact endA | refine wkA ?_ | refine opB (fun b => ?_) | refine opA (fun a' c' hc1 hc2 => ?_) | (apply GJ.and; exact rfl; intro hg) | (apply GJ.or; exact rfl; intro hg))
        refine Wk.id ⟨i + 1, ⟨rfl, ?_⟩, ?_, Sub.auto, Sup.auto⟩
        all_goals try dsimp only
        · omega
        · omega
    · obtain rfl : i = 28 := by omega
      obtain ⟨e1, e2, e3, _⟩ := sg_end
      rw [hsg] at e3
      rw [e1, e2]
      generalize tbF 28 = tb at e3 h2 ⊢
      have hml : (List.map str tb).length = 14 := by rw [List.length_map]; exact h2.2.2
      have hset : (List.map str tb).set 13 (str (List.drop ((27 : Nat) : Int).toNat sg)) = List.map str signsL := by
        rw [← e3, List.map_set]; rfl
      repeat (first | exact endA | refine wkA ?_ | refine opB (fun b => ?_) | refine opA (fun a' c' hc1 hc2 => ?_) | (apply GJ.and; exact rfl; intro hg) | (apply GJ.or; exact rfl; intro hg))
      refine SeqOk.pass ?_
      repeat (first | exact endA | refine wkA ?_ | refine opB (fun b => ?_) | refine opA (fun a' c' hc1 hc2 => ?_) | (apply GJ.and; exact rfl; intro hg) | (apply GJ.or; exact rfl; intro hg))
      refine OpOk.storeSl (k := 13) rfl rfl rfl rfl (by omega) ?_
      rw [hset]
      repeat (first | exact endA | refine wkA ?_ | refine opB (fun b => ?_) | refine opA (fun a' c' hc1 hc2 => ?_) | (apply GJ.and; exact rfl; intro hg) | (apply GJ.or; exact rfl; intro hg))
      exact Wk.outS Sup.auto (.refl _) (hk b)
end
end Go.Proofs.YtepdapdekaiioaaGreatDoor
end
section
/- Contracts of lex: next. -/
namespace Go.Proofs.YtepdapdekaiioaaGreatDoor
open Go Go.E
set_option linter.unusedVariables false
set_option linter.unusedSimpArgs false
set_option maxRecDepth 10000
/-- The token at the front: its kind, its text, how many bytes it has, the error's number. -/
def frontD (l : List UInt8) : Nat × List UInt8 × Nat × Nat := match l with
  | [] => (0, [], 0, 100)
  | c :: r => if letB c = true then (if 24 < (l.takeWhile wordB).length then (0, [], 0, 2) else (1, l.takeWhile wordB, (l.takeWhile wordB).length, 0))
    else if digB c = true then (if 20 < (l.takeWhile digB).length then (0, [], 0, 2) else if 1 < (l.takeWhile digB).length ∧ c.toNat = 48 then (0, [], 0, 5) else (2, l.takeWhile digB, (l.takeWhile digB).length, 0))
    else if c.toNat = 47 then (match patD r with
      | none => (0, [], 0, 5)
      | some w => (3, w, w.length + 2, 0))
    else match signsL.find? (·.isPrefixOf l) with
      | some s => (4, s, s.length, 0)
      | none => (0, [], 0, 100)
theorem signs_len : ∀ j, j < 14 → (signsL[j]!).length ≤ 2 ∧ 1 ≤ (signsL[j]!).length := by decide +kernel
theorem find_none {α : Type} {f : α → Bool} {l : List α} (h : ∀ x ∈ l, f x = false) : l.find? f = none := by
  rw [List.find?_eq_none]; intro x hx; simp [h x hx]
theorem find_at {α : Type} [Inhabited α] {f : α → Bool} : ∀ {l : List α} {j : Nat}, j < l.length → f l[j]! = true → (∀ i, i < j → f l[i]! = false) → l.find? f = some l[j]!
  | [], j, h, _, _ => by simp at h
  | x :: l, 0, _, h1, _ => by rw [List.find?_cons]; have : f x = true := h1; rw [this]; rfl
  | x :: l, j + 1, h, h1, h2 => by
    have h0 : f x = false := h2 0 (by omega)
    rw [List.find?_cons, h0]
    exact find_at (l := l) (j := j) (by simpa using h) h1 (fun i hi => h2 (i + 1) (by omega))
section
variable {ro : Ro} {own r : Chs} {K : Value → Ro → Chs → Prop} {g : Chunk → Chs}
set_option maxHeartbeats 4000000 in
theorem next_ok {p a : Nat} {tx : List UInt8} {o : Value} (hS : SpOk ro) (hat : a < tx.length) (hl : tx.length ≤ 100000)
    (hk1 : ∀ k w n, frontD (tx.drop a) = (k, w, n, 0) → a + n ≤ tx.length → 1 ≤ n → K (.tuple #[.agg (tokV k 0 w).toArray, .int .i64 0]) ro (.blk p 73 [str tx, .int .i64 ((a + n : Nat) : Int), o] :: r))
    (hk2 : ∀ code : Nat, frontD (tx.drop a) = (0, [], 0, code) → code ≠ 0 → code ≤ 1000 → ∀ a' : Nat, a' ≤ tx.length → K (.tuple #[.agg (tokV 0 0 []).toArray, .int .i64 (code : Int)]) ro (.blk p 73 [str tx, .int .i64 (a' : Int), o] :: r)) :
    CallOk Tryz.prog 25 #[ptr' p] ro (.blk p 73 [str tx, .int .i64 (a : Int), o] :: r) K := by
  obtain ⟨u, hu⟩ : ∃ u, tx[a]? = some u := ⟨_, List.getElem?_eq_getElem hat⟩
  have hu2 : tx[(a : Int).toNat]! = u := by
    rw [Int.toNat_natCast, List.getElem!_eq_getElem?_getD, hu]; rfl
  have hd : tx.drop a = u :: tx.drop (a + 1) := by
    rw [List.drop_eq_getElem_cons hat]
    congr 1
    rw [List.getElem?_eq_getElem hat] at hu
    exact Option.some.inj hu
  have hun := u.toNat_lt
  have hfr : frontD (tx.drop a) = if letB u = true then (if 24 < ((tx.drop a).takeWhile wordB).length then (0, [], 0, 2) else (1, (tx.drop a).takeWhile wordB, ((tx.drop a).takeWhile wordB).length, 0))
    else if digB u = true then (if 20 < ((tx.drop a).takeWhile digB).length then (0, [], 0, 2) else if 1 < ((tx.drop a).takeWhile digB).length ∧ u.toNat = 48 then (0, [], 0, 5) else (2, (tx.drop a).takeWhile digB, ((tx.drop a).takeWhile digB).length, 0))
    else if u.toNat = 47 then (match patD (tx.drop (a + 1)) with
      | none => (0, [], 0, 5)
      | some w => (3, w, w.length + 2, 0))
    else match signsL.find? (·.isPrefixOf (tx.drop a)) with
      | some s => (4, s, s.length, 0)
      | none => (0, [], 0, 100) := by rw [hd]; rfl
  have hw1 := takeWhile_le wordB (tx.drop a)
  have hw2 := takeWhile_le digB (tx.drop a)
  rw [List.length_drop] at hw1 hw2
  have hp1 : letB u = true → 1 ≤ ((tx.drop a).takeWhile wordB).length := fun h => by
    rw [hd, List.takeWhile_cons, show wordB u = true by unfold wordB; rw [h]; rfl]; simp
  have hp2 : digB u = true → 1 ≤ ((tx.drop a).takeWhile digB).length ∧ ((tx.drop a).takeWhile digB)[0]! = u := fun h => by
    rw [hd, List.takeWhile_cons, h]; simp
  refine CallOk.intro (args := [_]) (rs := [_, _]) T_ok Tryz.func25 Tryz.call25 rfl rfl (by kernel_rfl) rfl rfl ?_
  repeat (first | exact endA | refine wkA ?_ | refine opB (fun b => ?_) | refine opA (fun a' c' hc1 hc2 => ?_) | (apply GJ.and; exact rfl; intro hg) | (apply GJ.or; exact rfl; intro hg))
  try rw [hu2]
  repeat (first | exact endA | refine wkA ?_ | refine opB (fun b => ?_) | refine opA (fun a' c' hc1 hc2 => ?_) | (apply GJ.and; exact rfl; intro hg) | (apply GJ.or; exact rfl; intro hg))
  refine letter_ok u _ _ _ ?_
  obtain ⟨x, hx⟩ : ∃ x, letB u = x := ⟨_, rfl⟩
  rw [hx] at hfr hp1 ⊢
  cases x with
  | true =>
    rw [if_pos rfl] at hfr
    have hp1 := hp1 rfl
    repeat (first | exact endA | refine wkA ?_ | refine opB (fun b => ?_) | refine opA (fun a' c' hc1 hc2 => ?_) | (apply GJ.and; exact rfl; intro hg) | (apply GJ.or; exact rfl; intro hg))
    refine CallOk.sup (own0 := .blk p 73 [str tx, .int .i64 (a : Int), o] :: .blk b 40 [.int .i64 0, .int .i64 0, str []] :: r) Sup.auto ?_
    refine while_ok word_ok (by omega) hl ?_
    generalize (tx.drop a).takeWhile wordB = w at *
    by_cases hg : 24 < w.length
    · rw [if_pos hg] at hfr
      have hk := hk2 2 hfr (by omega) (by omega) (a + w.length) (by omega)
      repeat (first | exact endA | refine wkA ?_ | refine opB (fun b => ?_) | refine opA (fun a' c' hc1 hc2 => ?_) | (apply GJ.and; exact rfl; intro hg) | (apply GJ.or; exact rfl; intro hg))
      exact Wk.outS Sup.auto (.refl _) hk
    · rw [if_neg hg] at hfr
      have hk := hk1 _ _ _ hfr (by omega) hp1
      repeat (first | exact endA | refine wkA ?_ | refine opB (fun b => ?_) | refine opA (fun a' c' hc1 hc2 => ?_) | (apply GJ.and; exact rfl; intro hg) | (apply GJ.or; exact rfl; intro hg))
      exact Wk.outS Sup.auto (.refl _) hk
  | false =>
    rw [if_neg (by simp)] at hfr
    repeat (first | exact endA | refine wkA ?_ | refine opB (fun b => ?_) | refine opA (fun a' c' hc1 hc2 => ?_) | (apply GJ.and; exact rfl; intro hg) | (apply GJ.or; exact rfl; intro hg))
    refine digit_ok u _ _ _ ?_
    obtain ⟨y, hy⟩ : ∃ y, digB u = y := ⟨_, rfl⟩
    rw [hy] at hfr hp2 ⊢
    cases y with
    | true =>
      rw [if_pos rfl] at hfr
      have hp2 := hp2 rfl
      repeat (first | exact endA | refine wkA ?_ | refine opB (fun b => ?_) | refine opA (fun a' c' hc1 hc2 => ?_) | (apply GJ.and; exact rfl; intro hg) | (apply GJ.or; exact rfl; intro hg))
      refine CallOk.sup (own0 := .blk p 73 [str tx, .int .i64 (a : Int), o] :: .blk b 40 [.int .i64 0, .int .i64 0, str []] :: r) Sup.auto ?_
      refine while_ok digit_ok (by omega) hl ?_
      generalize (tx.drop a).takeWhile digB = w at *
      obtain ⟨hp2, hp3⟩ := hp2
      by_cases hg : 20 < w.length
      · rw [if_pos hg] at hfr
        have hk := hk2 2 hfr (by omega) (by omega) (a + w.length) (by omega)
        repeat (first | exact endA | refine wkA ?_ | refine opB (fun b => ?_) | refine opA (fun a' c' hc1 hc2 => ?_) | (apply GJ.and; exact rfl; intro hg) | (apply GJ.or; exact rfl; intro hg))
        exact Wk.outS Sup.auto (.refl _) hk
      · rw [if_neg hg] at hfr
        have hp4 : w[Int.toNat 0]! = u := hp3
        by_cases hg1 : 1 < w.length
        · by_cases h48 : u.toNat = 48
          · rw [if_pos ⟨hg1, h48⟩] at hfr
            have hk := hk2 5 hfr (by omega) (by omega) (a + w.length) (by omega)
            repeat (first | exact endA | refine wkA ?_ | refine opB (fun b => ?_) | refine opA (fun a' c' hc1 hc2 => ?_) | (apply GJ.and; exact rfl; intro hg) | (apply GJ.or; exact rfl; intro hg))
            try rw [hp4]
            repeat (first | exact endA | refine wkA ?_ | refine opB (fun b => ?_) | refine opA (fun a' c' hc1 hc2 => ?_) | (apply GJ.and; exact rfl; intro hg) | (apply GJ.or; exact rfl; intro hg))
            exact Wk.outS Sup.auto (.refl _) hk
          · rw [if_neg (fun h => h48 h.2)] at hfr
            have hk := hk1 _ _ _ hfr (by omega) hp2
            repeat (first | exact endA | refine wkA ?_ | refine opB (fun b => ?_) | refine opA (fun a' c' hc1 hc2 => ?_) | (apply GJ.and; exact rfl; intro hg) | (apply GJ.or; exact rfl; intro hg))
            try rw [hp4]
            repeat (first | exact endA | refine wkA ?_ | refine opB (fun b => ?_) | refine opA (fun a' c' hc1 hc2 => ?_) | (apply GJ.and; exact rfl; intro hg) | (apply GJ.or; exact rfl; intro hg))
            exact Wk.outS Sup.auto (.refl _) hk
        · rw [if_neg (fun h => hg1 h.1)] at hfr
          have hk := hk1 _ _ _ hfr (by omega) hp2
          repeat (first | exact endA | refine wkA ?_ | refine opB (fun b => ?_) | refine opA (fun a' c' hc1 hc2 => ?_) | (apply GJ.and; exact rfl; intro hg) | (apply GJ.or; exact rfl; intro hg))
          exact Wk.outS Sup.auto (.refl _) hk
    | false =>
      rw [if_neg (by simp)] at hfr
      by_cases h47 : u.toNat = 47
      · rw [if_pos h47] at hfr
        repeat (first | exact endA | refine wkA ?_ | refine opB (fun b => ?_) | refine opA (fun a' c' hc1 hc2 => ?_) | (apply GJ.and; exact rfl; intro hg) | (apply GJ.or; exact rfl; intro hg))
        refine CallOk.sup (own0 := .blk p 73 [str tx, .int .i64 (a : Int), o] :: .blk b 40 [.int .i64 0, .int .i64 0, str []] :: r) Sup.auto ?_
        refine pattern_ok hat hl (fun w hw hwl => ?_) (fun hw a' ha' => ?_)
        · rw [hw] at hfr
          have hk := hk1 _ _ _ hfr (by omega) (by omega)
          rw [show a + (w.length + 2) = a + w.length + 2 by omega] at hk
          repeat (first | exact endA | refine wkA ?_ | refine opB (fun b => ?_) | refine opA (fun a' c' hc1 hc2 => ?_) | (apply GJ.and; exact rfl; intro hg) | (apply GJ.or; exact rfl; intro hg))
          exact Wk.outS Sup.auto (.refl _) hk
        · rw [hw] at hfr
          have hk := hk2 5 hfr (by omega) (by omega) a' ha'
          repeat (first | exact endA | refine wkA ?_ | refine opB (fun b => ?_) | refine opA (fun a' c' hc1 hc2 => ?_) | (apply GJ.and; exact rfl; intro hg) | (apply GJ.or; exact rfl; intro hg))
          exact Wk.outS Sup.auto (.refl _) hk
      · rw [if_neg h47] at hfr
        repeat (first | exact endA | refine wkA ?_ | refine opB (fun b => ?_) | refine opA (fun a' c' hc1 hc2 => ?_) | (apply GJ.and; exact rfl; intro hg) | (apply GJ.or; exact rfl; intro hg))
        refine fields_ok hS (fun bf => ?_)
        have hsl := signs_len
        have hs14 : signsL.length = 14 := rfl
        have hnn : (∀ i, i < 14 → (signsL[i]!).isPrefixOf (tx.drop a) = false) → signsL.find? (·.isPrefixOf (tx.drop a)) = none := fun h => by
          refine find_none fun x hx => ?_
          obtain ⟨i, hi, rfl⟩ := List.getElem_of_mem hx
          have := h i hi
          rwa [getElem!_pos signsL i hi] at this
        have hff : ∀ j, j < 14 → (signsL[j]!).isPrefixOf (tx.drop a) = true → (∀ i, i < j → (signsL[i]!).isPrefixOf (tx.drop a) = false) → signsL.find? (·.isPrefixOf (tx.drop a)) = some signsL[j]! := fun j hj h1 h2 => find_at (by omega) h1 h2
        generalize signsL.find? (·.isPrefixOf (tx.drop a)) = fo at hfr hnn hff
        generalize signsL = sl at *
        have hml : (List.map str sl).length = 14 := by rw [List.length_map]; exact hs14
        repeat (first | exact endA | refine wkA ?_ | refine opB (fun b => ?_) | refine opA (fun a' c' hc1 hc2 => ?_) | (apply GJ.and; exact rfl; intro hg) | (apply GJ.or; exact rfl; intro hg))
        refine LoopOk.at (ι := Nat) Keep.auto (fun j => [(58, .int .i64 (j : Int))]) (fun j => .sl (some ⟨bf, 0, none⟩) 14 14 9 1 (sl.map str) :: .blk b 40 [.int .i64 0, .int .i64 0, str []] :: .blk p 73 [str tx, .int .i64 (a : Int), o] :: r) (fun j => j ≤ 14 ∧ ∀ i, i < j → (sl[i]!).isPrefixOf (tx.drop a) = false) (fun j => 14 - j) 0 ?_ Sub.auto Sup.auto ?_
        · exact ⟨Nat.zero_le _, fun i hi => absurd hi (by omega)⟩
        rintro j ⟨j1, j2⟩
        dsimp only [List.cons_append, List.nil_append] at j1 j2 ⊢
        by_cases hj : j < 14
        · have hsj := hsl j hj
          have hfj := hff j hj
          have hgm : (sl.map str)[j]? = some (str sl[j]!) := getMap (by omega)
          have hjj : sl[j]! = sl[j]! := rfl
          have hj2 : ∀ i, i < j + 1 → i ≠ j → (sl[i]!).isPrefixOf (tx.drop a) = false := fun i hi hne => j2 i (by omega)
          generalize hsv : sl[j]! = s at hsj hfj hgm
          have hpre : s.isPrefixOf (tx.drop a) = true → s.length ≤ tx.length - a := fun h => by
            have := (List.isPrefixOf_iff_prefix.1 h).length_le
            rwa [List.length_drop] at this
          have ej : sl[((j : Nat) : Int).toNat]! = s := by rw [Int.toNat_natCast]; exact hsv
          repeat (first | exact endA | refine wkA ?_ | refine opB (fun b => ?_) | refine opA (fun a' c' hc1 hc2 => ?_) | (apply GJ.and; exact rfl; intro hg) | (apply GJ.or; exact rfl; intro hg))
          rw [ej, Int.toNat_natCast a]
          refine prefix_ok (by rw [List.length_drop]; omega) (by omega) ?_
          obtain ⟨q, hq⟩ : ∃ q, s.isPrefixOf (tx.drop a) = q := ⟨_, rfl⟩
          rw [hq] at hfj hpre ⊢
          cases q with
          | true =>
            have hpl := hpre rfl
            have hk := hk1 4 s s.length (by rw [hfr, hfj rfl j2]) (by omega) (by omega)
            repeat (first | exact endA | refine wkA ?_ | refine opB (fun b => ?_) | refine opA (fun a' c' hc1 hc2 => ?_) | (apply GJ.and; exact rfl; intro hg) | (apply GJ.or; exact rfl; intro hg))
            exact Wk.outS Sup.auto (.refl _) hk
          | false =>
            repeat (first | exact endA | refine wkA ?_ | refine opB (fun b => ?_) | refine opA (fun a' c' hc1 hc2 => ?_) | (apply GJ.and; exact rfl; intro hg) | (apply GJ.or; exact rfl; intro hg))
            refine Wk.id ⟨j + 1, ⟨rfl, ?_⟩, ?_, Sub.auto, Sup.auto⟩
            all_goals try dsimp only
            · refine ⟨by omega, fun i hi => ?_⟩
              by_cases hij : i = j
              · rw [hij, hsv, hq]
              · exact hj2 i hi hij
            · omega
        · have hk := hk2 100 (by rw [hfr, hnn (fun i hi => j2 i (by omega))]) (by omega) (by omega) a (by omega)
          repeat (first | exact endA | refine wkA ?_ | refine opB (fun b => ?_) | refine opA (fun a' c' hc1 hc2 => ?_) | (apply GJ.and; exact rfl; intro hg) | (apply GJ.or; exact rfl; intro hg))
          exact Wk.outS Sup.auto (.refl _) hk
end
end Go.Proofs.YtepdapdekaiioaaGreatDoor
end
section
/- Contracts of lex: Scan. -/
namespace Go.Proofs.YtepdapdekaiioaaGreatDoor
open Go Go.E
set_option linter.unusedVariables false
set_option linter.unusedSimpArgs false
set_option maxRecDepth 10000
structure TokD where
  kind : Nat
  a : Nat
  text : List UInt8
deriving DecidableEq
def TokD.v (t : TokD) : List Value := tokV t.kind t.a t.text
def toksV (l : List TokD) : List Value := l.flatMap TokD.v
theorem toksV_snoc (l : List TokD) (t : TokD) : toksV (l ++ [t]) = toksV l ++ t.v := by simp [toksV]
theorem toksV_drop : ∀ (l : List TokD) (i : Nat) (t : TokD), l[i]? = some t → ((toksV l).drop (i * 3)).take 3 = t.v
  | [], i, t, h => by simp at h
  | x :: l, 0, t, h => by simp at h; subst h; rfl
  | x :: l, i + 1, t, h => by
    rw [show (i + 1) * 3 = 3 + i * 3 by omega]
    show List.take 3 (List.drop (3 + i * 3) (x.v ++ toksV l)) = _
    rw [← List.drop_drop, List.drop_left' (by rfl)]
    exact toksV_drop l i t (by simpa using h)
def scanF : Nat → Nat → List TokD → List UInt8 → List TokD × Nat × Nat
  | 0, _, _, _ => ([], 0, 0)
  | k + 1, a, out, l => if l.drop (gapD false l) = [] then (out ++ [⟨5, a + gapD false l, []⟩], 0, 0)
    else if out.length = 8192 then ([], a + gapD false l, 2)
    else if (frontD (l.drop (gapD false l))).2.2.2 ≠ 0 then ([], a + gapD false l, (frontD (l.drop (gapD false l))).2.2.2)
    else scanF k (a + gapD false l + (frontD (l.drop (gapD false l))).2.2.1) (out ++ [⟨(frontD (l.drop (gapD false l))).1, a + gapD false l, (frontD (l.drop (gapD false l))).2.1⟩]) ((l.drop (gapD false l)).drop (frontD (l.drop (gapD false l))).2.2.1)
def scanD (tx : List UInt8) : List TokD × Nat × Nat := if 65536 < tx.length then ([], 0, 2) else scanF (tx.length + 1) 0 [] tx
def faultV (code a : Nat) : Value := .agg #[.int .i64 (code : Int), .int .i64 (a : Int)]
section
variable {ro : Ro} {own r : Chs} {K : Value → Ro → Chs → Prop} {g : Chunk → Chs}
set_option maxHeartbeats 4000000 in
theorem scan_ok {tx : List UInt8} (hS : SpOk ro) (hl : tx.length ≤ 100000)
    (hk : ∀ l a code a' c', scanD tx = (l, a, code) → l.length ≤ 8193 → code ≤ 1000 → a ≤ tx.length → l.length ≤ c' → c' ≤ maxLen → K (.tuple #[.slice a' l.length c', faultV code a]) ro (.sl a' l.length c' 40 3 (toksV l) :: own)) :
    CallOk Tryz.prog 9 #[str tx] ro own K := by
  refine CallOk.intro (args := [_]) (rs := [_, _]) T_ok Tryz.func9 Tryz.call9 rfl rfl (by kernel_rfl) rfl rfl ?_
  by_cases hbig : 65536 < tx.length
  · have hk := hk [] 0 2 none 0 (by rw [scanD, if_pos hbig]) (by simp) (by omega) (by omega) (by simp) (Nat.zero_le _)
    repeat (first | exact endA | refine wkA ?_ | refine opB (fun b => ?_) | refine opA (fun a' c' hc1 hc2 => ?_) | (apply GJ.and; exact rfl; intro hg) | (apply GJ.or; exact rfl; intro hg))
    exact Wk.outS (Sup.nilc Sup.auto) (.refl _) hk
  · have hsc : scanD tx = scanF (tx.length + 1) 0 [] tx := by rw [scanD, if_neg hbig]
    repeat (first | exact endA | refine wkA ?_ | refine opB (fun b => ?_) | refine opA (fun a' c' hc1 hc2 => ?_) | (apply GJ.and; exact rfl; intro hg) | (apply GJ.or; exact rfl; intro hg))
    obtain ⟨q, hq⟩ : ∃ q : Nat, q = b := ⟨_, rfl⟩
    subst hq
    obtain ⟨bf, hbf⟩ : ∃ x : Nat, x = b := ⟨_, rfl⟩
    subst hbf
    refine LoopOk.at (ι := Nat × Nat × List TokD × Option Addr × Nat) Keep.auto (fun (k, a, o, ad, cp) => []) (fun (k, a, o, ad, cp) => .sl ad o.length cp 40 3 (toksV o) :: .blk q 73 [str tx, .int .i64 (a : Int), .slice ad o.length cp] :: .blk bf 29 [.int .i64 0, .int .i64 0] :: own) (fun (k, a, o, ad, cp) => a ≤ tx.length ∧ o.length ≤ 8192 ∧ o.length ≤ cp ∧ cp ≤ maxLen ∧ tx.length - a < k ∧ scanF k a o (tx.drop a) = scanD tx) (fun (k, a, o, ad, cp) => tx.length + 1 - a) (tx.length + 1, 0, [], none, 0) ?_ Sub.auto (Sup.nilc Sup.auto) ?_
    · exact ⟨by omega, by simp, by simp, Nat.zero_le _, by omega, by rw [hsc]; rfl⟩
    rintro ⟨k, a, o, ad, cp⟩ ⟨i1, i2, i3, i4, i5, i6⟩
    dsimp only [List.cons_append, List.nil_append] at i1 i2 i3 i4 i5 i6 ⊢
    obtain ⟨k, rfl⟩ : ∃ j, k = j + 1 := ⟨k - 1, by omega⟩
    have hgl := gapD_le (tx.drop a) false
    rw [List.length_drop] at hgl
    rw [scanF] at i6
    have hdd : (tx.drop a).drop (gapD false (tx.drop a)) = tx.drop (a + gapD false (tx.drop a)) := by rw [List.drop_drop]
    rw [hdd] at i6
    repeat (first | exact endA | refine wkA ?_ | refine opB (fun b => ?_) | refine opA (fun a' c' hc1 hc2 => ?_) | (apply GJ.and; exact rfl; intro hg) | (apply GJ.or; exact rfl; intro hg))
    refine CallOk.sup (own0 := .blk q 73 [str tx, .int .i64 (a : Int), .slice ad o.length cp] :: .sl ad o.length cp 40 3 (toksV o) :: .blk bf 29 [.int .i64 0, .int .i64 0] :: own) Sup.auto ?_
    refine gap_ok i1 hl ?_
    obtain ⟨a2, ha2⟩ : ∃ a2, a + gapD false (tx.drop a) = a2 := ⟨_, rfl⟩
    rw [ha2] at i6 ⊢
    by_cases hend : a2 = tx.length
    · have h0 : tx.drop a2 = [] := List.drop_eq_nil_of_le (by omega)
      rw [if_pos h0] at i6
      have hk := hk (o ++ [⟨5, a2, []⟩]) 0 0
      repeat (first | exact endA | refine wkT ?_ | refine opB (fun b => ?_) | refine opA (fun a' c' hc1 hc2 => ?_) | (apply GJ.and; exact rfl; intro hg) | (apply GJ.or; exact rfl; intro hg))
      refine Bs.mk ⟨[.blk q 73 [str tx, .int .i64 (a2 : Int), .slice ad o.length cp]], Sup.auto, ?_⟩
      repeat (first | exact endA | refine wkU ?_ | (show QOk _ _ _ _ _ _ _; refine QOk.build rfl rfl Nf.auto ?_) | (show GJ _ _ _ _ _ _ _; first | with_reducible refine GJ.neF ?_ | with_reducible refine GJ.neT ?_) | (show Br _ _ _; with_reducible refine Br.ne ?_) | refine opB (fun b => ?_) | refine opA (fun a' c' hc1 hc2 => ?_) | (apply GJ.and; exact rfl; intro hg) | (apply GJ.or; exact rfl; intro hg))
      have hk := hk a' c' i6.symm (by simp; omega) (by omega) (by omega) (by simp; exact hc1) hc2
      rw [toksV_snoc, List.length_append] at hk
      exact Wk.outS Sup.auto (.refl _) hk
    · have h0 : tx.drop a2 ≠ [] := fun e => by
        have := congrArg List.length e
        rw [List.length_drop] at this
        simp at this
        omega
      rw [if_neg h0] at i6
      by_cases hmany : o.length = 8192
      · rw [if_pos hmany] at i6
        have hk := hk [] a2 2 none 0 i6.symm (by simp) (by omega) (by omega) (by simp) (Nat.zero_le _)
        repeat (first | exact endA | refine wkA ?_ | refine opB (fun b => ?_) | refine opA (fun a' c' hc1 hc2 => ?_) | (apply GJ.and; exact rfl; intro hg) | (apply GJ.or; exact rfl; intro hg))
        exact Wk.outS (Sup.nilc Sup.auto) (.refl _) hk
      · rw [if_neg hmany] at i6
        repeat (first | exact endA | refine wkA ?_ | refine opB (fun b => ?_) | refine opA (fun a' c' hc1 hc2 => ?_) | (apply GJ.and; exact rfl; intro hg) | (apply GJ.or; exact rfl; intro hg))
        refine CallOk.sup (own0 := .blk q 73 [str tx, .int .i64 (a2 : Int), .slice ad o.length cp] :: .sl ad o.length cp 40 3 (toksV o) :: .blk bf 29 [.int .i64 0, .int .i64 0] :: own) Sup.auto ?_
        refine next_ok hS (by omega) hl (fun kd w n hf hn1 hn2 => ?_) (fun code hf hc1 hc2 a3 ha3 => ?_)
        · rw [hf] at i6
          rw [if_neg (by simp)] at i6
          dsimp only at i6
          rw [List.drop_drop] at i6
          repeat (first | exact endA | refine wkT ?_ | refine opB (fun b => ?_) | refine opA (fun a' c' hc1 hc2 => ?_) | (apply GJ.and; exact rfl; intro hg) | (apply GJ.or; exact rfl; intro hg))
          refine Bs.mk ⟨[.blk b 40 (tokV kd 0 w), .blk q 73 [str tx, .int .i64 ((a2 + n : Nat) : Int), .slice ad o.length cp]], Sup.auto, ?_⟩
          repeat (first | exact endA | refine wkU ?_ | (show QOk _ _ _ _ _ _ _; refine QOk.build rfl rfl Nf.auto ?_) | (show GJ _ _ _ _ _ _ _; first | with_reducible refine GJ.neF ?_ | with_reducible refine GJ.neT ?_) | (show Br _ _ _; with_reducible refine Br.ne ?_) | refine opB (fun b => ?_) | refine opA (fun a' c' hc1 hc2 => ?_) | (apply GJ.and; exact rfl; intro hg) | (apply GJ.or; exact rfl; intro hg))
          rw [show o.length + 1 = (o ++ [(⟨kd, a2, w⟩ : TokD)]).length by simp] at hc1 ⊢
          rw [show flat [.agg #[.int .i64 (kd : Int), .int .i64 (a2 : Int), str w]] = TokD.v ⟨kd, a2, w⟩ from rfl, ← toksV_snoc]
          repeat (first | exact endA | refine wkT ?_ | refine opB (fun b => ?_) | refine opA (fun a' c' hc1 hc2 => ?_) | (apply GJ.and; exact rfl; intro hg) | (apply GJ.or; exact rfl; intro hg))
          refine Wk.id ⟨(k, a2 + n, o ++ [⟨kd, a2, w⟩], a', c'), ⟨rfl, ?_⟩, ?_, Sub.auto, Sup.auto⟩
          all_goals try dsimp only
          · exact ⟨hn1, by simp; omega, hc1, hc2, by omega, i6⟩
          · omega
        · rw [hf] at i6
          rw [if_pos hc1] at i6
          have hk := hk [] a2 code none 0 i6.symm (by simp) hc2 (by omega) (by simp) (Nat.zero_le _)
          repeat (first | exact endA | refine wkA ?_ | refine opB (fun b => ?_) | refine opA (fun a' c' hc1 hc2 => ?_) | (apply GJ.and; exact rfl; intro hg) | (apply GJ.or; exact rfl; intro hg))
          exact Wk.outS (Sup.nilc Sup.auto) (.refl _) hk
end
end Go.Proofs.YtepdapdekaiioaaGreatDoor
end
section
/- Contracts: a Builder grows; strings.Join with a blank; lex: Show, Join. -/
namespace Go.Proofs.YtepdapdekaiioaaGreatDoor
open Go Go.E
set_option linter.unusedVariables false
set_option linter.unusedSimpArgs false
set_option maxRecDepth 10000
def showD (k : Nat) (x : List UInt8) : List UInt8 := if k = 3 then 47 :: (x ++ [47]) else x
def joinD : List (List UInt8) → List UInt8
  | [] => []
  | x :: r => x ++ r.flatMap (fun y => 32 :: y)
section
variable {ro : Ro} {own r : Chs} {K : Value → Ro → Chs → Prop} {g : Chunk → Chs}
theorem show_ok {k a : Nat} {x : List UInt8} (hl : x.length ≤ 1000000) (hk : K (str (showD k x)) ro own) : CallOk Tryz.prog 31 #[.agg (tokV k a x).toArray] ro own K := by
  refine CallOk.intro (args := [_]) (rs := [_]) T_ok Tryz.func31 Tryz.call31 rfl rfl (by kernel_rfl) rfl rfl ?_
  by_cases h : k = 3
  · rw [showD, if_pos h] at hk
    have h1 : ([47] : List UInt8).length = 1 := rfl
    have h2 : ([47] ++ x : List UInt8).length = x.length + 1 := by simp
    repeat (first | exact endA | refine wkA ?_ | refine opB (fun b => ?_) | refine opA (fun a' c' hc1 hc2 => ?_) | (apply GJ.and; exact rfl; intro hg) | (apply GJ.or; exact rfl; intro hg))
    exact Wk.outV Sup.auto hk rfl
  · rw [showD, if_neg h] at hk
    repeat (first | exact endA | refine wkA ?_ | refine opB (fun b => ?_) | refine opA (fun a' c' hc1 hc2 => ?_) | (apply GJ.and; exact rfl; intro hg) | (apply GJ.or; exact rfl; intro hg))
    exact Wk.outS Sup.auto (.refl _) hk
theorem bgrow1_ok {p n : Nat} {q : Value} (hn : n ≤ 1000000) (hk : ∀ b c, n ≤ c → c ≤ maxLen → K (.tuple #[]) ro (.blk p 103 [q, .slice (some ⟨b, 0, none⟩) 0 c] :: .sl (some ⟨b, 0, none⟩) 0 c 5 1 [] :: r)) :
    CallOk Tryz.prog 77 #[ptr' p, .int .i64 (n : Int)] ro (.blk p 103 [q, .slice none 0 0] :: r) K := by
  have e0 : (2 * ((0 : Nat) : Int) + (n : Int)) = ((n : Nat) : Int) := by omega
  refine CallOk.intro (args := [_, _]) (rs := []) T_ok Tryz.func77 Tryz.call77 rfl rfl (by kernel_rfl) rfl rfl ?_
  repeat (first | exact endA | refine wkA ?_ | refine opB (fun b => ?_) | refine opA (fun a' c' hc1 hc2 => ?_) | (apply GJ.and; exact rfl; intro hg) | (apply GJ.or; exact rfl; intro hg))
  rw [e0]
  refine CallOk.makeNoZero (ps := #[3]) (t := 101) Tryz.func101 (by kernel_rfl) (by kernel_rfl) (by kernel_rfl) (by kernel_rfl) Tryz.underlying101 (by omega) (fun b c h1 h2 => ?_)
  have hc0 : cutA (some (⟨b, 0, none⟩ : Addr)) (Int.toNat 0) c 1 = some ⟨b, 0, none⟩ := cutA_zero _ _ _
  repeat (first | exact endA | refine wkA ?_ | refine opB (fun b => ?_) | refine opA (fun a' c' hc1 hc2 => ?_) | (apply GJ.and; exact rfl; intro hg) | (apply GJ.or; exact rfl; intro hg))
  try rw [hc0]
  refine OpOk.copy0 (s := 0) (z1 := 0) (z2 := []) rfl rfl Tryz.underlying101 (by kernel_rfl) (by rfl) ?_
  repeat (first | exact endA | refine wkA ?_ | refine opB (fun b => ?_) | refine opA (fun a' c' hc1 hc2 => ?_) | (apply GJ.and; exact rfl; intro hg) | (apply GJ.or; exact rfl; intro hg))
  exact Wk.outS Sup.auto (.refl _) (hk b c h1 h2)
theorem bgrow_ok {p n : Nat} {q : Option Addr} (hq : BQ p q) (hn : n ≤ 1000000) (h1 : 1 ≤ n) (hk : ∀ b c, n ≤ c → c ≤ maxLen → K (.tuple #[]) ro (.blk p 103 [ptr' p, .slice (some ⟨b, 0, none⟩) 0 c] :: .sl (some ⟨b, 0, none⟩) 0 c 5 1 [] :: r)) :
    CallOk Tryz.prog 53 #[ptr' p, .int .i64 (n : Int)] ro (.blk p 103 [.pointer q, .slice none 0 0] :: r) K := by
  refine CallOk.intro (args := [_, _]) (rs := []) T_ok Tryz.func53 Tryz.call53 rfl rfl (by kernel_rfl) rfl rfl ?_
  repeat (first | exact endA | refine wkA ?_ | refine opB (fun b => ?_) | refine opA (fun a' c' hc1 hc2 => ?_) | (apply GJ.and; exact rfl; intro hg) | (apply GJ.or; exact rfl; intro hg))
  refine copy_ok hq ?_
  repeat (first | exact endA | refine wkA ?_ | refine opB (fun b => ?_) | refine opA (fun a' c' hc1 hc2 => ?_) | (apply GJ.and; exact rfl; intro hg) | (apply GJ.or; exact rfl; intro hg))
  refine SeqOk.pass ?_
  repeat (first | exact endA | refine wkA ?_ | refine opB (fun b => ?_) | refine opA (fun a' c' hc1 hc2 => ?_) | (apply GJ.and; exact rfl; intro hg) | (apply GJ.or; exact rfl; intro hg))
  refine bgrow1_ok hn (fun b c h2 h3 => ?_)
  repeat (first | exact endA | refine wkA ?_ | refine opB (fun b => ?_) | refine opA (fun a' c' hc1 hc2 => ?_) | (apply GJ.and; exact rfl; intro hg) | (apply GJ.or; exact rfl; intro hg))
  exact Wk.outS Sup.auto (.refl _) (hk b c h2 h3)
end
end Go.Proofs.YtepdapdekaiioaaGreatDoor
end
section
/- Contracts: strings.Join with a blank. -/
namespace Go.Proofs.YtepdapdekaiioaaGreatDoor
open Go Go.E
set_option linter.unusedVariables false
set_option linter.unusedSimpArgs false
set_option maxRecDepth 10000
/-- The sum of the texts' lengths. -/
def sumL (l : List (List UInt8)) : Nat := (l.map List.length).sum
theorem sumL_take {l : List (List UInt8)} {i : Nat} (h : i < l.length) : sumL (l.take (i + 1)) = sumL (l.take i) + (l[i]'h).length := by
  rw [sumL, sumL, List.take_succ_eq_append_getElem h, List.map_append, List.sum_append]; rfl
theorem sumL_take_le (l : List (List UInt8)) (i : Nat) : sumL (l.take i) ≤ sumL l := by
  have e : sumL (l.take i ++ l.drop i) = sumL (l.take i) + sumL (l.drop i) := by rw [sumL, List.map_append, List.sum_append]; rfl
  rw [List.take_append_drop] at e
  omega
theorem sumL_get_le {l : List (List UInt8)} {i : Nat} (h : i < l.length) : (l[i]'h).length ≤ sumL l := by
  have h1 := sumL_take h
  have h2 := sumL_take_le l (i + 1)
  omega
theorem joinD_snoc {l : List (List UInt8)} (h : l ≠ []) (y : List UInt8) : joinD (l ++ [y]) = joinD l ++ 32 :: y := by
  cases l with
  | nil => exact absurd rfl h
  | cons x r => simp [joinD]
theorem joinD_take {l : List (List UInt8)} {i : Nat} (h : i < l.length) (h0 : 0 < i) : joinD (l.take (i + 1)) = joinD (l.take i) ++ 32 :: l[i]'h := by
  rw [List.take_succ_eq_append_getElem h, joinD_snoc]
  intro e
  have := congrArg List.length e
  rw [List.length_take, List.length_nil] at this
  omega
theorem joinD_len : ∀ l : List (List UInt8), (joinD l).length ≤ sumL l + l.length
  | [] => by simp [joinD]
  | x :: r => by
    have : ∀ r : List (List UInt8), (r.flatMap (fun y => 32 :: y)).length = sumL r + r.length := fun r => by
      induction r with
      | nil => rfl
      | cons y r ih => rw [List.flatMap_cons, List.length_append, ih]; simp [sumL]; omega
    rw [joinD, List.length_append, this]; simp [sumL]; omega
section
variable {ro : Ro} {own r : Chs} {K : Value → Ro → Chs → Prop} {g : Chunk → Chs}
set_option maxHeartbeats 4000000 in
theorem sjoin_ok {a : Option Addr} {n c : Nat} {l : List (List UInt8)} (hn : n = l.length) (hnc : n ≤ c) (hcm : c ≤ maxLen) (hs : sumL l + l.length ≤ 50000) (hk : K (str (joinD l)) ro (.sl a n c 9 1 (l.map str) :: r)) :
    CallOk Tryz.prog 32 #[.slice a n c, str [32]] ro (.sl a n c 9 1 (l.map str) :: r) K := by
  subst hn
  have h1 : ([32] : List UInt8).length = 1 := rfl
  refine CallOk.intro (args := [_, _]) (rs := [_]) T_ok Tryz.func32 Tryz.call32 rfl rfl (by kernel_rfl) rfl rfl ?_
  by_cases h0 : l.length = 0
  · obtain rfl := List.eq_nil_of_length_eq_zero h0
    repeat (first | exact endA | refine wkA ?_ | refine opB (fun b => ?_) | refine opA (fun a' c' hc1 hc2 => ?_) | (apply GJ.and; exact rfl; intro hg) | (apply GJ.or; exact rfl; intro hg))
    exact Wk.outS Sup.auto (.refl _) hk
  by_cases h2 : l.length = 1
  · obtain ⟨x, rfl⟩ := List.length_eq_one_iff.mp h2
    repeat (first | exact endA | refine wkA ?_ | refine opB (fun b => ?_) | refine opA (fun a' c' hc1 hc2 => ?_) | (apply GJ.and; exact rfl; intro hg) | (apply GJ.or; exact rfl; intro hg))
    have e : joinD [x] = x := by simp [joinD]
    rw [e] at hk
    exact Wk.outV Sup.auto hk rfl
  repeat (first | exact endA | refine wkA ?_ | refine opB (fun b => ?_) | refine opA (fun a' c' hc1 hc2 => ?_) | (apply GJ.and; exact rfl; intro hg) | (apply GJ.or; exact rfl; intro hg))
  refine SeqOk.pass ?_
  repeat (first | exact endA | refine wkA ?_ | refine opB (fun b => ?_) | refine opA (fun a' c' hc1 hc2 => ?_) | (apply GJ.and; exact rfl; intro hg) | (apply GJ.or; exact rfl; intro hg))
  refine SeqOk.pass ?_
  repeat (first | exact endA | refine wkA ?_ | refine opB (fun b => ?_) | refine opA (fun a' c' hc1 hc2 => ?_) | (apply GJ.and; exact rfl; intro hg) | (apply GJ.or; exact rfl; intro hg))
  have hq1 : (9223372036854775807 : Int) / ((l.length : Int) - 1) ≤ 9223372036854775807 := Int.ediv_le_self _ (by omega)
  have hq2 : (100 : Int) ≤ 9223372036854775807 / ((l.length : Int) - 1) := Int.le_ediv_of_mul_le (by omega) (by omega)
  refine ⟨⟨by omega, by omega, hq1⟩, ?_⟩
  repeat (first | exact endA | refine wkA ?_ | refine opB (fun b => ?_) | refine opA (fun a' c' hc1 hc2 => ?_) | (apply GJ.and; exact rfl; intro hg) | (apply GJ.or; exact rfl; intro hg))
  have hm : ((([32] : List UInt8).length : Nat) : Int) * ((l.length : Int) - 1) = (l.length : Int) - 1 := by simp
  rw [hm]
  refine ⟨by omega, ?_⟩
  try rw [hm]
  repeat (first | exact endA | refine wkA ?_ | refine opB (fun b => ?_) | refine opA (fun a' c' hc1 hc2 => ?_) | (apply GJ.and; exact rfl; intro hg) | (apply GJ.or; exact rfl; intro hg))
  refine LoopOk.at (ι := Nat × Int) Keep.auto (fun (i, s) => [(41, .int .i64 (i : Int)), (5, .int .i64 s)]) (fun (i, s) => .sl a l.length c 9 1 (l.map str) :: r) (fun (i, s) => i ≤ l.length ∧ s = (l.length : Int) - 1 + ((sumL (l.take i) : Nat) : Int)) (fun (i, s) => l.length - i) (0, (0 : Int) + ((l.length : Int) - 1)) ?_ Sub.auto Sup.auto ?_
  · exact ⟨by omega, by simp [sumL]⟩
  rintro ⟨i, s⟩ ⟨i1, i2⟩
  dsimp only [List.cons_append, List.nil_append] at i1 i2 ⊢
  have hle := sumL_take_le l i
  by_cases hi : i < l.length
  · have hst := sumL_take hi
    have hgl := sumL_get_le hi
    have eg : l[((i : Int)).toNat]! = l[i] := by simp [hi]
    rw [← eg] at hst hgl
    obtain ⟨y, hy⟩ : ∃ y, l[((i : Int)).toNat]! = y := ⟨_, rfl⟩
    rw [hy] at hst hgl
    repeat (first | exact endA | refine wkA ?_ | refine opB (fun b => ?_) | refine opA (fun a' c' hc1 hc2 => ?_) | (apply GJ.and; exact rfl; intro hg) | (apply GJ.or; exact rfl; intro hg))
    refine SeqOk.pass ?_
    rw [hy]
    repeat (first | exact endA | refine wkA ?_ | refine opB (fun b => ?_) | refine opA (fun a' c' hc1 hc2 => ?_) | (apply GJ.and; exact rfl; intro hg) | (apply GJ.or; exact rfl; intro hg))
    refine Wk.id ⟨(i + 1, s + ((y.length : Nat) : Int)), ⟨rfl, ?_⟩, ?_, Sub.auto, Sup.auto⟩
    all_goals try dsimp only
    · exact ⟨by omega, by omega⟩
    · omega
  · obtain rfl : i = l.length := by omega
    rw [List.take_length] at i2
    obtain ⟨N, rfl⟩ : ∃ N : Nat, s = (N : Int) := ⟨(l.length - 1) + sumL l, by omega⟩
    obtain ⟨x, m, rfl⟩ : ∃ x m, l = x :: m := by
      cases l with
      | nil => simp at h0
      | cons x m => exact ⟨x, m, rfl⟩
    have hxl : x.length ≤ sumL (x :: m) := sumL_get_le (l := x :: m) (i := 0) (Nat.succ_pos _)
    repeat (first | exact endA | refine wkA ?_ | refine opB (fun b => ?_) | refine opA (fun a' c' hc1 hc2 => ?_) | (apply GJ.and; exact rfl; intro hg) | (apply GJ.or; exact rfl; intro hg))
    refine bgrow_ok (.inl rfl) (by simp only [List.length_cons] at i2 h2 hs; omega) (by simp only [List.length_cons] at i2 h2; omega) (fun b2 c2 h3 h4 => ?_)
    repeat (first | exact endA | refine wkA ?_ | refine opB (fun b => ?_) | refine opA (fun a' c' hc1 hc2 => ?_) | (apply GJ.and; exact rfl; intro hg) | (apply GJ.or; exact rfl; intro hg))
    refine wstr_ok (l := []) (m := x) (.inr rfl) rfl ⟨by simp, by omega⟩ (fun a3 c3 hc3 hc4 => ?_)
    rw [List.nil_append]
    rw [Nat.zero_add x.length] at hc3 ⊢
    repeat (first | exact endA | refine wkA ?_ | refine opB (fun b => ?_) | refine opA (fun a' c' hc1 hc2 => ?_) | (apply GJ.and; exact rfl; intro hg) | (apply GJ.or; exact rfl; intro hg))
    refine LoopOk.at (ι := Nat × List UInt8 × Option Addr × Nat) Keep.auto (fun (j, w, ad, cp) => [(65, .int .i64 (j : Int))]) (fun (j, w, ad, cp) => .blk b 103 [ptr' b, .slice ad w.length cp] :: .sl ad w.length cp 5 1 (w.map u8) :: .sl a (x :: m).length c 9 1 ((x :: m).map str) :: r) (fun (j, w, ad, cp) => j ≤ m.length ∧ w = joinD ((x :: m).take (j + 1)) ∧ w.length ≤ cp) (fun (j, w, ad, cp) => m.length - j) (0, x, a3, c3) ?_ Sub.auto Sup.auto ?_
    · exact ⟨by omega, by simp [joinD], hc3⟩
    rintro ⟨j, w, ad, cp⟩ ⟨k1, k2, k3⟩
    dsimp only [List.cons_append, List.nil_append] at k1 k2 k3 ⊢
    have hjl := joinD_len ((x :: m).take (j + 1))
    rw [← k2, List.length_take] at hjl
    have hjs := sumL_take_le (x :: m) (j + 1)
    have hwl : w.length ≤ 50000 := by omega
    have hcl : (x :: m).length = m.length + 1 := rfl
    have hro : Rds ro (.blk b 103 [ptr' b, .slice ad w.length cp] :: .sl ad w.length cp 5 1 (w.map u8) :: .sl a (x :: m).length c 9 1 ((x :: m).map str) :: r) a (x :: m).length c 1 ((x :: m).map str) := Rds.hasSl hnc hcm (by simp)
    have hro3 : Rds ro (.blk b 103 [ptr' b, .slice ad w.length cp] :: .sl ad w.length cp 5 1 (w.map u8) :: .sl a (x :: m).length c 9 1 ((x :: m).map str) :: r) (cutA a (1 : Int).toNat c 1) ((((x :: m).length : Nat) : Int).toNat - (1 : Int).toNat) (c - (1 : Int).toNat) 1 (m.map str) := by
      have h := hro.cutI (lo := 1) (hi := (((x :: m).length : Nat) : Int)) (by omega)
      have e : ((((x :: m).map str).drop ((1 : Int).toNat * 1)).take (((((x :: m).length : Nat) : Int).toNat - (1 : Int).toNat) * 1)) = m.map str := by
        simp
        exact List.take_of_length_le (by simp)
      rw [e] at h
      exact h
    by_cases hj : j < m.length
    · have eg : m[((j : Int)).toNat]! = m[j] := by simp [hj]
      have hjn := joinD_take (l := x :: m) (i := j + 1) (by omega) (by omega)
      have hgl := sumL_get_le (l := x :: m) (i := j + 1) (by omega)
      have e2 : (x :: m)[j + 1]'(by omega) = m[j] := rfl
      rw [e2, ← eg] at hjn hgl
      rw [← k2] at hjn
      obtain ⟨y, hy⟩ : ∃ y, m[((j : Int)).toNat]! = y := ⟨_, rfl⟩
      rw [hy] at hjn hgl
      repeat (first | exact endA | refine wkA ?_ | refine opB (fun b => ?_) | refine opA (fun a' c' hc1 hc2 => ?_) | (apply GJ.and; exact rfl; intro hg) | (apply GJ.or; exact rfl; intro hg))
      refine wstr_ok (l := w) (m := [32]) (.inr rfl) rfl ⟨by omega, by omega⟩ (fun a4 c4 hc5 hc6 => ?_)
      rw [← List.length_append]
      repeat (first | exact endA | refine wkA ?_ | refine opB (fun b => ?_) | refine opA (fun a' c' hc1 hc2 => ?_) | (apply GJ.and; exact rfl; intro hg) | (apply GJ.or; exact rfl; intro hg))
      rw [hy]
      refine wstr_ok (l := w ++ [32]) (m := y) (.inr rfl) rfl ⟨by simp; omega, by omega⟩ (fun a5 c5 hc7 hc8 => ?_)
      rw [← List.length_append] at hc7 ⊢
      repeat (first | exact endA | refine wkA ?_ | refine opB (fun b => ?_) | refine opA (fun a' c' hc1 hc2 => ?_) | (apply GJ.and; exact rfl; intro hg) | (apply GJ.or; exact rfl; intro hg))
      rw [List.append_assoc, List.cons_append, List.nil_append] at hc7 ⊢
      refine Wk.id ⟨(j + 1, w ++ 32 :: y, a5, c5), ⟨rfl, ?_⟩, ?_, Sub.auto, Sup.auto⟩
      all_goals try dsimp only
      · exact ⟨by omega, hjn.symm, hc7⟩
      · omega
    · obtain rfl : j = m.length := by omega
      rw [List.take_of_length_le (by simp)] at k2
      subst k2
      have hne : joinD (x :: m) ≠ [] := by
        cases m with
        | nil => simp at h2
        | cons y m => simp [joinD]
      repeat (first | exact endA | refine wkA ?_ | refine opB (fun b => ?_) | refine opA (fun a' c' hc1 hc2 => ?_) | (apply GJ.and; exact rfl; intro hg) | (apply GJ.or; exact rfl; intro hg))
      refine bstr_ok rfl hne k3 (by omega) ?_
      repeat (first | exact endA | refine wkA ?_ | refine opB (fun b => ?_) | refine opA (fun a' c' hc1 hc2 => ?_) | (apply GJ.and; exact rfl; intro hg) | (apply GJ.or; exact rfl; intro hg))
      exact Wk.outS Sup.auto (.refl _) hk
end
end Go.Proofs.YtepdapdekaiioaaGreatDoor
end
section
/- Contracts of lex: Join, Same. -/
namespace Go.Proofs.YtepdapdekaiioaaGreatDoor
open Go Go.E
set_option linter.unusedVariables false
set_option linter.unusedSimpArgs false
set_option maxRecDepth 10000
def showsD (l : List TokD) : List (List UInt8) := l.filterMap fun t => if t.kind = 5 then none else some (showD t.kind t.text)
theorem showsD_snoc (l : List TokD) (t : TokD) : showsD (l ++ [t]) = if t.kind = 5 then showsD l else showsD l ++ [showD t.kind t.text] := by
  unfold showsD
  rw [List.filterMap_append]
  by_cases h : t.kind = 5
  · simp [h]
  · simp [h]
def keyD (t : TokD) : Nat × List UInt8 := (t.kind, t.text)
theorem showsD_len (l : List TokD) : (showsD l).length ≤ l.length := List.length_filterMap_le _ _
section
variable {ro : Ro} {own r : Chs} {K : Value → Ro → Chs → Prop} {g : Chunk → Chs}
set_option maxHeartbeats 4000000 in
theorem ljoin_ok {a : Option Addr} {n c : Nat} {l : List TokD} (hr : Rds ro own a n c 3 (toksV l)) (hn : n = l.length) (hb : sumL (showsD l) + l.length ≤ 50000) (ht : ∀ t ∈ l, t.text.length ≤ 1000000) (hk : K (str (joinD (showsD l))) ro own) :
    CallOk Tryz.prog 13 #[.slice a n c] ro own K := by
  subst hn
  refine CallOk.intro (args := [_]) (rs := [_]) T_ok Tryz.func13 Tryz.call13 rfl rfl (by kernel_rfl) rfl rfl ?_
  repeat (first | exact endA | refine wkA ?_ | refine opB (fun b => ?_) | refine opA (fun a' c' hc1 hc2 => ?_) | (apply GJ.and; exact rfl; intro hg) | (apply GJ.or; exact rfl; intro hg))
  refine LoopOk.at (ι := Nat × List (List UInt8) × Option Addr × Nat) Keep.auto (fun (i, w, ad, cp) => [(8, .int .i64 (i : Int)), (3, .slice ad w.length cp)]) (fun (i, w, ad, cp) => .sl ad w.length cp 9 1 (w.map str) :: own) (fun (i, w, ad, cp) => i ≤ l.length ∧ w = showsD (l.take i) ∧ w.length ≤ cp ∧ cp ≤ maxLen) (fun (i, w, ad, cp) => l.length - i) (0, [], none, 0) ?_ Sub.auto (Sup.nilc Sup.auto) ?_
  · exact ⟨by omega, rfl, by simp, Nat.zero_le _⟩
  rintro ⟨i, w, ad, cp⟩ ⟨i1, i2, i3, i4⟩
  dsimp only [List.cons_append, List.nil_append] at i1 i2 i3 i4 ⊢
  by_cases hi : i < l.length
  · obtain ⟨t, hti⟩ : ∃ t, l[i]? = some t := ⟨_, List.getElem?_eq_getElem hi⟩
    have htk : l.take (i + 1) = l.take i ++ [t] := by rw [List.take_add_one, hti]; rfl
    have htl := ht t (List.mem_of_getElem? hti)
    have hwl := showsD_len (l.take i)
    rw [← i2, List.length_take] at hwl
    have hsn := showsD_snoc (l.take i) t
    rw [← htk, ← i2] at hsn
    repeat (first | exact endA | refine wkA ?_ | refine opB (fun b => ?_) | refine opA (fun a' c' hc1 hc2 => ?_) | (apply GJ.and; exact rfl; intro hg) | (apply GJ.or; exact rfl; intro hg))
    refine SeqOk.pass ?_
    repeat (first | exact endA | refine wkA ?_ | refine opB (fun b => ?_) | refine opA (fun a' c' hc1 hc2 => ?_) | (apply GJ.and; exact rfl; intro hg) | (apply GJ.or; exact rfl; intro hg))
    refine OpOk.loadRow rfl rfl (LdN.atR hr (toksV_drop _ _ _ hti) (by omega)) rfl ?_
    obtain ⟨k, ta, tx⟩ := t
    dsimp only [TokD.v] at htl hsn ⊢
    by_cases hk5 : k = 5
    · subst hk5
      rw [if_pos rfl] at hsn
      repeat (first | exact endA | refine wkA ?_ | refine opB (fun b => ?_) | refine opA (fun a' c' hc1 hc2 => ?_) | (apply GJ.and; exact rfl; intro hg) | (apply GJ.or; exact rfl; intro hg))
      refine Wk.id ⟨(i + 1, w, ad, cp), ⟨rfl, ?_⟩, ?_, Sub.auto, Sup.auto⟩
      all_goals try dsimp only
      · exact ⟨by omega, hsn.symm, i3, i4⟩
      · omega
    · rw [if_neg hk5] at hsn
      repeat (first | exact endA | refine wkA ?_ | refine opB (fun b => ?_) | refine opA (fun a' c' hc1 hc2 => ?_) | (apply GJ.and; exact rfl; intro hg) | (apply GJ.or; exact rfl; intro hg))
      refine show_ok htl ?_
      repeat (first | exact endA | refine wkA ?_ | refine opB (fun b => ?_) | refine opA (fun a' c' hc1 hc2 => ?_) | (apply GJ.and; exact rfl; intro hg) | (apply GJ.or; exact rfl; intro hg))
      rw [show w.length + 1 = (w ++ [showD k tx]).length by simp] at hc1 ⊢
      rw [show w.map str ++ [str (showD k tx)] = (w ++ [showD k tx]).map str by simp]
      refine Wk.id ⟨(i + 1, w ++ [showD k tx], a', c'), ⟨rfl, ?_⟩, ?_, Sub.auto, Sup.auto⟩
      all_goals try dsimp only
      · exact ⟨by omega, hsn.symm, hc1, by assumption⟩
      · omega
  · obtain rfl : i = l.length := by omega
    rw [List.take_length] at i2
    subst i2
    repeat (first | exact endA | refine wkA ?_ | refine opB (fun b => ?_) | refine opA (fun a' c' hc1 hc2 => ?_) | (apply GJ.and; exact rfl; intro hg) | (apply GJ.or; exact rfl; intro hg))
    refine sjoin_ok rfl i3 i4 (by have := showsD_len l; omega) ?_
    repeat (first | exact endA | refine wkA ?_ | refine opB (fun b => ?_) | refine opA (fun a' c' hc1 hc2 => ?_) | (apply GJ.and; exact rfl; intro hg) | (apply GJ.or; exact rfl; intro hg))
    exact Wk.outS Sup.auto (.refl _) hk
end
end Go.Proofs.YtepdapdekaiioaaGreatDoor
end
section
/- The plain laws of the scanner: nothing is lost; there and back; two texts. No program. -/
namespace Go.Proofs.YtepdapdekaiioaaGreatDoor
open Go Go.E
set_option linter.unusedVariables false
set_option linter.unusedSimpArgs false
set_option maxRecDepth 10000
theorem head_nil {p : UInt8 → Bool} {y : List UInt8} (h : ∀ u, y.head? = some u → p u = false) : y.takeWhile p = [] := by
  cases y with
  | nil => rfl
  | cons u y => rw [List.takeWhile_cons, h u rfl]; rfl
theorem tw_all {p : UInt8 → Bool} (l : List UInt8) : ∀ u ∈ l.takeWhile p, p u = true := fun u hu => by
  induction l with
  | nil => simp at hu
  | cons x l ih =>
    rw [List.takeWhile_cons] at hu
    split at hu
    · rcases List.mem_cons.1 hu with rfl | h
      · assumption
      · exact ih h
    · simp at hu
theorem tw_app {p : UInt8 → Bool} {w y : List UInt8} (h : ∀ u ∈ w, p u = true) (hy : ∀ u, y.head? = some u → p u = false) : (w ++ y).takeWhile p = w := by
  rw [List.takeWhile_append_of_pos h, head_nil hy, List.append_nil]
theorem tw_drop {p : UInt8 → Bool} (l : List UInt8) : l.takeWhile p ++ l.drop (l.takeWhile p).length = l := by
  induction l with
  | nil => rfl
  | cons x l ih =>
    rw [List.takeWhile_cons]
    split
    · rw [List.length_cons, List.drop_succ_cons, List.cons_append, ih]
    · rfl
/-- What a token's text is read as, alone and before a blank. -/
structure Front (l : List UInt8) (k : Nat) (w : List UInt8) (n : Nat) : Prop where
  len : n = (showD k w).length
  pos : 1 ≤ n
  five : k ≠ 5
  app : showD k w ++ l.drop n = l
  again : ∀ y : List UInt8, (∀ u, y.head? = some u → u.toNat = 32) → frontD (showD k w ++ y) = (k, w, n, 0)
  gap : ∀ y : List UInt8, gapD false (showD k w ++ y) = 0
theorem gap_zero {c : UInt8} (r : List UInt8) (h1 : c.toNat ≠ 10) (h2 : c.toNat ≠ 32) (h3 : c.toNat ≠ 9) (h4 : c.toNat ≠ 13) (h5 : c.toNat ≠ 35) : gapD false (c :: r) = 0 := by
  rw [gapD, if_neg h1, if_neg (by simp [h2, h3, h4]), if_neg h5]
theorem letB_rng {u : UInt8} (h : letB u = true) : 65 ≤ u.toNat := by
  unfold letB at h
  simp at h
  omega
theorem digB_rng {u : UInt8} (h : digB u = true) : 48 ≤ u.toNat := by
  unfold digB at h
  simp at h
  omega
theorem word_32 {u : UInt8} (h : u.toNat = 32 ∨ u.toNat = 10) : wordB u = false := by
  unfold wordB letB digB
  simp
  omega
theorem dig_32 {u : UInt8} (h : u.toNat = 32 ∨ u.toNat = 10) : digB u = false := by
  unfold digB
  simp
  omega
theorem sign_front : ∀ s ∈ signsL, ∀ y, frontD (s ++ y) = (4, s, s.length, 0) ∧ gapD false (s ++ y) = 0 := by
  intro s hs y
  simp only [signsL, List.mem_cons, List.not_mem_nil, or_false] at hs
  rcases hs with rfl | rfl | rfl | rfl | rfl | rfl | rfl | rfl | rfl | rfl | rfl | rfl | rfl | rfl <;> exact ⟨rfl, gap_zero _ (by decide) (by decide) (by decide) (by decide) (by decide)⟩
theorem frontOf {l : List UInt8} {k : Nat} {w : List UInt8} {n : Nat} (h : frontD l = (k, w, n, 0)) : Front l k w n := by
  cases l with
  | nil => simp [frontD] at h
  | cons c r =>
    rw [frontD] at h
    by_cases h1 : letB c = true
    · rw [if_pos h1] at h
      split at h
      · simp at h
      rename_i h24
      obtain ⟨rfl, hw, hn⟩ : 1 = k ∧ (c :: r).takeWhile wordB = w ∧ ((c :: r).takeWhile wordB).length = n := by simpa using h
      rw [hw] at hn h24
      have hs : showD 1 w = w := rfl
      have hc : wordB c = true := by unfold wordB; rw [h1]; rfl
      have hall : ∀ u ∈ w, wordB u = true := fun u hu => tw_all _ u (hw ▸ hu)
      obtain ⟨w', hw'⟩ : ∃ w', w = c :: w' := by rw [← hw, List.takeWhile_cons, hc]; exact ⟨_, rfl⟩
      have hr := letB_rng h1
      refine ⟨by rw [hs, hn], by rw [← hn, hw']; simp, by decide, ?_, fun y hy => ?_, fun y => ?_⟩
      · rw [hs, ← hn, ← hw]; exact tw_drop _
      · rw [hs]
        have ht : (w ++ y).takeWhile wordB = w := tw_app hall (fun u hu => word_32 (.inl (hy u hu)))
        have : frontD (w ++ y) = if letB c = true then (if 24 < ((w ++ y).takeWhile wordB).length then (0, [], 0, 2) else (1, (w ++ y).takeWhile wordB, ((w ++ y).takeWhile wordB).length, 0)) else frontD (w ++ y) := by
          rw [if_pos h1, hw', List.cons_append, frontD, if_pos h1]
        rw [this, if_pos h1, ht, if_neg h24, hn]
      · rw [hs, hw', List.cons_append]
        exact gap_zero _ (by omega) (by omega) (by omega) (by omega) (by omega)
    rw [if_neg h1] at h
    by_cases h2 : digB c = true
    · rw [if_pos h2] at h
      split at h
      · simp at h
      rename_i h20
      split at h
      · simp at h
      rename_i h0
      obtain ⟨rfl, hw, hn⟩ : 2 = k ∧ (c :: r).takeWhile digB = w ∧ ((c :: r).takeWhile digB).length = n := by simpa using h
      rw [hw] at hn h20 h0
      have hs : showD 2 w = w := rfl
      have hall : ∀ u ∈ w, digB u = true := fun u hu => tw_all _ u (hw ▸ hu)
      obtain ⟨w', hw'⟩ : ∃ w', w = c :: w' := by rw [← hw, List.takeWhile_cons, h2]; exact ⟨_, rfl⟩
      have hr := digB_rng h2
      have hr2 : c.toNat ≤ 57 := by unfold digB at h2; simp at h2; omega
      refine ⟨by rw [hs, hn], by rw [← hn, hw']; simp, by decide, ?_, fun y hy => ?_, fun y => ?_⟩
      · rw [hs, ← hn, ← hw]; exact tw_drop _
      · rw [hs]
        have ht : (w ++ y).takeWhile digB = w := tw_app hall (fun u hu => dig_32 (.inl (hy u hu)))
        have : frontD (w ++ y) = if 20 < ((w ++ y).takeWhile digB).length then (0, [], 0, 2) else if 1 < ((w ++ y).takeWhile digB).length ∧ c.toNat = 48 then (0, [], 0, 5) else (2, (w ++ y).takeWhile digB, ((w ++ y).takeWhile digB).length, 0) := by
          rw [hw', List.cons_append, frontD, if_neg h1, if_pos h2]
        rw [this, ht, if_neg h20, if_neg h0, hn]
      · rw [hs, hw', List.cons_append]
        exact gap_zero _ (by omega) (by omega) (by omega) (by omega) (by omega)
    rw [if_neg h2] at h
    by_cases h3 : c.toNat = 47
    · rw [if_pos h3] at h
      split at h
      · simp at h
      rename_i v hv
      obtain ⟨rfl, rfl, hn⟩ : 3 = k ∧ v = w ∧ v.length + 2 = n := by simpa using h
      have hc : c = 47 := UInt8.toNat_inj.1 (by simpa using h3)
      subst hc
      have hs : showD 3 v = 47 :: (v ++ [47]) := rfl
      unfold patD at hv
      split at hv
      · simp at hv
      rename_i x r' hr'
      split at hv
      · rename_i hx
        have hx : x = 47 := UInt8.toNat_inj.1 (by simpa using hx)
        subst hx
        have hv : r.takeWhile patB = v := by simpa using hv
        rw [hv] at hr'
        have hr : r = v ++ 47 :: r' := by rw [← hr', ← hv]; exact (tw_drop r).symm
        have hall : ∀ u ∈ v, patB u = true := fun u hu => tw_all _ u (hv ▸ hu)
        refine ⟨by rw [hs, ← hn]; simp, by omega, by decide, ?_, fun y hy => ?_, fun y => ?_⟩
        · rw [hs, hr, ← hn, List.drop_succ_cons]
          rw [show v ++ 47 :: r' = (v ++ [47]) ++ r' by simp, List.drop_left' (by simp)]
          simp
        · rw [hs]
          have hp : patD (v ++ 47 :: y) = some v := by
            have ht : (v ++ 47 :: y).takeWhile patB = v := tw_app hall (fun u hu => by
              have : u = 47 := by simpa using hu.symm
              subst this; rfl)
            unfold patD
            rw [ht, List.drop_left]
            rfl
          rw [List.cons_append, List.append_assoc, frontD, if_neg h1, if_neg h2, if_pos h3]
          rw [show v ++ ([47] ++ y) = v ++ 47 :: y from rfl, hp, ← hn]
        · rw [hs, List.cons_append]
          exact gap_zero _ (by decide) (by decide) (by decide) (by decide) (by decide)
      · simp at hv
    rw [if_neg h3] at h
    split at h
    · rename_i s hf
      obtain ⟨rfl, rfl, hn⟩ : 4 = k ∧ s = w ∧ s.length = n := by simpa using h
      have hm := List.mem_of_find?_eq_some hf
      have hp := List.find?_some hf
      have hs : showD 4 s = s := rfl
      have h1 : 1 ≤ s.length := by
        have : ∀ s ∈ signsL, 1 ≤ s.length := by decide
        exact this s hm
      refine ⟨by rw [hs, hn], by omega, by decide, ?_, fun y _ => by rw [hs, ← hn]; exact (sign_front s hm y).1, fun y => (sign_front s hm y).2⟩
      rw [hs, ← hn]
      have := List.isPrefixOf_iff_prefix.1 hp
      obtain ⟨t, ht⟩ := this
      rw [← ht, List.drop_left]
    · simp at h
/-- The tokens of a text, each where it stands, what is between them is no token. -/
def WholeD : Nat → List UInt8 → List TokD → Prop
  | _, _, [] => False
  | a, l, t :: ts => t.a = a + gapD false l ∧ ((t.kind = 5 ∧ t.text = [] ∧ ts = [] ∧ l.drop (gapD false l) = []) ∨
     ∃ n, l.drop (gapD false l) ≠ [] ∧ frontD (l.drop (gapD false l)) = (t.kind, t.text, n, 0) ∧ WholeD (t.a + n) ((l.drop (gapD false l)).drop n) ts)
theorem scan_whole : ∀ (k a : Nat) (o : List TokD) (l : List UInt8) (r : List TokD) (p : Nat), l.length < k → scanF k a o l = (r, p, 0) → ∃ ts, r = o ++ ts ∧ WholeD a l ts
  | 0, a, o, l, r, p, h, _ => absurd h (Nat.not_lt_zero _)
  | k + 1, a, o, l, r, p, hk, h => by
    rw [scanF] at h
    split at h
    · rename_i h0
      have : o ++ [⟨5, a + gapD false l, []⟩] = r := congrArg (·.1) h
      exact ⟨_, this.symm, rfl, .inl ⟨rfl, rfl, rfl, h0⟩⟩
    rename_i h0
    split at h
    · simp at h
    split at h
    · rename_i hc
      have : (frontD (l.drop (gapD false l))).2.2.2 = 0 := by have := congrArg (·.2.2) h; simpa using this
      exact absurd this hc
    rename_i hc
    obtain ⟨kd, w, n, c, hf⟩ : ∃ kd w n c, frontD (l.drop (gapD false l)) = (kd, w, n, c) := ⟨_, _, _, _, rfl⟩
    rw [hf] at h hc
    have hc : c = 0 := by simpa using hc
    subst hc
    dsimp only at h
    have hF := frontOf hf
    have hl : ((l.drop (gapD false l)).drop n).length < k := by
      have := hF.pos
      have h1 : (l.drop (gapD false l)).length ≠ 0 := fun e => h0 (List.eq_nil_of_length_eq_zero e)
      simp only [List.length_drop] at h1 ⊢
      omega
    obtain ⟨ts, e, hw⟩ := scan_whole k _ _ _ r p hl h
    exact ⟨⟨kd, a + gapD false l, w⟩ :: ts, by rw [e]; simp, rfl, .inr ⟨n, h0, hf, hw⟩⟩
theorem whole_len : ∀ (ts : List TokD) (a : Nat) (l : List UInt8), WholeD a l ts → ts.length ≤ l.length + 1 ∧ sumL (showsD ts) ≤ l.length ∧ ∀ t ∈ ts, t.text.length ≤ l.length
  | [], a, l, h => h.elim
  | t :: ts, a, l, ⟨h1, h2⟩ => by
    rcases h2 with ⟨h3, h4, rfl, h5⟩ | ⟨n, h3, h4, h5⟩
    · refine ⟨by simp, ?_, fun u hu => ?_⟩
      · have : showsD [t] = [] := by simp [showsD, h3]
        rw [this]; exact Nat.zero_le _
      · obtain rfl : u = t := by simpa using hu
        rw [h4]; simp
    · have hF := frontOf h4
      obtain ⟨i1, i2, i3⟩ := whole_len ts _ _ h5
      have hp := hF.pos
      have hlen := congrArg List.length hF.app
      rw [List.length_append, ← hF.len] at hlen
      have h0 : (l.drop (gapD false l)).length ≠ 0 := fun e => h3 (List.eq_nil_of_length_eq_zero e)
      have hs : showsD (t :: ts) = showD t.kind t.text :: showsD ts := by simp [showsD, hF.five]
      have ht : t.text.length ≤ (showD t.kind t.text).length := by
        unfold showD; split
        · simp; omega
        · exact Nat.le_refl _
      rw [← hF.len] at ht
      simp only [List.length_drop] at hlen h0 i1 i2 i3
      refine ⟨by rw [List.length_cons]; omega, ?_, fun u hu => ?_⟩
      · rw [hs]
        have : sumL (showD t.kind t.text :: showsD ts) = (showD t.kind t.text).length + sumL (showsD ts) := by simp [sumL]
        rw [this, ← hF.len]
        omega
      · rcases List.mem_cons.1 hu with rfl | hu
        · omega
        · have := i3 u hu; omega
theorem gap_32 (b : List UInt8) (hb : b = [] ∨ b = [32]) (l : List UInt8) : gapD false (b ++ l) = b.length + gapD false l := by
  rcases hb with rfl | rfl
  · simp
  · rw [List.cons_append, gapD]
    simp
theorem join_cons (x : List UInt8) (r : List (List UInt8)) : ∃ b, (b = [] ∨ b = [32]) ∧ (r = [] → b = []) ∧ (r ≠ [] → b = [32]) ∧ joinD (x :: r) = x ++ (b ++ joinD r) := by
  cases r with
  | nil => exact ⟨[], .inl rfl, fun _ => rfl, fun h => absurd rfl h, by simp [joinD]⟩
  | cons y r => exact ⟨[32], .inr rfl, (fun h => nomatch h), fun _ => rfl, by simp [joinD]⟩
theorem whole_back : ∀ (ts : List TokD) (a : Nat) (l : List UInt8), WholeD a l ts → ∀ (b : List UInt8) (k p : Nat) (o : List TokD), (b = [] ∨ b = [32]) → (b ++ joinD (showsD ts)).length < k → o.length + ts.length ≤ 8193 →
    ∃ ts', scanF k p o (b ++ joinD (showsD ts)) = (o ++ ts', 0, 0) ∧ ts'.map keyD = ts.map keyD
  | [], a, l, h => h.elim
  | t :: ts, a, l, ⟨h1, h2⟩ => fun b k p o hb hk ho => by
    obtain ⟨k, rfl⟩ : ∃ j, k = j + 1 := ⟨k - 1, by omega⟩
    rcases h2 with ⟨h3, h4, rfl, h5⟩ | ⟨n, h3, h4, h5⟩
    · have hs : showsD [t] = [] := by simp [showsD, h3]
      rw [hs] at hk ⊢
      have hg : gapD false (b ++ joinD []) = b.length := by rw [gap_32 b hb]; rfl
      rw [scanF, hg, if_pos (by simp [joinD])]
      exact ⟨_, rfl, by simp [keyD, h3, h4]⟩
    · have hF := frontOf h4
      have hs : showsD (t :: ts) = showD t.kind t.text :: showsD ts := by simp [showsD, hF.five]
      obtain ⟨b2, hb2, hb3, hb4, hj⟩ := join_cons (showD t.kind t.text) (showsD ts)
      rw [hs, hj] at hk ⊢
      have hg : gapD false (b ++ (showD t.kind t.text ++ (b2 ++ joinD (showsD ts)))) = b.length := by rw [gap_32 b hb, hF.gap]; rfl
      have hst : ∀ u, (b2 ++ joinD (showsD ts)).head? = some u → u.toNat = 32 := fun u hu => by
        by_cases he : showsD ts = []
        · rw [hb3 he, he] at hu; simp [joinD] at hu
        · rw [hb4 he] at hu
          obtain rfl : (32 : UInt8) = u := by simpa using hu
          rfl
      have hn := hF.len
      have hp := hF.pos
      have hne : showD t.kind t.text ++ (b2 ++ joinD (showsD ts)) ≠ [] := fun e => by
        have := congrArg List.length e
        rw [List.length_append, ← hn] at this
        simp at this
        omega
      have hfr := hF.again (b2 ++ joinD (showsD ts)) hst
      rw [scanF, hg]
      rw [show (b ++ (showD t.kind t.text ++ (b2 ++ joinD (showsD ts)))).drop b.length = showD t.kind t.text ++ (b2 ++ joinD (showsD ts)) from List.drop_left]
      rw [if_neg hne, hfr]
      have hoo : o.length ≠ 8192 := by
        have : 1 ≤ ts.length := by
          cases ts with
          | nil => exact h5.elim
          | cons _ _ => simp
        rw [List.length_cons] at ho
        omega
      rw [if_neg hoo, if_neg (by simp)]
      dsimp only
      rw [show (showD t.kind t.text ++ (b2 ++ joinD (showsD ts))).drop n = b2 ++ joinD (showsD ts) by rw [hn, List.drop_left]]
      obtain ⟨ts', e1, e2⟩ := whole_back ts _ _ h5 b2 k (p + b.length + n) (o ++ [⟨t.kind, p + b.length, t.text⟩]) hb2 (by
        simp only [List.length_append] at hk ⊢
        omega) (by
        simp only [List.length_append, List.length_cons, List.length_nil] at ho ⊢
        omega)
      exact ⟨⟨t.kind, p + b.length, t.text⟩ :: ts', by rw [e1]; simp, by rw [List.map_cons, List.map_cons, e2]; rfl⟩
theorem join_bound (l : List TokD) {m : Nat} (h1 : l.length ≤ m + 1) (h2 : sumL (showsD l) ≤ m) : (joinD (showsD l)).length ≤ 2 * m + 1 := by
  have := joinD_len (showsD l)
  have := showsD_len l
  omega
/-- There and back. -/
theorem scan_back {tx : List UInt8} {l : List TokD} {a : Nat} (h : scanD tx = (l, a, 0)) (hl : tx.length ≤ 3000) : (joinD (showsD l)).length ≤ 6001 ∧ sumL (showsD l) + l.length ≤ 6001 ∧ (∀ t ∈ l, t.text.length ≤ 3000) ∧ ∃ m, scanD (joinD (showsD l)) = (m, 0, 0) ∧ m.map keyD = l.map keyD := by
  rw [scanD, if_neg (by omega)] at h
  obtain ⟨ts, e, hw⟩ := scan_whole _ _ _ _ _ _ (Nat.lt_succ_self _) h
  rw [List.nil_append] at e
  subst e
  obtain ⟨i1, i2, i3⟩ := whole_len _ _ _ hw
  have hb := join_bound l i1 i2
  have hb2 : (joinD (showsD l)).length ≤ 6001 := by omega
  refine ⟨hb2, by omega, fun t ht => by have := i3 t ht; omega, ?_⟩
  obtain ⟨m, e1, e2⟩ := whole_back l 0 tx hw [] ((joinD (showsD l)).length + 1) 0 [] (.inl rfl) (by simp) (by simp; omega)
  refine ⟨m, ?_, e2⟩
  rw [scanD, if_neg (by omega)]
  exact e1
theorem tw_nl {p : UInt8 → Bool} (h : p 10 = false) (b : List UInt8) : ∀ l : List UInt8, (l ++ 10 :: b).takeWhile p = l.takeWhile p
  | [] => by simp [h]
  | c :: l => by
    rw [List.cons_append, List.takeWhile_cons, List.takeWhile_cons, tw_nl h b l]
theorem pat_nl (b r : List UInt8) : patD (r ++ 10 :: b) = patD r := by
  unfold patD
  rw [tw_nl (by rfl) b r]
  have hle := takeWhile_le patB r
  by_cases he : (r.takeWhile patB).length = r.length
  · rw [he, List.drop_left, List.drop_length]
    rfl
  · obtain ⟨x, r', hr⟩ : ∃ x r', r.drop (r.takeWhile patB).length = x :: r' := by
      cases hd : r.drop (r.takeWhile patB).length with
      | nil => have := congrArg List.length hd; simp at this; omega
      | cons x r' => exact ⟨x, r', rfl⟩
    rw [List.drop_append_of_le_length hle, hr]
    rfl
theorem sign_nl (b r : List UInt8) (c : UInt8) : ∀ s ∈ signsL, s.isPrefixOf (c :: r ++ 10 :: b) = s.isPrefixOf (c :: r) := by
  intro s hs
  simp only [signsL, List.mem_cons, List.not_mem_nil, or_false] at hs
  rcases hs with rfl | rfl | rfl | rfl | rfl | rfl | rfl | rfl | rfl | rfl | rfl | rfl | rfl | rfl
  · cases r with
    | nil => simp [List.isPrefixOf]
    | cons d r => simp [List.isPrefixOf]
  all_goals simp [List.isPrefixOf]
theorem find_congr {α : Type} {f g : α → Bool} : ∀ {l : List α}, (∀ x ∈ l, f x = g x) → l.find? f = l.find? g
  | [], _ => rfl
  | x :: l, h => by
    rw [List.find?_cons, List.find?_cons, h x (by simp), find_congr (fun y hy => h y (by simp [hy]))]
theorem front_nl (b : List UInt8) {l : List UInt8} (h : l ≠ []) : frontD (l ++ 10 :: b) = frontD l := by
  cases l with
  | nil => exact absurd rfl h
  | cons c r =>
    have h1 := tw_nl (p := wordB) (by rfl) b (c :: r)
    have h2 := tw_nl (p := digB) (by rfl) b (c :: r)
    have h3 := find_congr (sign_nl b r c)
    have h4 := pat_nl b r
    rw [List.cons_append] at h1 h2 h3 ⊢
    rw [frontD, frontD, h1, h2, h3, h4]
theorem gap_nl (b : List UInt8) : ∀ (l : List UInt8) (n : Bool), gapD n (l ++ 10 :: b) = if l.drop (gapD n l) = [] then l.length + 1 + gapD false b else gapD n l
  | [], n => by
    have : gapD n [] = 0 := by cases n <;> rfl
    rw [this]
    simp [gapD]
  | c :: r, n => by
    have hd : ∀ g, (c :: r).drop (1 + g) = r.drop g := fun g => by rw [Nat.add_comm, List.drop_succ_cons]
    rw [List.cons_append, gapD, gapD]
    split
    · rw [hd, gap_nl b r false]
      split
      · rw [List.length_cons]; omega
      · rfl
    · split
      · rw [hd, gap_nl b r n]
        split
        · rw [List.length_cons]; omega
        · rfl
      · split
        · rw [hd, gap_nl b r true]
          split
          · rw [List.length_cons]; omega
          · rfl
        · simp
theorem scan_fuel : ∀ (k k' a : Nat) (o : List TokD) (l : List UInt8), l.length < k → l.length < k' → scanF k a o l = scanF k' a o l
  | 0, _, _, _, _, h, _ => absurd h (Nat.not_lt_zero _)
  | _ + 1, 0, _, _, _, _, h => absurd h (Nat.not_lt_zero _)
  | k + 1, k' + 1, a, o, l, h, h' => by
    rw [scanF, scanF]
    split
    · rfl
    rename_i h0
    split
    · rfl
    split
    · rfl
    rename_i hc
    obtain ⟨kd, w, n, c, hf⟩ : ∃ kd w n c, frontD (l.drop (gapD false l)) = (kd, w, n, c) := ⟨_, _, _, _, rfl⟩
    rw [hf] at hc ⊢
    have hc : c = 0 := by simpa using hc
    subst hc
    have hp := (frontOf hf).pos
    have h1 : (l.drop (gapD false l)).length ≠ 0 := fun e => h0 (List.eq_nil_of_length_eq_zero e)
    have hl : ((l.drop (gapD false l)).drop n).length < l.length := by
      simp only [List.length_drop] at h1 ⊢
      omega
    dsimp only
    exact scan_fuel k k' _ _ _ (by omega) (by omega)
theorem scan_nl (b : List UInt8) : ∀ (k p : Nat) (o : List TokD) (l : List UInt8) (r : List TokD) (q c : Nat), l.length < k → o.length + l.length < 8192 → scanF k p o l = (r, q, c) → ∀ k' k'', (l ++ 10 :: b).length < k' → b.length < k'' →
    (c ≠ 0 → (scanF k' p o (l ++ 10 :: b)).2.2 ≠ 0) ∧ (c = 0 → r ≠ [] ∧ scanF k' p o (l ++ 10 :: b) = scanF k'' (p + l.length + 1) r.dropLast b)
  | 0, _, _, _, _, _, _, h, _, _ => absurd h (Nat.not_lt_zero _)
  | k + 1, p, o, l, r, q, c, hk, ho, h => fun k' k'' hk' hk'' => by
    obtain ⟨k', rfl⟩ : ∃ j, k' = j + 1 := ⟨k' - 1, by omega⟩
    have hgl := gapD_le l false
    rw [scanF] at h
    split at h
    · rename_i h0
      have e1 : o ++ [⟨5, p + gapD false l, []⟩] = r := congrArg (·.1) h
      have e2 : 0 = c := congrArg (·.2.2) h
      subst e1 e2
      refine ⟨fun h => absurd rfl h, fun _ => ⟨by simp, ?_⟩⟩
      rw [List.dropLast_concat]
      have hb : b.length < k' + 1 := by rw [List.length_append, List.length_cons] at hk'; omega
      rw [scan_fuel k'' (k' + 1) _ _ _ hk'' hb]
      rw [scanF, scanF, gap_nl, if_pos h0]
      have hd : (l ++ 10 :: b).drop (l.length + 1 + gapD false b) = b.drop (gapD false b) := by
        rw [← List.drop_drop]
        congr 1
        rw [show l ++ 10 :: b = (l ++ [10]) ++ b by simp, List.drop_left' (by simp)]
      rw [hd, show p + (l.length + 1 + gapD false b) = p + l.length + 1 + gapD false b by omega]
    rename_i h0
    have h1 : (l.drop (gapD false l)).length ≠ 0 := fun e => h0 (List.eq_nil_of_length_eq_zero e)
    rw [if_neg (by omega)] at h
    have hg : gapD false (l ++ 10 :: b) = gapD false l := by rw [gap_nl, if_neg h0]
    have hd : (l ++ 10 :: b).drop (gapD false l) = l.drop (gapD false l) ++ 10 :: b := List.drop_append_of_le_length hgl
    rw [scanF, hg, hd, if_neg (by simp), if_neg (by omega), front_nl b h0]
    split at h
    · rename_i hc
      have e2 : (frontD (l.drop (gapD false l))).2.2.2 = c := congrArg (·.2.2) h
      rw [if_pos hc]
      exact ⟨fun _ => hc, fun e => absurd (e2.trans e) hc⟩
    rename_i hc
    rw [if_neg hc]
    obtain ⟨kd, w, n, c', hf⟩ : ∃ kd w n c, frontD (l.drop (gapD false l)) = (kd, w, n, c) := ⟨_, _, _, _, rfl⟩
    rw [hf] at hc h ⊢
    have hc : c' = 0 := by simpa using hc
    subst hc
    dsimp only at h ⊢
    have hF := frontOf hf
    have hp := hF.pos
    have hn : n ≤ (l.drop (gapD false l)).length := by
      have := congrArg List.length hF.app
      rw [List.length_append, ← hF.len] at this
      omega
    rw [List.drop_append_of_le_length hn]
    simp only [List.length_drop] at h1 hn
    have hlen : ((l.drop (gapD false l)).drop n).length = l.length - gapD false l - n := by rw [List.length_drop, List.length_drop]
    have := scan_nl b k _ _ _ r q c (by rw [hlen]; omega) (by rw [hlen, List.length_append]; simp only [List.length_cons, List.length_nil]; omega) h k' k'' (by
      rw [List.length_append, hlen]
      rw [List.length_append] at hk'
      omega) hk''
    rw [hlen] at this
    rw [show p + gapD false l + n + (l.length - gapD false l - n) + 1 = p + l.length + 1 by omega] at this
    exact this
theorem scan_shift : ∀ (k p q : Nat) (o o' : List TokD) (l : List UInt8), l.length < k → o.length + l.length < 8192 → o'.length + l.length < 8192 → (scanF k p o l).2.2 = (scanF k q o' l).2.2 ∧ ((scanF k p o l).2.2 ≠ 0 → (scanF k p o l).2.1 + q = (scanF k q o' l).2.1 + p) ∧ ((scanF k p o l).2.2 = 0 → ∃ ts ts', (scanF k p o l).1 = o ++ ts ∧ (scanF k q o' l).1 = o' ++ ts' ∧ ts.map keyD = ts'.map keyD)
  | 0, _, _, _, _, _, h, _, _ => absurd h (Nat.not_lt_zero _)
  | k + 1, p, q, o, o', l, hk, ho, ho' => by
    rw [scanF, scanF]
    split
    · exact ⟨rfl, fun h => absurd rfl h, fun _ => ⟨_, _, rfl, rfl, rfl⟩⟩
    rename_i h0
    have h1 : (l.drop (gapD false l)).length ≠ 0 := fun e => h0 (List.eq_nil_of_length_eq_zero e)
    rw [if_neg (show ¬ o.length = 8192 by omega), if_neg (show ¬ o'.length = 8192 by omega)]
    split
    · rename_i hc
      exact ⟨rfl, fun _ => by dsimp only; omega, fun h => absurd h hc⟩
    rename_i hc
    obtain ⟨kd, w, n, c', hf⟩ : ∃ kd w n c, frontD (l.drop (gapD false l)) = (kd, w, n, c) := ⟨_, _, _, _, rfl⟩
    rw [hf] at hc ⊢
    have hc : c' = 0 := by simpa using hc
    subst hc
    dsimp only
    have hp := (frontOf hf).pos
    have hlen : ((l.drop (gapD false l)).drop n).length = l.length - gapD false l - n := by rw [List.length_drop, List.length_drop]
    simp only [List.length_drop] at h1
    obtain ⟨i1, i2, i3⟩ := scan_shift k (p + gapD false l + n) (q + gapD false l + n) (o ++ [⟨kd, p + gapD false l, w⟩]) (o' ++ [⟨kd, q + gapD false l, w⟩]) ((l.drop (gapD false l)).drop n) (by omega) (by rw [hlen, List.length_append]; simp only [List.length_cons, List.length_nil]; omega) (by rw [hlen, List.length_append]; simp only [List.length_cons, List.length_nil]; omega)
    refine ⟨i1, fun h => by have := i2 h; omega, fun h => ?_⟩
    obtain ⟨ts, ts', e1, e2, e3⟩ := i3 h
    exact ⟨_ :: ts, _ :: ts', by rw [e1, List.append_assoc]; rfl, by rw [e2, List.append_assoc]; rfl, by rw [List.map_cons, List.map_cons, e3]; rfl⟩
theorem scan_len : ∀ (k a : Nat) (o : List TokD) (l : List UInt8), l.length < k → (scanF k a o l).1.length ≤ o.length + l.length + 1
  | 0, _, _, _, h => absurd h (Nat.not_lt_zero _)
  | k + 1, a, o, l, hk => by
    rw [scanF]
    split
    · simp
    rename_i h0
    have h1 : (l.drop (gapD false l)).length ≠ 0 := fun e => h0 (List.eq_nil_of_length_eq_zero e)
    split
    · simp
    split
    · simp
    rename_i hc
    obtain ⟨kd, w, n, c', hf⟩ : ∃ kd w n c, frontD (l.drop (gapD false l)) = (kd, w, n, c) := ⟨_, _, _, _, rfl⟩
    rw [hf] at hc ⊢
    have hc : c' = 0 := by simpa using hc
    subst hc
    dsimp only
    have hp := (frontOf hf).pos
    have hlen : ((l.drop (gapD false l)).drop n).length = l.length - gapD false l - n := by rw [List.length_drop, List.length_drop]
    simp only [List.length_drop] at h1
    have := scan_len k (a + gapD false l + n) (o ++ [⟨kd, a + gapD false l, w⟩]) ((l.drop (gapD false l)).drop n) (by omega)
    rw [hlen, List.length_append] at this
    simp only [List.length_cons, List.length_nil] at this
    omega
/-- Two texts with a line end between. -/
theorem scan_pairs {a b : List UInt8} {x y z : List TokD} {fa ga ha fc gc hc : Nat} (h1 : scanD a = (x, fa, fc)) (h2 : scanD b = (y, ga, gc)) (h3 : scanD (a ++ 10 :: b) = (z, ha, hc)) (hla : a.length ≤ 1500) (hlb : b.length ≤ 1500) :
    (fc ≠ 0 → hc ≠ 0) ∧ (fc = 0 → gc ≠ 0 → hc = gc ∧ ha = ga + a.length + 1) ∧ (fc = 0 → gc = 0 → hc = 0 ∧ x ≠ [] ∧ z.map keyD = (x.dropLast ++ y).map keyD) ∧ x.length ≤ 1501 ∧ y.length ≤ 1501 ∧ z.length ≤ 3002 := by
  have hlc : (a ++ 10 :: b).length = a.length + b.length + 1 := by simp; omega
  rw [scanD, if_neg (by omega)] at h1 h2 h3
  have l1 := scan_len _ 0 [] a (Nat.lt_succ_self _)
  have l2 := scan_len _ 0 [] b (Nat.lt_succ_self _)
  have l3 := scan_len _ 0 [] (a ++ 10 :: b) (Nat.lt_succ_self _)
  rw [Nat.succ_eq_add_one, h1] at l1
  rw [Nat.succ_eq_add_one, h2] at l2
  rw [Nat.succ_eq_add_one, h3] at l3
  simp only [List.length_nil] at l1 l2 l3
  obtain ⟨i1, i2⟩ := scan_nl b _ _ _ _ _ _ _ (Nat.lt_succ_self _) (by simp; omega) h1 ((a ++ 10 :: b).length + 1) (b.length + 1) (Nat.lt_succ_self _) (Nat.lt_succ_self _)
  rw [h3] at i1
  refine ⟨i1, fun hf hg => ?_, fun hf hg => ?_, by omega, by omega, by omega⟩
  · obtain ⟨_, e⟩ := i2 hf
    rw [h3] at e
    have hs := scan_shift (b.length + 1) (0 + a.length + 1) 0 x.dropLast [] b (Nat.lt_succ_self _) (by rw [List.length_dropLast]; omega) (by simp; omega)
    rw [← e, h2] at hs
    obtain ⟨s1, s2, _⟩ := hs
    have s1 : hc = gc := s1
    have s2 := s2 (by rw [s1]; exact hg)
    exact ⟨s1, by dsimp only at s2; omega⟩
  · obtain ⟨hx, e⟩ := i2 hf
    rw [h3] at e
    have hs := scan_shift (b.length + 1) (0 + a.length + 1) 0 x.dropLast [] b (Nat.lt_succ_self _) (by rw [List.length_dropLast]; omega) (by simp; omega)
    rw [← e, h2] at hs
    obtain ⟨s1, _, s3⟩ := hs
    have s1 : hc = gc := s1
    obtain ⟨ts, ts', e1, e2, e3⟩ := s3 (by rw [s1]; exact hg)
    refine ⟨s1.trans hg, hx, ?_⟩
    dsimp only at e1 e2
    rw [List.nil_append] at e2
    rw [e1, e2, List.map_append, List.map_append, e3]
end Go.Proofs.YtepdapdekaiioaaGreatDoor
end
section
/- Contracts of package octet, second part: numbers, a writer. -/
namespace Go.Proofs.YtepdapdekaiioaaGreatDoor
open Go Go.E
set_option linter.unusedVariables false
set_option maxRecDepth 10000
section
variable {ro : Ro} {own : Chs} {K : Value → Ro → Chs → Prop} {f : Chunk → Chs}
theorem width_ok {n : Int} (hk : K (.bool (decide (1 ≤ n ∧ n ≤ 8))) ro own) : CallOk Tryz.prog 73 #[.int .i64 n] ro own K := by
  refine CallOk.intro (args := [_]) (rs := [_]) T_ok Tryz.func73 Tryz.call73 rfl rfl (by kernel_rfl) rfl rfl ?_
  repeat (first | exact endA | refine wkG ?_ | refine opB (fun b => ?_) | refine opA (fun a' c' hc1 hc2 => ?_) | (show GJ _ _ _ _ _ _ _; first | (apply GJ.and; exact rfl; intro hg) | (apply GJ.or; exact rfl; intro hg) | refine GJ.t omAuto ?_ | refine GJ.f omAuto ?_ | refine GJ.ft omAuto ?_ | refine GJ.ff omAuto ?_))
  refine Wk.val hk (congrArg Value.bool ?_)
  simp
def mostN (n : Int) : Nat := if 1 ≤ n ∧ n ≤ 8 then 2 ^ (8 * n.toNat) - 1 else 0
theorem most_ok {n : Int} (hk : K (.int .u64 (mostN n)) ro own) : CallOk Tryz.prog 99 #[.int .i64 n] ro own K := by
  refine CallOk.intro (args := [_]) (rs := [_]) T_ok Tryz.func99 Tryz.call99 rfl rfl (by kernel_rfl) rfl rfl ?_
  repeat (first | exact endA | refine wkG ?_ | refine opB (fun b => ?_) | refine opA (fun a' c' hc1 hc2 => ?_) | (show GJ _ _ _ _ _ _ _; first | (apply GJ.and; exact rfl; intro hg) | (apply GJ.or; exact rfl; intro hg) | refine GJ.t omAuto ?_ | refine GJ.f omAuto ?_ | refine GJ.ft omAuto ?_ | refine GJ.ff omAuto ?_))
  refine width_ok ?_
  repeat (first | exact endA | refine wkG ?_ | refine opB (fun b => ?_) | refine opA (fun a' c' hc1 hc2 => ?_) | (show GJ _ _ _ _ _ _ _; first | (apply GJ.and; exact rfl; intro hg) | (apply GJ.or; exact rfl; intro hg) | refine GJ.t omAuto ?_ | refine GJ.f omAuto ?_ | refine GJ.ft omAuto ?_ | refine GJ.ff omAuto ?_))
  refine Br.cases (fun hc => ?_) (fun hc => ?_)
  · repeat (first | exact endA | refine wkG ?_ | refine opB (fun b => ?_) | refine opA (fun a' c' hc1 hc2 => ?_) | (show GJ _ _ _ _ _ _ _; first | (apply GJ.and; exact rfl; intro hg) | (apply GJ.or; exact rfl; intro hg) | refine GJ.t omAuto ?_ | refine GJ.f omAuto ?_ | refine GJ.ft omAuto ?_ | refine GJ.ff omAuto ?_))
    refine Wk.val hk (congrArg (Value.int .u64) ?_)
    have : ¬ (1 ≤ n ∧ n ≤ 8) := by simpa using hc
    simp [mostN, this]
  · have hc : 1 ≤ n ∧ n ≤ 8 := by simpa using hc
    repeat (first | exact endA | refine wkG ?_ | refine opB (fun b => ?_) | refine opA (fun a' c' hc1 hc2 => ?_) | (show GJ _ _ _ _ _ _ _; first | (apply GJ.and; exact rfl; intro hg) | (apply GJ.or; exact rfl; intro hg) | refine GJ.t omAuto ?_ | refine GJ.f omAuto ?_ | refine GJ.ft omAuto ?_ | refine GJ.ff omAuto ?_))
    refine Wk.val hk (congrArg (Value.int .u64) ?_)
    obtain ⟨m, rfl⟩ := Int.eq_ofNat_of_zero_le (show 0 ≤ n by omega)
    simp only [mostN, hc, and_self, if_true]
    rcases (show m = 1 ∨ m = 2 ∨ m = 3 ∨ m = 4 ∨ m = 5 ∨ m = 6 ∨ m = 7 ∨ m = 8 by omega) with h | h | h | h | h | h | h | h <;> subst h <;> decide
end
end Go.Proofs.YtepdapdekaiioaaGreatDoor
end
