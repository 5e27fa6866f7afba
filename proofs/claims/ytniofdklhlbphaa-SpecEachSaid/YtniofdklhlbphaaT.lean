/- The table of types. Written by a program of mine (gent.py) out of the loaded program. -/
import Derived.Test.YtniofdklhlbphaaEn2
import Derived.Test.YtniofdklhlbphaaProg
import Derived.KernelRfl
namespace Go.Proofs.Ytniofdklhlbphaa
open Go Go.E
def T : TT := [
  (2, ⟨ .int .i64, 1, [.int .i64 0]⟩),
  (3, ⟨ .int .i64, 1, [.int .i64 0]⟩),
  (4, ⟨ .bool, 1, [.bool false]⟩),
  (5, ⟨ .int .u8, 1, [.int .u8 0]⟩),
  (9, ⟨ .str, 1, [str []]⟩),
  (12, ⟨ .int .u64, 1, [.int .u64 0]⟩),
  (13, ⟨ .struct [(9, 0, 1), (12, 1, 1)], 2, [str [], .int .u64 0]⟩),
  (15, ⟨ .ptr 102, 1, [.pointer none]⟩),
  (16, ⟨ .ptr 105, 1, [.pointer none]⟩),
  (19, ⟨ .struct [(17, 0, 1)], 1, [.pointer none]⟩),
  (21, ⟨ .int .i32, 1, [.int .i32 0]⟩),
  (22, ⟨ .slice 49, 1, [.slice none 0 0]⟩),
  (23, ⟨ .slice 32, 1, [.slice none 0 0]⟩),
  (24, ⟨ .struct [(22, 0, 1), (23, 1, 1)], 2, [.slice none 0 0, .slice none 0 0]⟩),
  (25, ⟨ .struct [(22, 0, 1), (23, 1, 1)], 2, [.slice none 0 0, .slice none 0 0]⟩),
  (28, ⟨ .int .i64, 1, [.int .i64 0]⟩),
  (30, ⟨ .slice 3, 1, [.slice none 0 0]⟩),
  (31, ⟨ .struct [(9, 0, 1), (3, 1, 1)], 2, [str [], .int .i64 0]⟩),
  (32, ⟨ .struct [(9, 0, 1), (3, 1, 1)], 2, [str [], .int .i64 0]⟩),
  (38, ⟨ .struct [(25, 0, 2)], 2, [.slice none 0 0, .slice none 0 0]⟩),
  (39, ⟨ .struct [(25, 0, 2)], 2, [.slice none 0 0, .slice none 0 0]⟩),
  (42, ⟨ .int .u64, 1, [.int .u64 0]⟩),
  (43, ⟨ .struct [(9, 0, 1), (42, 1, 1), (42, 2, 1)], 3, [str [], .int .u64 0, .int .u64 0]⟩),
  (44, ⟨ .struct [(9, 0, 1), (42, 1, 1), (42, 2, 1)], 3, [str [], .int .u64 0, .int .u64 0]⟩),
  (45, ⟨ .slice 4, 1, [.slice none 0 0]⟩),
  (46, ⟨ .slice 51, 1, [.slice none 0 0]⟩),
  (47, ⟨ .slice 73, 1, [.slice none 0 0]⟩),
  (48, ⟨ .struct [(3, 0, 1), (3, 1, 1), (4, 2, 1), (4, 3, 1), (4, 4, 1), (42, 5, 1), (42, 6, 1), (9, 7, 1), (44, 8, 3), (30, 11, 1), (45, 12, 1), (46, 13, 1), (9, 14, 1), (42, 15, 1), (47, 16, 1), (3, 17, 1)], 18, [.int .i64 0, .int .i64 0, .bool false, .bool false, .bool false, .int .u64 0, .int .u64 0, str [], str [], .int .u64 0, .int .u64 0, .slice none 0 0, .slice none 0 0, .slice none 0 0, str [], .int .u64 0, .slice none 0 0, .int .i64 0]⟩),
  (49, ⟨ .struct [(3, 0, 1), (3, 1, 1), (4, 2, 1), (4, 3, 1), (4, 4, 1), (42, 5, 1), (42, 6, 1), (9, 7, 1), (44, 8, 3), (30, 11, 1), (45, 12, 1), (46, 13, 1), (9, 14, 1), (42, 15, 1), (47, 16, 1), (3, 17, 1)], 18, [.int .i64 0, .int .i64 0, .bool false, .bool false, .bool false, .int .u64 0, .int .u64 0, str [], str [], .int .u64 0, .int .u64 0, .slice none 0 0, .slice none 0 0, .slice none 0 0, str [], .int .u64 0, .slice none 0 0, .int .i64 0]⟩),
  (50, ⟨ .struct [(9, 0, 1), (3, 1, 1), (3, 2, 1), (9, 3, 1), (9, 4, 1)], 5, [str [], .int .i64 0, .int .i64 0, str [], str []]⟩),
  (51, ⟨ .struct [(9, 0, 1), (3, 1, 1), (3, 2, 1), (9, 3, 1), (9, 4, 1)], 5, [str [], .int .i64 0, .int .i64 0, str [], str []]⟩),
  (65, ⟨ .int .u64, 1, [.int .u64 0]⟩),
  (66, ⟨ .ptr 39, 1, [.pointer none]⟩),
  (72, ⟨ .struct [(42, 0, 1), (3, 1, 1)], 2, [.int .u64 0, .int .i64 0]⟩),
  (73, ⟨ .struct [(42, 0, 1), (3, 1, 1)], 2, [.int .u64 0, .int .i64 0]⟩),
  (76, ⟨ .int .i64, 1, [.int .i64 0]⟩),
  (85, ⟨ .int .u32, 1, [.int .u32 0]⟩),
  (91, ⟨ .int .u64, 1, [.int .u64 0]⟩),
  (95, ⟨ .ptr 3, 1, [.pointer none]⟩),
  (97, ⟨ .ptr 91, 1, [.pointer none]⟩),
  (103, ⟨ .arr 0 16, 0, []⟩),
  (104, ⟨ .struct [(103, 0, 0)], 0, []⟩),
  (110, ⟨ .ptr 5, 1, [.pointer none]⟩)]
set_option maxRecDepth 100000 in
theorem T_ok : TOk Try.prog T := by
  repeat (first | exact trivial | refine ⟨by kernel_rfl, ?_⟩)
instance T_tab : TTab Try.prog T := ⟨T_ok⟩
end Go.Proofs.Ytniofdklhlbphaa
