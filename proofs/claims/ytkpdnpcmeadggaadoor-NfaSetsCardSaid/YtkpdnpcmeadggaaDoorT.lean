/- The table of types. Written by a program of mine (gent.py) out of the loaded program. -/
import Derived.Test.YtkpdnpcmeadggaaDoorEn2
import Derived.Test.YtkpdnpcmeadggaaDoorProg
import Derived.KernelRfl
namespace Go.Proofs.YtkpdnpcmeadggaaDoor
open Go Go.E
def T : TT := [
  (2, ⟨ .int .i64, 1, [.int .i64 0]⟩),
  (3, ⟨ .int .i64, 1, [.int .i64 0]⟩),
  (4, ⟨ .bool, 1, [.bool false]⟩),
  (5, ⟨ .int .u8, 1, [.int .u8 0]⟩),
  (9, ⟨ .str, 1, [str []]⟩),
  (12, ⟨ .int .u64, 1, [.int .u64 0]⟩),
  (13, ⟨ .struct [(9, 0, 1), (12, 1, 1)], 2, [str [], .int .u64 0]⟩),
  (15, ⟨ .ptr 151, 1, [.pointer none]⟩),
  (16, ⟨ .ptr 154, 1, [.pointer none]⟩),
  (19, ⟨ .struct [(17, 0, 1)], 1, [.pointer none]⟩),
  (21, ⟨ .int .i32, 1, [.int .i32 0]⟩),
  (22, ⟨ .int .u64, 1, [.int .u64 0]⟩),
  (23, ⟨ .arr 4 22, 4, [.int .u64 0, .int .u64 0, .int .u64 0, .int .u64 0]⟩),
  (24, ⟨ .slice 26, 1, [.slice none 0 0]⟩),
  (25, ⟨ .struct [(3, 0, 1), (23, 1, 4), (24, 5, 1), (3, 6, 1), (3, 7, 1)], 8, [.int .i64 0, .int .u64 0, .int .u64 0, .int .u64 0, .int .u64 0, .slice none 0 0, .int .i64 0, .int .i64 0]⟩),
  (26, ⟨ .struct [(3, 0, 1), (23, 1, 4), (24, 5, 1), (3, 6, 1), (3, 7, 1)], 8, [.int .i64 0, .int .u64 0, .int .u64 0, .int .u64 0, .int .u64 0, .slice none 0 0, .int .i64 0, .int .i64 0]⟩),
  (27, ⟨ .slice 5, 1, [.slice none 0 0]⟩),
  (30, ⟨ .ptr 3, 1, [.pointer none]⟩),
  (31, ⟨ .slice 65, 1, [.slice none 0 0]⟩),
  (32, ⟨ .struct [(31, 0, 1), (3, 1, 1)], 2, [.slice none 0 0, .int .i64 0]⟩),
  (33, ⟨ .struct [(31, 0, 1), (3, 1, 1)], 2, [.slice none 0 0, .int .i64 0]⟩),
  (34, ⟨ .int .i64, 1, [.int .i64 0]⟩),
  (37, ⟨ .slice 3, 1, [.slice none 0 0]⟩),
  (40, ⟨ .slice 43, 1, [.slice none 0 0]⟩),
  (43, ⟨ .arr 4 22, 4, [.int .u64 0, .int .u64 0, .int .u64 0, .int .u64 0]⟩),
  (49, ⟨ .struct [(34, 0, 1), (3, 1, 1)], 2, [.int .i64 0, .int .i64 0]⟩),
  (50, ⟨ .struct [(34, 0, 1), (3, 1, 1)], 2, [.int .i64 0, .int .i64 0]⟩),
  (54, ⟨ .ptr 85, 1, [.pointer none]⟩),
  (60, ⟨ .ptr 62, 1, [.pointer none]⟩),
  (61, ⟨ .struct [(33, 0, 2), (4, 2, 1)], 3, [.slice none 0 0, .int .i64 0, .bool false]⟩),
  (62, ⟨ .struct [(33, 0, 2), (4, 2, 1)], 3, [.slice none 0 0, .int .i64 0, .bool false]⟩),
  (65, ⟨ .slice 67, 1, [.slice none 0 0]⟩),
  (66, ⟨ .struct [(3, 0, 1), (43, 1, 4), (4, 5, 1)], 6, [.int .i64 0, .int .u64 0, .int .u64 0, .int .u64 0, .int .u64 0, .bool false]⟩),
  (67, ⟨ .struct [(3, 0, 1), (43, 1, 4), (4, 5, 1)], 6, [.int .i64 0, .int .u64 0, .int .u64 0, .int .u64 0, .int .u64 0, .bool false]⟩),
  (70, ⟨ .arr 2 43, 8, [.int .u64 0, .int .u64 0, .int .u64 0, .int .u64 0, .int .u64 0, .int .u64 0, .int .u64 0, .int .u64 0]⟩),
  (72, ⟨ .map 43 4, 1, [.map none]⟩),
  (73, ⟨ .int .u64, 1, [.int .u64 0]⟩),
  (76, ⟨ .ptr 78, 1, [.pointer none]⟩),
  (77, ⟨ .struct [(9, 0, 1), (3, 1, 1), (3, 2, 1), (50, 3, 2)], 5, [str [], .int .i64 0, .int .i64 0, .int .i64 0, .int .i64 0]⟩),
  (78, ⟨ .struct [(9, 0, 1), (3, 1, 1), (3, 2, 1), (50, 3, 2)], 5, [str [], .int .i64 0, .int .i64 0, .int .i64 0, .int .i64 0]⟩),
  (81, ⟨ .arr 256 5, 256, List.replicate 256 (.int .u8 0)⟩),
  (82, ⟨ .slice 37, 1, [.slice none 0 0]⟩),
  (83, ⟨ .slice 4, 1, [.slice none 0 0]⟩),
  (84, ⟨ .struct [(81, 0, 256), (82, 256, 1), (83, 257, 1)], 258, List.replicate 256 (.int .u8 0) ++ [.slice none 0 0, .slice none 0 0]⟩),
  (85, ⟨ .struct [(81, 0, 256), (82, 256, 1), (83, 257, 1)], 258, List.replicate 256 (.int .u8 0) ++ [.slice none 0 0, .slice none 0 0]⟩),
  (87, ⟨ .map 9 3, 1, [.map none]⟩),
  (91, ⟨ .map 3 3, 1, [.map none]⟩),
  (102, ⟨ .map 9 5, 1, [.map none]⟩),
  (108, ⟨ .arr 64 5, 64, List.replicate 64 (.int .u8 0)⟩),
  (111, ⟨ .int .i64, 1, [.int .i64 0]⟩),
  (119, ⟨ .int .u32, 1, [.int .u32 0]⟩),
  (122, ⟨ .int .u64, 1, [.int .u64 0]⟩),
  (130, ⟨ .ptr 122, 1, [.pointer none]⟩),
  (152, ⟨ .arr 0 16, 0, []⟩),
  (153, ⟨ .struct [(152, 0, 0)], 0, []⟩),
  (158, ⟨ .ptr 5, 1, [.pointer none]⟩)]
set_option maxRecDepth 100000 in
theorem T_ok : TOk Tryd.prog T := by
  repeat (first | exact trivial | refine ⟨by kernel_rfl, ?_⟩)
instance T_tab : TTab Tryd.prog T := ⟨T_ok⟩
end Go.Proofs.YtkpdnpcmeadggaaDoor
