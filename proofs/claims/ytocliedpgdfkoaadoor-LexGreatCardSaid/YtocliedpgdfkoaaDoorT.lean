/- The table of types. Written by a program of mine (gent.py) out of the loaded program. -/
import Derived.Test.YtocliedpgdfkoaaDoorV15
import Derived.Test.YtocliedpgdfkoaaDoorProg
import Derived.KernelRfl
namespace Go.Proofs.YtocliedpgdfkoaaDoor
open Go Go.E
def T : TT := [
  (2, ⟨ .int .i64, 1, [.int .i64 0]⟩),
  (3, ⟨ .int .i64, 1, [.int .i64 0]⟩),
  (4, ⟨ .bool, 1, [.bool false]⟩),
  (5, ⟨ .int .u8, 1, [.int .u8 0]⟩),
  (9, ⟨ .str, 1, [str []]⟩),
  (12, ⟨ .int .u64, 1, [.int .u64 0]⟩),
  (13, ⟨ .struct [(9, 0, 1), (12, 1, 1)], 2, [str [], .int .u64 0]⟩),
  (15, ⟨ .ptr 130, 1, [.pointer none]⟩),
  (16, ⟨ .ptr 133, 1, [.pointer none]⟩),
  (19, ⟨ .struct [(17, 0, 1)], 1, [.pointer none]⟩),
  (21, ⟨ .int .i32, 1, [.int .i32 0]⟩),
  (22, ⟨ .int .u64, 1, [.int .u64 0]⟩),
  (23, ⟨ .arr 4 22, 4, [.int .u64 0, .int .u64 0, .int .u64 0, .int .u64 0]⟩),
  (24, ⟨ .arr 4 22, 4, [.int .u64 0, .int .u64 0, .int .u64 0, .int .u64 0]⟩),
  (32, ⟨ .int .i64, 1, [.int .i64 0]⟩),
  (35, ⟨ .slice 24, 1, [.slice none 0 0]⟩),
  (41, ⟨ .slice 5, 1, [.slice none 0 0]⟩),
  (43, ⟨ .arr 256 4, 256, List.replicate 256 (.bool false)⟩),
  (48, ⟨ .slice 57, 1, [.slice none 0 0]⟩),
  (49, ⟨ .struct [(32, 0, 1), (3, 1, 1)], 2, [.int .i64 0, .int .i64 0]⟩),
  (50, ⟨ .struct [(32, 0, 1), (3, 1, 1)], 2, [.int .i64 0, .int .i64 0]⟩),
  (53, ⟨ .slice 58, 1, [.slice none 0 0]⟩),
  (56, ⟨ .struct [(3, 0, 1), (3, 1, 1), (9, 2, 1)], 3, [.int .i64 0, .int .i64 0, str []]⟩),
  (57, ⟨ .struct [(3, 0, 1), (3, 1, 1), (9, 2, 1)], 3, [.int .i64 0, .int .i64 0, str []]⟩),
  (58, ⟨ .struct [(3, 0, 1), (3, 1, 1), (9, 2, 1)], 3, [.int .i64 0, .int .i64 0, str []]⟩),
  (67, ⟨ .int .u64, 1, [.int .u64 0]⟩),
  (69, ⟨ .arr 2 24, 8, [.int .u64 0, .int .u64 0, .int .u64 0, .int .u64 0, .int .u64 0, .int .u64 0, .int .u64 0, .int .u64 0]⟩),
  (71, ⟨ .ptr 73, 1, [.pointer none]⟩),
  (72, ⟨ .struct [(71, 0, 1), (41, 1, 1)], 2, [.pointer none, .slice none 0 0]⟩),
  (73, ⟨ .struct [(71, 0, 1), (41, 1, 1)], 2, [.pointer none, .slice none 0 0]⟩),
  (80, ⟨ .ptr 82, 1, [.pointer none]⟩),
  (81, ⟨ .struct [(9, 0, 1), (3, 1, 1), (48, 2, 1)], 3, [str [], .int .i64 0, .slice none 0 0]⟩),
  (82, ⟨ .struct [(9, 0, 1), (3, 1, 1), (48, 2, 1)], 3, [str [], .int .i64 0, .slice none 0 0]⟩),
  (87, ⟨ .slice 9, 1, [.slice none 0 0]⟩),
  (92, ⟨ .arr 64 5, 64, List.replicate 64 (.int .u8 0)⟩),
  (93, ⟨ .ptr 5, 1, [.pointer none]⟩),
  (97, ⟨ .int .u32, 1, [.int .u32 0]⟩),
  (104, ⟨ .arr 256 5, 256, List.replicate 256 (.int .u8 0)⟩),
  (110, ⟨ .slice 112, 1, [.slice none 0 0]⟩),
  (111, ⟨ .struct [(3, 0, 1), (3, 1, 1)], 2, [.int .i64 0, .int .i64 0]⟩),
  (112, ⟨ .struct [(3, 0, 1), (3, 1, 1)], 2, [.int .i64 0, .int .i64 0]⟩),
  (114, ⟨ .ptr 119, 1, [.pointer none]⟩),
  (116, ⟨ .slice 122, 1, [.slice none 0 0]⟩),
  (117, ⟨ .slice 125, 1, [.slice none 0 0]⟩),
  (118, ⟨ .struct [(116, 0, 1), (117, 1, 1), (3, 2, 1)], 3, [.slice none 0 0, .slice none 0 0, .int .i64 0]⟩),
  (119, ⟨ .struct [(116, 0, 1), (117, 1, 1), (3, 2, 1)], 3, [.slice none 0 0, .slice none 0 0, .int .i64 0]⟩),
  (120, ⟨ .int .u16, 1, [.int .u16 0]⟩),
  (121, ⟨ .struct [(120, 0, 1), (120, 1, 1), (120, 2, 1)], 3, [.int .u16 0, .int .u16 0, .int .u16 0]⟩),
  (122, ⟨ .struct [(120, 0, 1), (120, 1, 1), (120, 2, 1)], 3, [.int .u16 0, .int .u16 0, .int .u16 0]⟩),
  (124, ⟨ .struct [(97, 0, 1), (97, 1, 1), (97, 2, 1)], 3, [.int .u32 0, .int .u32 0, .int .u32 0]⟩),
  (125, ⟨ .struct [(97, 0, 1), (97, 1, 1), (97, 2, 1)], 3, [.int .u32 0, .int .u32 0, .int .u32 0]⟩),
  (127, ⟨ .ptr 122, 1, [.pointer none]⟩),
  (128, ⟨ .ptr 125, 1, [.pointer none]⟩),
  (131, ⟨ .arr 0 16, 0, []⟩),
  (132, ⟨ .struct [(131, 0, 0)], 0, []⟩)]
set_option maxRecDepth 100000 in
theorem T_ok : TOk Tryd.prog T := by
  repeat (first | exact trivial | refine ⟨by kernel_rfl, ?_⟩)
instance T_tab : TTab Tryd.prog T := ⟨T_ok⟩
end Go.Proofs.YtocliedpgdfkoaaDoor
