/- The table of types. Written by a program of mine (gent.py) out of the loaded program. -/
import Derived.Test.YtkpdnpcmeadggaaEn2
import Derived.Test.YtkpdnpcmeadggaaProg
import Derived.KernelRfl
namespace Go.Proofs.Ytkpdnpcmeadggaa
open Go Go.E
def T : TT := [
  (2, ⟨ .int .i64, 1, [.int .i64 0]⟩),
  (3, ⟨ .int .i64, 1, [.int .i64 0]⟩),
  (4, ⟨ .bool, 1, [.bool false]⟩),
  (5, ⟨ .int .u8, 1, [.int .u8 0]⟩),
  (9, ⟨ .str, 1, [str []]⟩),
  (12, ⟨ .int .u64, 1, [.int .u64 0]⟩),
  (13, ⟨ .struct [(9, 0, 1), (12, 1, 1)], 2, [str [], .int .u64 0]⟩),
  (15, ⟨ .ptr 128, 1, [.pointer none]⟩),
  (16, ⟨ .ptr 131, 1, [.pointer none]⟩),
  (19, ⟨ .struct [(17, 0, 1)], 1, [.pointer none]⟩),
  (21, ⟨ .int .i32, 1, [.int .i32 0]⟩),
  (22, ⟨ .int .u64, 1, [.int .u64 0]⟩),
  (23, ⟨ .arr 4 22, 4, [.int .u64 0, .int .u64 0, .int .u64 0, .int .u64 0]⟩),
  (24, ⟨ .slice 26, 1, [.slice none 0 0]⟩),
  (25, ⟨ .struct [(3, 0, 1), (23, 1, 4), (24, 5, 1), (3, 6, 1), (3, 7, 1)], 8, [.int .i64 0, .int .u64 0, .int .u64 0, .int .u64 0, .int .u64 0, .slice none 0 0, .int .i64 0, .int .i64 0]⟩),
  (26, ⟨ .struct [(3, 0, 1), (23, 1, 4), (24, 5, 1), (3, 6, 1), (3, 7, 1)], 8, [.int .i64 0, .int .u64 0, .int .u64 0, .int .u64 0, .int .u64 0, .slice none 0 0, .int .i64 0, .int .i64 0]⟩),
  (29, ⟨ .ptr 3, 1, [.pointer none]⟩),
  (30, ⟨ .int .i64, 1, [.int .i64 0]⟩),
  (32, ⟨ .slice 63, 1, [.slice none 0 0]⟩),
  (33, ⟨ .struct [(32, 0, 1), (3, 1, 1)], 2, [.slice none 0 0, .int .i64 0]⟩),
  (34, ⟨ .struct [(32, 0, 1), (3, 1, 1)], 2, [.slice none 0 0, .int .i64 0]⟩),
  (39, ⟨ .slice 5, 1, [.slice none 0 0]⟩),
  (40, ⟨ .slice 3, 1, [.slice none 0 0]⟩),
  (48, ⟨ .struct [(30, 0, 1), (3, 1, 1)], 2, [.int .i64 0, .int .i64 0]⟩),
  (49, ⟨ .struct [(30, 0, 1), (3, 1, 1)], 2, [.int .i64 0, .int .i64 0]⟩),
  (52, ⟨ .slice 64, 1, [.slice none 0 0]⟩),
  (55, ⟨ .ptr 57, 1, [.pointer none]⟩),
  (56, ⟨ .struct [(34, 0, 2), (4, 2, 1)], 3, [.slice none 0 0, .int .i64 0, .bool false]⟩),
  (57, ⟨ .struct [(34, 0, 2), (4, 2, 1)], 3, [.slice none 0 0, .int .i64 0, .bool false]⟩),
  (61, ⟨ .slice 4, 1, [.slice none 0 0]⟩),
  (63, ⟨ .slice 66, 1, [.slice none 0 0]⟩),
  (64, ⟨ .arr 4 22, 4, [.int .u64 0, .int .u64 0, .int .u64 0, .int .u64 0]⟩),
  (65, ⟨ .struct [(3, 0, 1), (64, 1, 4), (4, 5, 1)], 6, [.int .i64 0, .int .u64 0, .int .u64 0, .int .u64 0, .int .u64 0, .bool false]⟩),
  (66, ⟨ .struct [(3, 0, 1), (64, 1, 4), (4, 5, 1)], 6, [.int .i64 0, .int .u64 0, .int .u64 0, .int .u64 0, .int .u64 0, .bool false]⟩),
  (69, ⟨ .ptr 71, 1, [.pointer none]⟩),
  (70, ⟨ .struct [(9, 0, 1), (3, 1, 1), (3, 2, 1), (49, 3, 2)], 5, [str [], .int .i64 0, .int .i64 0, .int .i64 0, .int .i64 0]⟩),
  (71, ⟨ .struct [(9, 0, 1), (3, 1, 1), (3, 2, 1), (49, 3, 2)], 5, [str [], .int .i64 0, .int .i64 0, .int .i64 0, .int .i64 0]⟩),
  (74, ⟨ .map 64 4, 1, [.map none]⟩),
  (81, ⟨ .int .u64, 1, [.int .u64 0]⟩),
  (84, ⟨ .int .i64, 1, [.int .i64 0]⟩),
  (92, ⟨ .int .u32, 1, [.int .u32 0]⟩),
  (95, ⟨ .int .u64, 1, [.int .u64 0]⟩),
  (102, ⟨ .ptr 95, 1, [.pointer none]⟩),
  (129, ⟨ .arr 0 16, 0, []⟩),
  (130, ⟨ .struct [(129, 0, 0)], 0, []⟩),
  (135, ⟨ .ptr 5, 1, [.pointer none]⟩)]
set_option maxRecDepth 100000 in
theorem T_ok : TOk Try.prog T := by
  repeat (first | exact trivial | refine ⟨by kernel_rfl, ?_⟩)
instance T_tab : TTab Try.prog T := ⟨T_ok⟩
end Go.Proofs.Ytkpdnpcmeadggaa
