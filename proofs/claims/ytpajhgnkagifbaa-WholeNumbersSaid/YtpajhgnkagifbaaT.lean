/- The table of types. Written by a program of mine (gent.py) out of the loaded program. -/
import Derived.Test.YtpajhgnkagifbaaV10
import Derived.Test.YtpajhgnkagifbaaProg
import Derived.KernelRfl
namespace Go.Proofs.Ytpajhgnkagifbaa
open Go Go.E
def T : TT := [
  (2, ⟨ .int .i64, 1, [.int .i64 0]⟩),
  (3, ⟨ .int .i64, 1, [.int .i64 0]⟩),
  (4, ⟨ .bool, 1, [.bool false]⟩),
  (5, ⟨ .int .u8, 1, [.int .u8 0]⟩),
  (9, ⟨ .str, 1, [str []]⟩),
  (12, ⟨ .int .u64, 1, [.int .u64 0]⟩),
  (13, ⟨ .struct [(9, 0, 1), (12, 1, 1)], 2, [str [], .int .u64 0]⟩),
  (15, ⟨ .ptr 83, 1, [.pointer none]⟩),
  (16, ⟨ .ptr 86, 1, [.pointer none]⟩),
  (19, ⟨ .struct [(17, 0, 1)], 1, [.pointer none]⟩),
  (21, ⟨ .int .i32, 1, [.int .i32 0]⟩),
  (22, ⟨ .int .u64, 1, [.int .u64 0]⟩),
  (24, ⟨ .slice 5, 1, [.slice none 0 0]⟩),
  (25, ⟨ .int .i64, 1, [.int .i64 0]⟩),
  (29, ⟨ .ptr 76, 1, [.pointer none]⟩),
  (38, ⟨ .slice 3, 1, [.slice none 0 0]⟩),
  (57, ⟨ .struct [(4, 0, 1), (22, 1, 1), (3, 2, 1)], 3, [.bool false, .int .u64 0, .int .i64 0]⟩),
  (58, ⟨ .struct [(4, 0, 1), (22, 1, 1), (3, 2, 1)], 3, [.bool false, .int .u64 0, .int .i64 0]⟩),
  (62, ⟨ .ptr 80, 1, [.pointer none]⟩),
  (68, ⟨ .slice 24, 1, [.slice none 0 0]⟩),
  (73, ⟨ .slice 22, 1, [.slice none 0 0]⟩),
  (75, ⟨ .struct [(24, 0, 1), (3, 1, 1)], 2, [.slice none 0 0, .int .i64 0]⟩),
  (76, ⟨ .struct [(24, 0, 1), (3, 1, 1)], 2, [.slice none 0 0, .int .i64 0]⟩),
  (77, ⟨ .int .u64, 1, [.int .u64 0]⟩),
  (78, ⟨ .ptr 58, 1, [.pointer none]⟩),
  (79, ⟨ .struct [(24, 0, 1), (3, 1, 1)], 2, [.slice none 0 0, .int .i64 0]⟩),
  (80, ⟨ .struct [(24, 0, 1), (3, 1, 1)], 2, [.slice none 0 0, .int .i64 0]⟩),
  (84, ⟨ .arr 0 16, 0, []⟩),
  (85, ⟨ .struct [(84, 0, 0)], 0, []⟩),
  (87, ⟨ .int .u32, 1, [.int .u32 0]⟩),
  (91, ⟨ .ptr 5, 1, [.pointer none]⟩)]
set_option maxRecDepth 100000 in
theorem T_ok : TOk Try.prog T := by
  repeat (first | exact trivial | refine ⟨by kernel_rfl, ?_⟩)
instance T_tab : TTab Try.prog T := ⟨T_ok⟩
end Go.Proofs.Ytpajhgnkagifbaa
