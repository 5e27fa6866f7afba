/- Each operation as a step of a walk. Written by a program of mine (genstep.py) out of the theorems on single operations. -/
import Derived.Test.YtpajhgnkagifbaaMor
namespace Go.E
open Go
set_option linter.unusedVariables false
section
variable {P : Program} {all : Array Oper} {Q : Exit → Act → World → Prop} {fsz : Nat} {σ : World} {env : Env} {h : Heap} {rest : List Oper} {dst : Nat} {ty : TypeId} {pos : String} {af : Array Edge}
variable {K : Heap → Prop} {F : Act → Prop} {fuel i0 : Nat} {listed : Array Bool}
theorem L.move {x : Operand} {v : Value} (hx : ev env x = some v) (hdst : Nat.blt dst fsz = true) (kont : L P all Q fsz σ rest ((dst, v) :: env) h) : L P all Q fsz σ (⟨some dst, .move x, ty, pos, af, none⟩ :: rest) env h :=
  L.pure (Pu.move hx) hdst kont
theorem LQ.move {x : Operand} {v : Value} (hx : ev env x = some v) (hdst : Nat.blt dst fsz = true) (kont : LQ P all K F fsz σ rest ((dst, v) :: env)) : LQ P all K F fsz σ (⟨some dst, .move x, ty, pos, af, none⟩ :: rest) env :=
  LQ.pure (fun _ _ => Pu.move hx) hdst kont
theorem L.assign {x : Operand} {v : Value} (hx : ev env x = some v) (hdst : Nat.blt dst fsz = true) (kont : L P all Q fsz σ rest ((dst, v) :: env) h) : L P all Q fsz σ (⟨some dst, .assign x, ty, pos, af, none⟩ :: rest) env h :=
  L.pure (Pu.assign hx) hdst kont
theorem LQ.assign {x : Operand} {v : Value} (hx : ev env x = some v) (hdst : Nat.blt dst fsz = true) (kont : LQ P all K F fsz σ rest ((dst, v) :: env)) : LQ P all K F fsz σ (⟨some dst, .assign x, ty, pos, af, none⟩ :: rest) env :=
  LQ.pure (fun _ _ => Pu.assign hx) hdst kont
theorem L.pickT {c x y : Operand} {v : Value} (hc : ev env c = some (.bool true)) (hx : ev env x = some v) (hdst : Nat.blt dst fsz = true) (kont : L P all Q fsz σ rest ((dst, v) :: env) h) : L P all Q fsz σ (⟨some dst, .pick c x y, ty, pos, af, none⟩ :: rest) env h :=
  L.pure (Pu.pickT hc hx) hdst kont
theorem LQ.pickT {c x y : Operand} {v : Value} (hc : ev env c = some (.bool true)) (hx : ev env x = some v) (hdst : Nat.blt dst fsz = true) (kont : LQ P all K F fsz σ rest ((dst, v) :: env)) : LQ P all K F fsz σ (⟨some dst, .pick c x y, ty, pos, af, none⟩ :: rest) env :=
  LQ.pure (fun _ _ => Pu.pickT hc hx) hdst kont
theorem L.pickF {c x y : Operand} {v : Value} (hc : ev env c = some (.bool false)) (hy : ev env y = some v) (hdst : Nat.blt dst fsz = true) (kont : L P all Q fsz σ rest ((dst, v) :: env) h) : L P all Q fsz σ (⟨some dst, .pick c x y, ty, pos, af, none⟩ :: rest) env h :=
  L.pure (Pu.pickF hc hy) hdst kont
theorem LQ.pickF {c x y : Operand} {v : Value} (hc : ev env c = some (.bool false)) (hy : ev env y = some v) (hdst : Nat.blt dst fsz = true) (kont : LQ P all K F fsz σ rest ((dst, v) :: env)) : LQ P all K F fsz σ (⟨some dst, .pick c x y, ty, pos, af, none⟩ :: rest) env :=
  LQ.pure (fun _ _ => Pu.pickF hc hy) hdst kont
theorem L.not {t : TypeId} {x : Operand} {b : Bool} (hx : ev env x = some (.bool b)) (hdst : Nat.blt dst fsz = true) (kont : L P all Q fsz σ rest ((dst, (.bool (!b))) :: env) h) : L P all Q fsz σ (⟨some dst, .unOp .not t x, ty, pos, af, none⟩ :: rest) env h :=
  L.pure (Pu.not hx) hdst kont
theorem LQ.not {t : TypeId} {x : Operand} {b : Bool} (hx : ev env x = some (.bool b)) (hdst : Nat.blt dst fsz = true) (kont : LQ P all K F fsz σ rest ((dst, (.bool (!b))) :: env)) : LQ P all K F fsz σ (⟨some dst, .unOp .not t x, ty, pos, af, none⟩ :: rest) env :=
  LQ.pure (fun _ _ => Pu.not hx) hdst kont
theorem L.notDec {t : TypeId} {x : Operand} {p : Prop} [Decidable p] (hx : ev env x = some (.bool (decide p))) (hdst : Nat.blt dst fsz = true) (kont : L P all Q fsz σ rest ((dst, (.bool (decide (¬ p)))) :: env) h) : L P all Q fsz σ (⟨some dst, .unOp .not t x, ty, pos, af, none⟩ :: rest) env h :=
  L.pure (Pu.notDec hx) hdst kont
theorem LQ.notDec {t : TypeId} {x : Operand} {p : Prop} [Decidable p] (hx : ev env x = some (.bool (decide p))) (hdst : Nat.blt dst fsz = true) (kont : LQ P all K F fsz σ rest ((dst, (.bool (decide (¬ p)))) :: env)) : LQ P all K F fsz σ (⟨some dst, .unOp .not t x, ty, pos, af, none⟩ :: rest) env :=
  LQ.pure (fun _ _ => Pu.notDec hx) hdst kont
theorem L.addI {t yt : TypeId} {x y : Operand} {a b : Int} (hx : ev env x = some (.int .i64 a)) (hy : ev env y = some (.int .i64 b)) (hr : -9223372036854775808 ≤ a + b ∧ a + b ≤ 9223372036854775807) (hdst : Nat.blt dst fsz = true) (kont : L P all Q fsz σ rest ((dst, (.int .i64 (a + b))) :: env) h) : L P all Q fsz σ (⟨some dst, .binOp .add t x y yt, ty, pos, af, none⟩ :: rest) env h :=
  L.pure (Pu.addI hx hy hr) hdst kont
theorem LQ.addI {t yt : TypeId} {x y : Operand} {a b : Int} (hx : ev env x = some (.int .i64 a)) (hy : ev env y = some (.int .i64 b)) (hr : -9223372036854775808 ≤ a + b ∧ a + b ≤ 9223372036854775807) (hdst : Nat.blt dst fsz = true) (kont : LQ P all K F fsz σ rest ((dst, (.int .i64 (a + b))) :: env)) : LQ P all K F fsz σ (⟨some dst, .binOp .add t x y yt, ty, pos, af, none⟩ :: rest) env :=
  LQ.pure (fun _ _ => Pu.addI hx hy hr) hdst kont
theorem L.subI {t yt : TypeId} {x y : Operand} {a b : Int} (hx : ev env x = some (.int .i64 a)) (hy : ev env y = some (.int .i64 b)) (hr : -9223372036854775808 ≤ a - b ∧ a - b ≤ 9223372036854775807) (hdst : Nat.blt dst fsz = true) (kont : L P all Q fsz σ rest ((dst, (.int .i64 (a - b))) :: env) h) : L P all Q fsz σ (⟨some dst, .binOp .sub t x y yt, ty, pos, af, none⟩ :: rest) env h :=
  L.pure (Pu.subI hx hy hr) hdst kont
theorem LQ.subI {t yt : TypeId} {x y : Operand} {a b : Int} (hx : ev env x = some (.int .i64 a)) (hy : ev env y = some (.int .i64 b)) (hr : -9223372036854775808 ≤ a - b ∧ a - b ≤ 9223372036854775807) (hdst : Nat.blt dst fsz = true) (kont : LQ P all K F fsz σ rest ((dst, (.int .i64 (a - b))) :: env)) : LQ P all K F fsz σ (⟨some dst, .binOp .sub t x y yt, ty, pos, af, none⟩ :: rest) env :=
  LQ.pure (fun _ _ => Pu.subI hx hy hr) hdst kont
theorem L.mulI {t yt : TypeId} {x y : Operand} {a b : Int} (hx : ev env x = some (.int .i64 a)) (hy : ev env y = some (.int .i64 b)) (hr : -9223372036854775808 ≤ a * b ∧ a * b ≤ 9223372036854775807) (hdst : Nat.blt dst fsz = true) (kont : L P all Q fsz σ rest ((dst, (.int .i64 (a * b))) :: env) h) : L P all Q fsz σ (⟨some dst, .binOp .mul t x y yt, ty, pos, af, none⟩ :: rest) env h :=
  L.pure (Pu.mulI hx hy hr) hdst kont
theorem LQ.mulI {t yt : TypeId} {x y : Operand} {a b : Int} (hx : ev env x = some (.int .i64 a)) (hy : ev env y = some (.int .i64 b)) (hr : -9223372036854775808 ≤ a * b ∧ a * b ≤ 9223372036854775807) (hdst : Nat.blt dst fsz = true) (kont : LQ P all K F fsz σ rest ((dst, (.int .i64 (a * b))) :: env)) : LQ P all K F fsz σ (⟨some dst, .binOp .mul t x y yt, ty, pos, af, none⟩ :: rest) env :=
  LQ.pure (fun _ _ => Pu.mulI hx hy hr) hdst kont
theorem L.addW {t yt : TypeId} {x y : Operand} {k : IntKind} {a b : Int} (hx : ev env x = some (.int k a)) (hy : ev env y = some (.int k b)) (hdst : Nat.blt dst fsz = true) (kont : L P all Q fsz σ rest ((dst, (.int k (k.wrap (a + b)))) :: env) h) : L P all Q fsz σ (⟨some dst, .binOp .add t x y yt, ty, pos, af, none⟩ :: rest) env h :=
  L.pure (Pu.addW hx hy) hdst kont
theorem LQ.addW {t yt : TypeId} {x y : Operand} {k : IntKind} {a b : Int} (hx : ev env x = some (.int k a)) (hy : ev env y = some (.int k b)) (hdst : Nat.blt dst fsz = true) (kont : LQ P all K F fsz σ rest ((dst, (.int k (k.wrap (a + b)))) :: env)) : LQ P all K F fsz σ (⟨some dst, .binOp .add t x y yt, ty, pos, af, none⟩ :: rest) env :=
  LQ.pure (fun _ _ => Pu.addW hx hy) hdst kont
theorem L.subW {t yt : TypeId} {x y : Operand} {k : IntKind} {a b : Int} (hx : ev env x = some (.int k a)) (hy : ev env y = some (.int k b)) (hdst : Nat.blt dst fsz = true) (kont : L P all Q fsz σ rest ((dst, (.int k (k.wrap (a - b)))) :: env) h) : L P all Q fsz σ (⟨some dst, .binOp .sub t x y yt, ty, pos, af, none⟩ :: rest) env h :=
  L.pure (Pu.subW hx hy) hdst kont
theorem LQ.subW {t yt : TypeId} {x y : Operand} {k : IntKind} {a b : Int} (hx : ev env x = some (.int k a)) (hy : ev env y = some (.int k b)) (hdst : Nat.blt dst fsz = true) (kont : LQ P all K F fsz σ rest ((dst, (.int k (k.wrap (a - b)))) :: env)) : LQ P all K F fsz σ (⟨some dst, .binOp .sub t x y yt, ty, pos, af, none⟩ :: rest) env :=
  LQ.pure (fun _ _ => Pu.subW hx hy) hdst kont
theorem L.mulW {t yt : TypeId} {x y : Operand} {k : IntKind} {a b : Int} (hx : ev env x = some (.int k a)) (hy : ev env y = some (.int k b)) (hdst : Nat.blt dst fsz = true) (kont : L P all Q fsz σ rest ((dst, (.int k (k.wrap (a * b)))) :: env) h) : L P all Q fsz σ (⟨some dst, .binOp .mul t x y yt, ty, pos, af, none⟩ :: rest) env h :=
  L.pure (Pu.mulW hx hy) hdst kont
theorem LQ.mulW {t yt : TypeId} {x y : Operand} {k : IntKind} {a b : Int} (hx : ev env x = some (.int k a)) (hy : ev env y = some (.int k b)) (hdst : Nat.blt dst fsz = true) (kont : LQ P all K F fsz σ rest ((dst, (.int k (k.wrap (a * b)))) :: env)) : LQ P all K F fsz σ (⟨some dst, .binOp .mul t x y yt, ty, pos, af, none⟩ :: rest) env :=
  LQ.pure (fun _ _ => Pu.mulW hx hy) hdst kont
theorem L.addU {t yt : TypeId} {x y : Operand} {a b : Nat} (hx : ev env x = some (.int .u64 (a : Int))) (hy : ev env y = some (.int .u64 (b : Int))) (hdst : Nat.blt dst fsz = true) (kont : L P all Q fsz σ rest ((dst, (.int .u64 (((a + b) % 18446744073709551616 : Nat) : Int))) :: env) h) : L P all Q fsz σ (⟨some dst, .binOp .add t x y yt, ty, pos, af, none⟩ :: rest) env h :=
  L.pure (Pu.addU hx hy) hdst kont
theorem LQ.addU {t yt : TypeId} {x y : Operand} {a b : Nat} (hx : ev env x = some (.int .u64 (a : Int))) (hy : ev env y = some (.int .u64 (b : Int))) (hdst : Nat.blt dst fsz = true) (kont : LQ P all K F fsz σ rest ((dst, (.int .u64 (((a + b) % 18446744073709551616 : Nat) : Int))) :: env)) : LQ P all K F fsz σ (⟨some dst, .binOp .add t x y yt, ty, pos, af, none⟩ :: rest) env :=
  LQ.pure (fun _ _ => Pu.addU hx hy) hdst kont
theorem L.mulU {t yt : TypeId} {x y : Operand} {a b : Nat} (hx : ev env x = some (.int .u64 (a : Int))) (hy : ev env y = some (.int .u64 (b : Int))) (hdst : Nat.blt dst fsz = true) (kont : L P all Q fsz σ rest ((dst, (.int .u64 (((a * b) % 18446744073709551616 : Nat) : Int))) :: env) h) : L P all Q fsz σ (⟨some dst, .binOp .mul t x y yt, ty, pos, af, none⟩ :: rest) env h :=
  L.pure (Pu.mulU hx hy) hdst kont
theorem LQ.mulU {t yt : TypeId} {x y : Operand} {a b : Nat} (hx : ev env x = some (.int .u64 (a : Int))) (hy : ev env y = some (.int .u64 (b : Int))) (hdst : Nat.blt dst fsz = true) (kont : LQ P all K F fsz σ rest ((dst, (.int .u64 (((a * b) % 18446744073709551616 : Nat) : Int))) :: env)) : LQ P all K F fsz σ (⟨some dst, .binOp .mul t x y yt, ty, pos, af, none⟩ :: rest) env :=
  LQ.pure (fun _ _ => Pu.mulU hx hy) hdst kont
theorem L.quoU {t yt : TypeId} {x y : Operand} {k : IntKind} {a b : Nat} (hx : ev env x = some (.int k (a : Int))) (hy : ev env y = some (.int k (b : Int))) (hb : b ≠ 0) (hw : k.wrap ((a / b : Nat) : Int) = ((a / b : Nat) : Int)) (hdst : Nat.blt dst fsz = true) (kont : L P all Q fsz σ rest ((dst, (.int k ((a / b : Nat) : Int))) :: env) h) : L P all Q fsz σ (⟨some dst, .binOp .quo t x y yt, ty, pos, af, none⟩ :: rest) env h :=
  L.pure (Pu.quoU hx hy hb hw) hdst kont
theorem LQ.quoU {t yt : TypeId} {x y : Operand} {k : IntKind} {a b : Nat} (hx : ev env x = some (.int k (a : Int))) (hy : ev env y = some (.int k (b : Int))) (hb : b ≠ 0) (hw : k.wrap ((a / b : Nat) : Int) = ((a / b : Nat) : Int)) (hdst : Nat.blt dst fsz = true) (kont : LQ P all K F fsz σ rest ((dst, (.int k ((a / b : Nat) : Int))) :: env)) : LQ P all K F fsz σ (⟨some dst, .binOp .quo t x y yt, ty, pos, af, none⟩ :: rest) env :=
  LQ.pure (fun _ _ => Pu.quoU hx hy hb hw) hdst kont
theorem L.remU {t yt : TypeId} {x y : Operand} {k : IntKind} {a b : Nat} (hx : ev env x = some (.int k (a : Int))) (hy : ev env y = some (.int k (b : Int))) (hb : b ≠ 0) (hdst : Nat.blt dst fsz = true) (kont : L P all Q fsz σ rest ((dst, (.int k ((a % b : Nat) : Int))) :: env) h) : L P all Q fsz σ (⟨some dst, .binOp .rem t x y yt, ty, pos, af, none⟩ :: rest) env h :=
  L.pure (Pu.remU hx hy hb) hdst kont
theorem LQ.remU {t yt : TypeId} {x y : Operand} {k : IntKind} {a b : Nat} (hx : ev env x = some (.int k (a : Int))) (hy : ev env y = some (.int k (b : Int))) (hb : b ≠ 0) (hdst : Nat.blt dst fsz = true) (kont : LQ P all K F fsz σ rest ((dst, (.int k ((a % b : Nat) : Int))) :: env)) : LQ P all K F fsz σ (⟨some dst, .binOp .rem t x y yt, ty, pos, af, none⟩ :: rest) env :=
  LQ.pure (fun _ _ => Pu.remU hx hy hb) hdst kont
theorem L.andU {t yt : TypeId} {x y : Operand} {k : IntKind} {a b : Nat} (hx : ev env x = some (.int k (a : Int))) (hy : ev env y = some (.int k (b : Int))) (hs : k.signed = false) (ha : a < 2 ^ k.bits) (hb : b < 2 ^ k.bits) (hdst : Nat.blt dst fsz = true) (kont : L P all Q fsz σ rest ((dst, (.int k ((a &&& b : Nat) : Int))) :: env) h) : L P all Q fsz σ (⟨some dst, .binOp .and t x y yt, ty, pos, af, none⟩ :: rest) env h :=
  L.pure (Pu.andU hx hy hs ha hb) hdst kont
theorem LQ.andU {t yt : TypeId} {x y : Operand} {k : IntKind} {a b : Nat} (hx : ev env x = some (.int k (a : Int))) (hy : ev env y = some (.int k (b : Int))) (hs : k.signed = false) (ha : a < 2 ^ k.bits) (hb : b < 2 ^ k.bits) (hdst : Nat.blt dst fsz = true) (kont : LQ P all K F fsz σ rest ((dst, (.int k ((a &&& b : Nat) : Int))) :: env)) : LQ P all K F fsz σ (⟨some dst, .binOp .and t x y yt, ty, pos, af, none⟩ :: rest) env :=
  LQ.pure (fun _ _ => Pu.andU hx hy hs ha hb) hdst kont
theorem L.orU {t yt : TypeId} {x y : Operand} {k : IntKind} {a b : Nat} (hx : ev env x = some (.int k (a : Int))) (hy : ev env y = some (.int k (b : Int))) (hs : k.signed = false) (ha : a < 2 ^ k.bits) (hb : b < 2 ^ k.bits) (hdst : Nat.blt dst fsz = true) (kont : L P all Q fsz σ rest ((dst, (.int k ((a ||| b : Nat) : Int))) :: env) h) : L P all Q fsz σ (⟨some dst, .binOp .or t x y yt, ty, pos, af, none⟩ :: rest) env h :=
  L.pure (Pu.orU hx hy hs ha hb) hdst kont
theorem LQ.orU {t yt : TypeId} {x y : Operand} {k : IntKind} {a b : Nat} (hx : ev env x = some (.int k (a : Int))) (hy : ev env y = some (.int k (b : Int))) (hs : k.signed = false) (ha : a < 2 ^ k.bits) (hb : b < 2 ^ k.bits) (hdst : Nat.blt dst fsz = true) (kont : LQ P all K F fsz σ rest ((dst, (.int k ((a ||| b : Nat) : Int))) :: env)) : LQ P all K F fsz σ (⟨some dst, .binOp .or t x y yt, ty, pos, af, none⟩ :: rest) env :=
  LQ.pure (fun _ _ => Pu.orU hx hy hs ha hb) hdst kont
theorem L.xorU {t yt : TypeId} {x y : Operand} {k : IntKind} {a b : Nat} (hx : ev env x = some (.int k (a : Int))) (hy : ev env y = some (.int k (b : Int))) (hs : k.signed = false) (ha : a < 2 ^ k.bits) (hb : b < 2 ^ k.bits) (hdst : Nat.blt dst fsz = true) (kont : L P all Q fsz σ rest ((dst, (.int k ((a ^^^ b : Nat) : Int))) :: env) h) : L P all Q fsz σ (⟨some dst, .binOp .xor t x y yt, ty, pos, af, none⟩ :: rest) env h :=
  L.pure (Pu.xorU hx hy hs ha hb) hdst kont
theorem LQ.xorU {t yt : TypeId} {x y : Operand} {k : IntKind} {a b : Nat} (hx : ev env x = some (.int k (a : Int))) (hy : ev env y = some (.int k (b : Int))) (hs : k.signed = false) (ha : a < 2 ^ k.bits) (hb : b < 2 ^ k.bits) (hdst : Nat.blt dst fsz = true) (kont : LQ P all K F fsz σ rest ((dst, (.int k ((a ^^^ b : Nat) : Int))) :: env)) : LQ P all K F fsz σ (⟨some dst, .binOp .xor t x y yt, ty, pos, af, none⟩ :: rest) env :=
  LQ.pure (fun _ _ => Pu.xorU hx hy hs ha hb) hdst kont
theorem L.shl {t yt : TypeId} {x y : Operand} {k ky : IntKind} {a b : Nat} (hx : ev env x = some (.int k (a : Int))) (hy : ev env y = some (.int ky (b : Int))) (hb : b ≤ k.bits) (hdst : Nat.blt dst fsz = true) (kont : L P all Q fsz σ rest ((dst, (.int k (k.wrap ((a * 2 ^ b : Nat) : Int)))) :: env) h) : L P all Q fsz σ (⟨some dst, .binOp .shl t x y yt, ty, pos, af, none⟩ :: rest) env h :=
  L.pure (Pu.shl hx hy hb) hdst kont
theorem LQ.shl {t yt : TypeId} {x y : Operand} {k ky : IntKind} {a b : Nat} (hx : ev env x = some (.int k (a : Int))) (hy : ev env y = some (.int ky (b : Int))) (hb : b ≤ k.bits) (hdst : Nat.blt dst fsz = true) (kont : LQ P all K F fsz σ rest ((dst, (.int k (k.wrap ((a * 2 ^ b : Nat) : Int)))) :: env)) : LQ P all K F fsz σ (⟨some dst, .binOp .shl t x y yt, ty, pos, af, none⟩ :: rest) env :=
  LQ.pure (fun _ _ => Pu.shl hx hy hb) hdst kont
theorem L.shr {t yt : TypeId} {x y : Operand} {k ky : IntKind} {a b : Nat} (hx : ev env x = some (.int k (a : Int))) (hy : ev env y = some (.int ky (b : Int))) (hb : b ≤ k.bits) (hdst : Nat.blt dst fsz = true) (kont : L P all Q fsz σ rest ((dst, (.int k ((a / 2 ^ b : Nat) : Int))) :: env) h) : L P all Q fsz σ (⟨some dst, .binOp .shr t x y yt, ty, pos, af, none⟩ :: rest) env h :=
  L.pure (Pu.shr hx hy hb) hdst kont
theorem LQ.shr {t yt : TypeId} {x y : Operand} {k ky : IntKind} {a b : Nat} (hx : ev env x = some (.int k (a : Int))) (hy : ev env y = some (.int ky (b : Int))) (hb : b ≤ k.bits) (hdst : Nat.blt dst fsz = true) (kont : LQ P all K F fsz σ rest ((dst, (.int k ((a / 2 ^ b : Nat) : Int))) :: env)) : LQ P all K F fsz σ (⟨some dst, .binOp .shr t x y yt, ty, pos, af, none⟩ :: rest) env :=
  LQ.pure (fun _ _ => Pu.shr hx hy hb) hdst kont
theorem L.shrI {t yt : TypeId} {x y : Operand} {k ky : IntKind} {a : Nat} {b : Int} (hx : ev env x = some (.int k (a : Int))) (hy : ev env y = some (.int ky b)) (h0 : 0 ≤ b) (hb : b ≤ k.bits) (hdst : Nat.blt dst fsz = true) (kont : L P all Q fsz σ rest ((dst, (.int k ((a / 2 ^ b.toNat : Nat) : Int))) :: env) h) : L P all Q fsz σ (⟨some dst, .binOp .shr t x y yt, ty, pos, af, none⟩ :: rest) env h :=
  L.pure (Pu.shrI hx hy h0 hb) hdst kont
theorem LQ.shrI {t yt : TypeId} {x y : Operand} {k ky : IntKind} {a : Nat} {b : Int} (hx : ev env x = some (.int k (a : Int))) (hy : ev env y = some (.int ky b)) (h0 : 0 ≤ b) (hb : b ≤ k.bits) (hdst : Nat.blt dst fsz = true) (kont : LQ P all K F fsz σ rest ((dst, (.int k ((a / 2 ^ b.toNat : Nat) : Int))) :: env)) : LQ P all K F fsz σ (⟨some dst, .binOp .shr t x y yt, ty, pos, af, none⟩ :: rest) env :=
  LQ.pure (fun _ _ => Pu.shrI hx hy h0 hb) hdst kont
theorem L.shlU {t yt : TypeId} {x y : Operand} {ky : IntKind} {a b : Nat} (hx : ev env x = some (.int .u64 (a : Int))) (hy : ev env y = some (.int ky (b : Int))) (hb : b ≤ 64) (hdst : Nat.blt dst fsz = true) (kont : L P all Q fsz σ rest ((dst, (.int .u64 (((a * 2 ^ b) % 18446744073709551616 : Nat) : Int))) :: env) h) : L P all Q fsz σ (⟨some dst, .binOp .shl t x y yt, ty, pos, af, none⟩ :: rest) env h :=
  L.pure (Pu.shlU hx hy hb) hdst kont
theorem LQ.shlU {t yt : TypeId} {x y : Operand} {ky : IntKind} {a b : Nat} (hx : ev env x = some (.int .u64 (a : Int))) (hy : ev env y = some (.int ky (b : Int))) (hb : b ≤ 64) (hdst : Nat.blt dst fsz = true) (kont : LQ P all K F fsz σ rest ((dst, (.int .u64 (((a * 2 ^ b) % 18446744073709551616 : Nat) : Int))) :: env)) : LQ P all K F fsz σ (⟨some dst, .binOp .shl t x y yt, ty, pos, af, none⟩ :: rest) env :=
  LQ.pure (fun _ _ => Pu.shlU hx hy hb) hdst kont
theorem L.eql {t yt : TypeId} {x y : Operand} {k : IntKind} {a b : Int} (hx : ev env x = some (.int k a)) (hy : ev env y = some (.int k b)) (hdst : Nat.blt dst fsz = true) (kont : L P all Q fsz σ rest ((dst, (.bool (decide (a = b)))) :: env) h) : L P all Q fsz σ (⟨some dst, .binOp .eql t x y yt, ty, pos, af, none⟩ :: rest) env h :=
  L.pure (Pu.eql hx hy) hdst kont
theorem LQ.eql {t yt : TypeId} {x y : Operand} {k : IntKind} {a b : Int} (hx : ev env x = some (.int k a)) (hy : ev env y = some (.int k b)) (hdst : Nat.blt dst fsz = true) (kont : LQ P all K F fsz σ rest ((dst, (.bool (decide (a = b)))) :: env)) : LQ P all K F fsz σ (⟨some dst, .binOp .eql t x y yt, ty, pos, af, none⟩ :: rest) env :=
  LQ.pure (fun _ _ => Pu.eql hx hy) hdst kont
theorem L.neq {t yt : TypeId} {x y : Operand} {k : IntKind} {a b : Int} (hx : ev env x = some (.int k a)) (hy : ev env y = some (.int k b)) (hdst : Nat.blt dst fsz = true) (kont : L P all Q fsz σ rest ((dst, (.bool (decide (a ≠ b)))) :: env) h) : L P all Q fsz σ (⟨some dst, .binOp .neq t x y yt, ty, pos, af, none⟩ :: rest) env h :=
  L.pure (Pu.neq hx hy) hdst kont
theorem LQ.neq {t yt : TypeId} {x y : Operand} {k : IntKind} {a b : Int} (hx : ev env x = some (.int k a)) (hy : ev env y = some (.int k b)) (hdst : Nat.blt dst fsz = true) (kont : LQ P all K F fsz σ rest ((dst, (.bool (decide (a ≠ b)))) :: env)) : LQ P all K F fsz σ (⟨some dst, .binOp .neq t x y yt, ty, pos, af, none⟩ :: rest) env :=
  LQ.pure (fun _ _ => Pu.neq hx hy) hdst kont
theorem L.lss {t yt : TypeId} {x y : Operand} {k : IntKind} {a b : Int} (hx : ev env x = some (.int k a)) (hy : ev env y = some (.int k b)) (hdst : Nat.blt dst fsz = true) (kont : L P all Q fsz σ rest ((dst, (.bool (decide (a < b)))) :: env) h) : L P all Q fsz σ (⟨some dst, .binOp .lss t x y yt, ty, pos, af, none⟩ :: rest) env h :=
  L.pure (Pu.lss hx hy) hdst kont
theorem LQ.lss {t yt : TypeId} {x y : Operand} {k : IntKind} {a b : Int} (hx : ev env x = some (.int k a)) (hy : ev env y = some (.int k b)) (hdst : Nat.blt dst fsz = true) (kont : LQ P all K F fsz σ rest ((dst, (.bool (decide (a < b)))) :: env)) : LQ P all K F fsz σ (⟨some dst, .binOp .lss t x y yt, ty, pos, af, none⟩ :: rest) env :=
  LQ.pure (fun _ _ => Pu.lss hx hy) hdst kont
theorem L.leq {t yt : TypeId} {x y : Operand} {k : IntKind} {a b : Int} (hx : ev env x = some (.int k a)) (hy : ev env y = some (.int k b)) (hdst : Nat.blt dst fsz = true) (kont : L P all Q fsz σ rest ((dst, (.bool (decide (a ≤ b)))) :: env) h) : L P all Q fsz σ (⟨some dst, .binOp .leq t x y yt, ty, pos, af, none⟩ :: rest) env h :=
  L.pure (Pu.leq hx hy) hdst kont
theorem LQ.leq {t yt : TypeId} {x y : Operand} {k : IntKind} {a b : Int} (hx : ev env x = some (.int k a)) (hy : ev env y = some (.int k b)) (hdst : Nat.blt dst fsz = true) (kont : LQ P all K F fsz σ rest ((dst, (.bool (decide (a ≤ b)))) :: env)) : LQ P all K F fsz σ (⟨some dst, .binOp .leq t x y yt, ty, pos, af, none⟩ :: rest) env :=
  LQ.pure (fun _ _ => Pu.leq hx hy) hdst kont
theorem L.gtr {t yt : TypeId} {x y : Operand} {k : IntKind} {a b : Int} (hx : ev env x = some (.int k a)) (hy : ev env y = some (.int k b)) (hdst : Nat.blt dst fsz = true) (kont : L P all Q fsz σ rest ((dst, (.bool (decide (a > b)))) :: env) h) : L P all Q fsz σ (⟨some dst, .binOp .gtr t x y yt, ty, pos, af, none⟩ :: rest) env h :=
  L.pure (Pu.gtr hx hy) hdst kont
theorem LQ.gtr {t yt : TypeId} {x y : Operand} {k : IntKind} {a b : Int} (hx : ev env x = some (.int k a)) (hy : ev env y = some (.int k b)) (hdst : Nat.blt dst fsz = true) (kont : LQ P all K F fsz σ rest ((dst, (.bool (decide (a > b)))) :: env)) : LQ P all K F fsz σ (⟨some dst, .binOp .gtr t x y yt, ty, pos, af, none⟩ :: rest) env :=
  LQ.pure (fun _ _ => Pu.gtr hx hy) hdst kont
theorem L.geq {t yt : TypeId} {x y : Operand} {k : IntKind} {a b : Int} (hx : ev env x = some (.int k a)) (hy : ev env y = some (.int k b)) (hdst : Nat.blt dst fsz = true) (kont : L P all Q fsz σ rest ((dst, (.bool (decide (a ≥ b)))) :: env) h) : L P all Q fsz σ (⟨some dst, .binOp .geq t x y yt, ty, pos, af, none⟩ :: rest) env h :=
  L.pure (Pu.geq hx hy) hdst kont
theorem LQ.geq {t yt : TypeId} {x y : Operand} {k : IntKind} {a b : Int} (hx : ev env x = some (.int k a)) (hy : ev env y = some (.int k b)) (hdst : Nat.blt dst fsz = true) (kont : LQ P all K F fsz σ rest ((dst, (.bool (decide (a ≥ b)))) :: env)) : LQ P all K F fsz σ (⟨some dst, .binOp .geq t x y yt, ty, pos, af, none⟩ :: rest) env :=
  LQ.pure (fun _ _ => Pu.geq hx hy) hdst kont
theorem L.eqlT {t yt : TypeId} {x y : Operand} {k : IntKind} {a b : Int} (hx : ev env x = some (.int k a)) (hy : ev env y = some (.int k b)) (hc : a = b) (hdst : Nat.blt dst fsz = true) (kont : L P all Q fsz σ rest ((dst, (.bool true)) :: env) h) : L P all Q fsz σ (⟨some dst, .binOp .eql t x y yt, ty, pos, af, none⟩ :: rest) env h :=
  L.pure (Pu.eqlT hx hy hc) hdst kont
theorem LQ.eqlT {t yt : TypeId} {x y : Operand} {k : IntKind} {a b : Int} (hx : ev env x = some (.int k a)) (hy : ev env y = some (.int k b)) (hc : a = b) (hdst : Nat.blt dst fsz = true) (kont : LQ P all K F fsz σ rest ((dst, (.bool true)) :: env)) : LQ P all K F fsz σ (⟨some dst, .binOp .eql t x y yt, ty, pos, af, none⟩ :: rest) env :=
  LQ.pure (fun _ _ => Pu.eqlT hx hy hc) hdst kont
theorem L.eqlF {t yt : TypeId} {x y : Operand} {k : IntKind} {a b : Int} (hx : ev env x = some (.int k a)) (hy : ev env y = some (.int k b)) (hc : ¬ (a = b)) (hdst : Nat.blt dst fsz = true) (kont : L P all Q fsz σ rest ((dst, (.bool false)) :: env) h) : L P all Q fsz σ (⟨some dst, .binOp .eql t x y yt, ty, pos, af, none⟩ :: rest) env h :=
  L.pure (Pu.eqlF hx hy hc) hdst kont
theorem LQ.eqlF {t yt : TypeId} {x y : Operand} {k : IntKind} {a b : Int} (hx : ev env x = some (.int k a)) (hy : ev env y = some (.int k b)) (hc : ¬ (a = b)) (hdst : Nat.blt dst fsz = true) (kont : LQ P all K F fsz σ rest ((dst, (.bool false)) :: env)) : LQ P all K F fsz σ (⟨some dst, .binOp .eql t x y yt, ty, pos, af, none⟩ :: rest) env :=
  LQ.pure (fun _ _ => Pu.eqlF hx hy hc) hdst kont
theorem L.neqT {t yt : TypeId} {x y : Operand} {k : IntKind} {a b : Int} (hx : ev env x = some (.int k a)) (hy : ev env y = some (.int k b)) (hc : a ≠ b) (hdst : Nat.blt dst fsz = true) (kont : L P all Q fsz σ rest ((dst, (.bool true)) :: env) h) : L P all Q fsz σ (⟨some dst, .binOp .neq t x y yt, ty, pos, af, none⟩ :: rest) env h :=
  L.pure (Pu.neqT hx hy hc) hdst kont
theorem LQ.neqT {t yt : TypeId} {x y : Operand} {k : IntKind} {a b : Int} (hx : ev env x = some (.int k a)) (hy : ev env y = some (.int k b)) (hc : a ≠ b) (hdst : Nat.blt dst fsz = true) (kont : LQ P all K F fsz σ rest ((dst, (.bool true)) :: env)) : LQ P all K F fsz σ (⟨some dst, .binOp .neq t x y yt, ty, pos, af, none⟩ :: rest) env :=
  LQ.pure (fun _ _ => Pu.neqT hx hy hc) hdst kont
theorem L.neqF {t yt : TypeId} {x y : Operand} {k : IntKind} {a b : Int} (hx : ev env x = some (.int k a)) (hy : ev env y = some (.int k b)) (hc : ¬ (a ≠ b)) (hdst : Nat.blt dst fsz = true) (kont : L P all Q fsz σ rest ((dst, (.bool false)) :: env) h) : L P all Q fsz σ (⟨some dst, .binOp .neq t x y yt, ty, pos, af, none⟩ :: rest) env h :=
  L.pure (Pu.neqF hx hy hc) hdst kont
theorem LQ.neqF {t yt : TypeId} {x y : Operand} {k : IntKind} {a b : Int} (hx : ev env x = some (.int k a)) (hy : ev env y = some (.int k b)) (hc : ¬ (a ≠ b)) (hdst : Nat.blt dst fsz = true) (kont : LQ P all K F fsz σ rest ((dst, (.bool false)) :: env)) : LQ P all K F fsz σ (⟨some dst, .binOp .neq t x y yt, ty, pos, af, none⟩ :: rest) env :=
  LQ.pure (fun _ _ => Pu.neqF hx hy hc) hdst kont
theorem L.lssT {t yt : TypeId} {x y : Operand} {k : IntKind} {a b : Int} (hx : ev env x = some (.int k a)) (hy : ev env y = some (.int k b)) (hc : a < b) (hdst : Nat.blt dst fsz = true) (kont : L P all Q fsz σ rest ((dst, (.bool true)) :: env) h) : L P all Q fsz σ (⟨some dst, .binOp .lss t x y yt, ty, pos, af, none⟩ :: rest) env h :=
  L.pure (Pu.lssT hx hy hc) hdst kont
theorem LQ.lssT {t yt : TypeId} {x y : Operand} {k : IntKind} {a b : Int} (hx : ev env x = some (.int k a)) (hy : ev env y = some (.int k b)) (hc : a < b) (hdst : Nat.blt dst fsz = true) (kont : LQ P all K F fsz σ rest ((dst, (.bool true)) :: env)) : LQ P all K F fsz σ (⟨some dst, .binOp .lss t x y yt, ty, pos, af, none⟩ :: rest) env :=
  LQ.pure (fun _ _ => Pu.lssT hx hy hc) hdst kont
theorem L.lssF {t yt : TypeId} {x y : Operand} {k : IntKind} {a b : Int} (hx : ev env x = some (.int k a)) (hy : ev env y = some (.int k b)) (hc : ¬ (a < b)) (hdst : Nat.blt dst fsz = true) (kont : L P all Q fsz σ rest ((dst, (.bool false)) :: env) h) : L P all Q fsz σ (⟨some dst, .binOp .lss t x y yt, ty, pos, af, none⟩ :: rest) env h :=
  L.pure (Pu.lssF hx hy hc) hdst kont
theorem LQ.lssF {t yt : TypeId} {x y : Operand} {k : IntKind} {a b : Int} (hx : ev env x = some (.int k a)) (hy : ev env y = some (.int k b)) (hc : ¬ (a < b)) (hdst : Nat.blt dst fsz = true) (kont : LQ P all K F fsz σ rest ((dst, (.bool false)) :: env)) : LQ P all K F fsz σ (⟨some dst, .binOp .lss t x y yt, ty, pos, af, none⟩ :: rest) env :=
  LQ.pure (fun _ _ => Pu.lssF hx hy hc) hdst kont
theorem L.leqT {t yt : TypeId} {x y : Operand} {k : IntKind} {a b : Int} (hx : ev env x = some (.int k a)) (hy : ev env y = some (.int k b)) (hc : a ≤ b) (hdst : Nat.blt dst fsz = true) (kont : L P all Q fsz σ rest ((dst, (.bool true)) :: env) h) : L P all Q fsz σ (⟨some dst, .binOp .leq t x y yt, ty, pos, af, none⟩ :: rest) env h :=
  L.pure (Pu.leqT hx hy hc) hdst kont
theorem LQ.leqT {t yt : TypeId} {x y : Operand} {k : IntKind} {a b : Int} (hx : ev env x = some (.int k a)) (hy : ev env y = some (.int k b)) (hc : a ≤ b) (hdst : Nat.blt dst fsz = true) (kont : LQ P all K F fsz σ rest ((dst, (.bool true)) :: env)) : LQ P all K F fsz σ (⟨some dst, .binOp .leq t x y yt, ty, pos, af, none⟩ :: rest) env :=
  LQ.pure (fun _ _ => Pu.leqT hx hy hc) hdst kont
theorem L.leqF {t yt : TypeId} {x y : Operand} {k : IntKind} {a b : Int} (hx : ev env x = some (.int k a)) (hy : ev env y = some (.int k b)) (hc : ¬ (a ≤ b)) (hdst : Nat.blt dst fsz = true) (kont : L P all Q fsz σ rest ((dst, (.bool false)) :: env) h) : L P all Q fsz σ (⟨some dst, .binOp .leq t x y yt, ty, pos, af, none⟩ :: rest) env h :=
  L.pure (Pu.leqF hx hy hc) hdst kont
theorem LQ.leqF {t yt : TypeId} {x y : Operand} {k : IntKind} {a b : Int} (hx : ev env x = some (.int k a)) (hy : ev env y = some (.int k b)) (hc : ¬ (a ≤ b)) (hdst : Nat.blt dst fsz = true) (kont : LQ P all K F fsz σ rest ((dst, (.bool false)) :: env)) : LQ P all K F fsz σ (⟨some dst, .binOp .leq t x y yt, ty, pos, af, none⟩ :: rest) env :=
  LQ.pure (fun _ _ => Pu.leqF hx hy hc) hdst kont
theorem L.gtrT {t yt : TypeId} {x y : Operand} {k : IntKind} {a b : Int} (hx : ev env x = some (.int k a)) (hy : ev env y = some (.int k b)) (hc : a > b) (hdst : Nat.blt dst fsz = true) (kont : L P all Q fsz σ rest ((dst, (.bool true)) :: env) h) : L P all Q fsz σ (⟨some dst, .binOp .gtr t x y yt, ty, pos, af, none⟩ :: rest) env h :=
  L.pure (Pu.gtrT hx hy hc) hdst kont
theorem LQ.gtrT {t yt : TypeId} {x y : Operand} {k : IntKind} {a b : Int} (hx : ev env x = some (.int k a)) (hy : ev env y = some (.int k b)) (hc : a > b) (hdst : Nat.blt dst fsz = true) (kont : LQ P all K F fsz σ rest ((dst, (.bool true)) :: env)) : LQ P all K F fsz σ (⟨some dst, .binOp .gtr t x y yt, ty, pos, af, none⟩ :: rest) env :=
  LQ.pure (fun _ _ => Pu.gtrT hx hy hc) hdst kont
theorem L.gtrF {t yt : TypeId} {x y : Operand} {k : IntKind} {a b : Int} (hx : ev env x = some (.int k a)) (hy : ev env y = some (.int k b)) (hc : ¬ (a > b)) (hdst : Nat.blt dst fsz = true) (kont : L P all Q fsz σ rest ((dst, (.bool false)) :: env) h) : L P all Q fsz σ (⟨some dst, .binOp .gtr t x y yt, ty, pos, af, none⟩ :: rest) env h :=
  L.pure (Pu.gtrF hx hy hc) hdst kont
theorem LQ.gtrF {t yt : TypeId} {x y : Operand} {k : IntKind} {a b : Int} (hx : ev env x = some (.int k a)) (hy : ev env y = some (.int k b)) (hc : ¬ (a > b)) (hdst : Nat.blt dst fsz = true) (kont : LQ P all K F fsz σ rest ((dst, (.bool false)) :: env)) : LQ P all K F fsz σ (⟨some dst, .binOp .gtr t x y yt, ty, pos, af, none⟩ :: rest) env :=
  LQ.pure (fun _ _ => Pu.gtrF hx hy hc) hdst kont
theorem L.geqT {t yt : TypeId} {x y : Operand} {k : IntKind} {a b : Int} (hx : ev env x = some (.int k a)) (hy : ev env y = some (.int k b)) (hc : a ≥ b) (hdst : Nat.blt dst fsz = true) (kont : L P all Q fsz σ rest ((dst, (.bool true)) :: env) h) : L P all Q fsz σ (⟨some dst, .binOp .geq t x y yt, ty, pos, af, none⟩ :: rest) env h :=
  L.pure (Pu.geqT hx hy hc) hdst kont
theorem LQ.geqT {t yt : TypeId} {x y : Operand} {k : IntKind} {a b : Int} (hx : ev env x = some (.int k a)) (hy : ev env y = some (.int k b)) (hc : a ≥ b) (hdst : Nat.blt dst fsz = true) (kont : LQ P all K F fsz σ rest ((dst, (.bool true)) :: env)) : LQ P all K F fsz σ (⟨some dst, .binOp .geq t x y yt, ty, pos, af, none⟩ :: rest) env :=
  LQ.pure (fun _ _ => Pu.geqT hx hy hc) hdst kont
theorem L.geqF {t yt : TypeId} {x y : Operand} {k : IntKind} {a b : Int} (hx : ev env x = some (.int k a)) (hy : ev env y = some (.int k b)) (hc : ¬ (a ≥ b)) (hdst : Nat.blt dst fsz = true) (kont : L P all Q fsz σ rest ((dst, (.bool false)) :: env) h) : L P all Q fsz σ (⟨some dst, .binOp .geq t x y yt, ty, pos, af, none⟩ :: rest) env h :=
  L.pure (Pu.geqF hx hy hc) hdst kont
theorem LQ.geqF {t yt : TypeId} {x y : Operand} {k : IntKind} {a b : Int} (hx : ev env x = some (.int k a)) (hy : ev env y = some (.int k b)) (hc : ¬ (a ≥ b)) (hdst : Nat.blt dst fsz = true) (kont : LQ P all K F fsz σ rest ((dst, (.bool false)) :: env)) : LQ P all K F fsz σ (⟨some dst, .binOp .geq t x y yt, ty, pos, af, none⟩ :: rest) env :=
  LQ.pure (fun _ _ => Pu.geqF hx hy hc) hdst kont
theorem L.eqlB {t yt : TypeId} {x y : Operand} {a b : Bool} (ht : P.underlying t = some .bool) (hx : ev env x = some (.bool a)) (hy : ev env y = some (.bool b)) (hdst : Nat.blt dst fsz = true) (kont : L P all Q fsz σ rest ((dst, (.bool (decide (a = b)))) :: env) h) : L P all Q fsz σ (⟨some dst, .binOp .eql t x y yt, ty, pos, af, none⟩ :: rest) env h :=
  L.pure (Pu.eqlB ht hx hy) hdst kont
theorem LQ.eqlB {t yt : TypeId} {x y : Operand} {a b : Bool} (ht : P.underlying t = some .bool) (hx : ev env x = some (.bool a)) (hy : ev env y = some (.bool b)) (hdst : Nat.blt dst fsz = true) (kont : LQ P all K F fsz σ rest ((dst, (.bool (decide (a = b)))) :: env)) : LQ P all K F fsz σ (⟨some dst, .binOp .eql t x y yt, ty, pos, af, none⟩ :: rest) env :=
  LQ.pure (fun _ _ => Pu.eqlB ht hx hy) hdst kont
theorem L.neqB {t yt : TypeId} {x y : Operand} {a b : Bool} (ht : P.underlying t = some .bool) (hx : ev env x = some (.bool a)) (hy : ev env y = some (.bool b)) (hdst : Nat.blt dst fsz = true) (kont : L P all Q fsz σ rest ((dst, (.bool (decide (a ≠ b)))) :: env) h) : L P all Q fsz σ (⟨some dst, .binOp .neq t x y yt, ty, pos, af, none⟩ :: rest) env h :=
  L.pure (Pu.neqB ht hx hy) hdst kont
theorem LQ.neqB {t yt : TypeId} {x y : Operand} {a b : Bool} (ht : P.underlying t = some .bool) (hx : ev env x = some (.bool a)) (hy : ev env y = some (.bool b)) (hdst : Nat.blt dst fsz = true) (kont : LQ P all K F fsz σ rest ((dst, (.bool (decide (a ≠ b)))) :: env)) : LQ P all K F fsz σ (⟨some dst, .binOp .neq t x y yt, ty, pos, af, none⟩ :: rest) env :=
  LQ.pure (fun _ _ => Pu.neqB ht hx hy) hdst kont
theorem L.eqlNil {t yt e : TypeId} {x : Operand} {a : Addr} (hx : ev env x = some (.pointer (some a))) (ht : P.underlying t = some (.pointer e)) (hdst : Nat.blt dst fsz = true) (kont : L P all Q fsz σ rest ((dst, (.bool false)) :: env) h) : L P all Q fsz σ (⟨some dst, .binOp .eql t x (.const (.pointer none)) yt, ty, pos, af, none⟩ :: rest) env h :=
  L.pure (Pu.eqlNil hx ht) hdst kont
theorem LQ.eqlNil {t yt e : TypeId} {x : Operand} {a : Addr} (hx : ev env x = some (.pointer (some a))) (ht : P.underlying t = some (.pointer e)) (hdst : Nat.blt dst fsz = true) (kont : LQ P all K F fsz σ rest ((dst, (.bool false)) :: env)) : LQ P all K F fsz σ (⟨some dst, .binOp .eql t x (.const (.pointer none)) yt, ty, pos, af, none⟩ :: rest) env :=
  LQ.pure (fun _ _ => Pu.eqlNil hx ht) hdst kont
theorem L.neqNil {t yt e : TypeId} {x : Operand} {a : Addr} (hx : ev env x = some (.pointer (some a))) (ht : P.underlying t = some (.pointer e)) (hdst : Nat.blt dst fsz = true) (kont : L P all Q fsz σ rest ((dst, (.bool true)) :: env) h) : L P all Q fsz σ (⟨some dst, .binOp .neq t x (.const (.pointer none)) yt, ty, pos, af, none⟩ :: rest) env h :=
  L.pure (Pu.neqNil hx ht) hdst kont
theorem LQ.neqNil {t yt e : TypeId} {x : Operand} {a : Addr} (hx : ev env x = some (.pointer (some a))) (ht : P.underlying t = some (.pointer e)) (hdst : Nat.blt dst fsz = true) (kont : LQ P all K F fsz σ rest ((dst, (.bool true)) :: env)) : LQ P all K F fsz σ (⟨some dst, .binOp .neq t x (.const (.pointer none)) yt, ty, pos, af, none⟩ :: rest) env :=
  LQ.pure (fun _ _ => Pu.neqNil hx ht) hdst kont
theorem L.conv {s t : TypeId} {x : Operand} {k k' : IntKind} {a : Int} {du : TypeDesc} (hs : P.underlying s = some du) (ht : P.underlying t = some (.int k)) (hx : ev env x = some (.int k' a)) (hdst : Nat.blt dst fsz = true) (kont : L P all Q fsz σ rest ((dst, (.int k (k.wrap a))) :: env) h) : L P all Q fsz σ (⟨some dst, .convert s t x, ty, pos, af, none⟩ :: rest) env h :=
  L.pure (Pu.conv hs ht hx) hdst kont
theorem LQ.conv {s t : TypeId} {x : Operand} {k k' : IntKind} {a : Int} {du : TypeDesc} (hs : P.underlying s = some du) (ht : P.underlying t = some (.int k)) (hx : ev env x = some (.int k' a)) (hdst : Nat.blt dst fsz = true) (kont : LQ P all K F fsz σ rest ((dst, (.int k (k.wrap a))) :: env)) : LQ P all K F fsz σ (⟨some dst, .convert s t x, ty, pos, af, none⟩ :: rest) env :=
  LQ.pure (fun _ _ => Pu.conv hs ht hx) hdst kont
theorem L.convSame {s t : TypeId} {x : Operand} {k k' : IntKind} {a : Int} {du : TypeDesc} (hx : ev env x = some (.int k' a)) (hs : P.underlying s = some du) (ht : P.underlying t = some (.int k)) (hw : k.wrap a = a) (hdst : Nat.blt dst fsz = true) (kont : L P all Q fsz σ rest ((dst, (.int k a)) :: env) h) : L P all Q fsz σ (⟨some dst, .convert s t x, ty, pos, af, none⟩ :: rest) env h :=
  L.pure (Pu.convSame hx hs ht hw) hdst kont
theorem LQ.convSame {s t : TypeId} {x : Operand} {k k' : IntKind} {a : Int} {du : TypeDesc} (hx : ev env x = some (.int k' a)) (hs : P.underlying s = some du) (ht : P.underlying t = some (.int k)) (hw : k.wrap a = a) (hdst : Nat.blt dst fsz = true) (kont : LQ P all K F fsz σ rest ((dst, (.int k a)) :: env)) : LQ P all K F fsz σ (⟨some dst, .convert s t x, ty, pos, af, none⟩ :: rest) env :=
  LQ.pure (fun _ _ => Pu.convSame hx hs ht hw) hdst kont
theorem L.convU8 {s t : TypeId} {x : Operand} {k' : IntKind} {a : Nat} {du : TypeDesc} (hx : ev env x = some (.int k' (a : Int))) (hs : P.underlying s = some du) (ht : P.underlying t = some (.int .u8)) (hdst : Nat.blt dst fsz = true) (kont : L P all Q fsz σ rest ((dst, (.int .u8 ((a % 256 : Nat) : Int))) :: env) h) : L P all Q fsz σ (⟨some dst, .convert s t x, ty, pos, af, none⟩ :: rest) env h :=
  L.pure (Pu.convU8 hx hs ht) hdst kont
theorem LQ.convU8 {s t : TypeId} {x : Operand} {k' : IntKind} {a : Nat} {du : TypeDesc} (hx : ev env x = some (.int k' (a : Int))) (hs : P.underlying s = some du) (ht : P.underlying t = some (.int .u8)) (hdst : Nat.blt dst fsz = true) (kont : LQ P all K F fsz σ rest ((dst, (.int .u8 ((a % 256 : Nat) : Int))) :: env)) : LQ P all K F fsz σ (⟨some dst, .convert s t x, ty, pos, af, none⟩ :: rest) env :=
  LQ.pure (fun _ _ => Pu.convU8 hx hs ht) hdst kont
theorem L.len {t : TypeId} {x : Operand} {e : TypeId} {a : Option Addr} {n c : Nat} (ht : P.underlying t = some (.slice e)) (hx : ev env x = some (.slice a n c)) (hdst : Nat.blt dst fsz = true) (kont : L P all Q fsz σ rest ((dst, (.int .i64 (n : Int))) :: env) h) : L P all Q fsz σ (⟨some dst, .call { callee := .builtin .len, args := #[x], argTypes := #[t] }, ty, pos, af, none⟩ :: rest) env h :=
  L.pure (Pu.len ht hx) hdst kont
theorem LQ.len {t : TypeId} {x : Operand} {e : TypeId} {a : Option Addr} {n c : Nat} (ht : P.underlying t = some (.slice e)) (hx : ev env x = some (.slice a n c)) (hdst : Nat.blt dst fsz = true) (kont : LQ P all K F fsz σ rest ((dst, (.int .i64 (n : Int))) :: env)) : LQ P all K F fsz σ (⟨some dst, .call { callee := .builtin .len, args := #[x], argTypes := #[t] }, ty, pos, af, none⟩ :: rest) env :=
  LQ.pure (fun _ _ => Pu.len ht hx) hdst kont
theorem L.lenS {t : TypeId} {x : Operand} {s : ByteArray} (ht : P.underlying t = some .string) (hx : ev env x = some (.string s)) (hdst : Nat.blt dst fsz = true) (kont : L P all Q fsz σ rest ((dst, (.int .i64 (s.size : Int))) :: env) h) : L P all Q fsz σ (⟨some dst, .call { callee := .builtin .len, args := #[x], argTypes := #[t] }, ty, pos, af, none⟩ :: rest) env h :=
  L.pure (Pu.lenS ht hx) hdst kont
theorem LQ.lenS {t : TypeId} {x : Operand} {s : ByteArray} (ht : P.underlying t = some .string) (hx : ev env x = some (.string s)) (hdst : Nat.blt dst fsz = true) (kont : LQ P all K F fsz σ rest ((dst, (.int .i64 (s.size : Int))) :: env)) : LQ P all K F fsz σ (⟨some dst, .call { callee := .builtin .len, args := #[x], argTypes := #[t] }, ty, pos, af, none⟩ :: rest) env :=
  LQ.pure (fun _ _ => Pu.lenS ht hx) hdst kont
theorem L.cap {t : TypeId} {x : Operand} {e : TypeId} {a : Option Addr} {n c : Nat} (ht : P.underlying t = some (.slice e)) (hx : ev env x = some (.slice a n c)) (hdst : Nat.blt dst fsz = true) (kont : L P all Q fsz σ rest ((dst, (.int .i64 (c : Int))) :: env) h) : L P all Q fsz σ (⟨some dst, .call { callee := .builtin .cap, args := #[x], argTypes := #[t] }, ty, pos, af, none⟩ :: rest) env h :=
  L.pure (Pu.cap ht hx) hdst kont
theorem LQ.cap {t : TypeId} {x : Operand} {e : TypeId} {a : Option Addr} {n c : Nat} (ht : P.underlying t = some (.slice e)) (hx : ev env x = some (.slice a n c)) (hdst : Nat.blt dst fsz = true) (kont : LQ P all K F fsz σ rest ((dst, (.int .i64 (c : Int))) :: env)) : LQ P all K F fsz σ (⟨some dst, .call { callee := .builtin .cap, args := #[x], argTypes := #[t] }, ty, pos, af, none⟩ :: rest) env :=
  LQ.pure (fun _ _ => Pu.cap ht hx) hdst kont
theorem L.min {x y : Operand} {ts : Array TypeId} {k : IntKind} {a b : Int} (hx : ev env x = some (.int k a)) (hy : ev env y = some (.int k b)) (hdst : Nat.blt dst fsz = true) (kont : L P all Q fsz σ rest ((dst, (.int k (Min.min a b))) :: env) h) : L P all Q fsz σ (⟨some dst, .call { callee := .builtin .min, args := #[x, y], argTypes := ts }, ty, pos, af, none⟩ :: rest) env h :=
  L.pure (Pu.min hx hy) hdst kont
theorem LQ.min {x y : Operand} {ts : Array TypeId} {k : IntKind} {a b : Int} (hx : ev env x = some (.int k a)) (hy : ev env y = some (.int k b)) (hdst : Nat.blt dst fsz = true) (kont : LQ P all K F fsz σ rest ((dst, (.int k (Min.min a b))) :: env)) : LQ P all K F fsz σ (⟨some dst, .call { callee := .builtin .min, args := #[x, y], argTypes := ts }, ty, pos, af, none⟩ :: rest) env :=
  LQ.pure (fun _ _ => Pu.min hx hy) hdst kont
theorem L.max {x y : Operand} {ts : Array TypeId} {k : IntKind} {a b : Int} (hx : ev env x = some (.int k a)) (hy : ev env y = some (.int k b)) (hdst : Nat.blt dst fsz = true) (kont : L P all Q fsz σ rest ((dst, (.int k (Max.max a b))) :: env) h) : L P all Q fsz σ (⟨some dst, .call { callee := .builtin .max, args := #[x, y], argTypes := ts }, ty, pos, af, none⟩ :: rest) env h :=
  L.pure (Pu.max hx hy) hdst kont
theorem LQ.max {x y : Operand} {ts : Array TypeId} {k : IntKind} {a b : Int} (hx : ev env x = some (.int k a)) (hy : ev env y = some (.int k b)) (hdst : Nat.blt dst fsz = true) (kont : LQ P all K F fsz σ rest ((dst, (.int k (Max.max a b))) :: env)) : LQ P all K F fsz σ (⟨some dst, .call { callee := .builtin .max, args := #[x, y], argTypes := ts }, ty, pos, af, none⟩ :: rest) env :=
  LQ.pure (fun _ _ => Pu.max hx hy) hdst kont
theorem L.extract {x : Operand} {vs : List Value} {i : Nat} {v : Value} (hx : ev env x = some (.tuple vs.toArray)) (hv : nthV vs i = some v) (hdst : Nat.blt dst fsz = true) (kont : L P all Q fsz σ rest ((dst, v) :: env) h) : L P all Q fsz σ (⟨some dst, .extract x i, ty, pos, af, none⟩ :: rest) env h :=
  L.pure (Pu.extract hx hv) hdst kont
theorem LQ.extract {x : Operand} {vs : List Value} {i : Nat} {v : Value} (hx : ev env x = some (.tuple vs.toArray)) (hv : nthV vs i = some v) (hdst : Nat.blt dst fsz = true) (kont : LQ P all K F fsz σ rest ((dst, v) :: env)) : LQ P all K F fsz σ (⟨some dst, .extract x i, ty, pos, af, none⟩ :: rest) env :=
  LQ.pure (fun _ _ => Pu.extract hx hv) hdst kont
theorem L.nilCheck {x : Operand} {a : Addr} (hx : ev env x = some (.pointer (some a))) (hdst : Nat.blt dst fsz = true) (kont : L P all Q fsz σ rest ((dst, (.pointer (some a))) :: env) h) : L P all Q fsz σ (⟨some dst, .nilCheck x, ty, pos, af, none⟩ :: rest) env h :=
  L.pure (Pu.nilCheck hx) hdst kont
theorem LQ.nilCheck {x : Operand} {a : Addr} (hx : ev env x = some (.pointer (some a))) (hdst : Nat.blt dst fsz = true) (kont : LQ P all K F fsz σ rest ((dst, (.pointer (some a))) :: env)) : LQ P all K F fsz σ (⟨some dst, .nilCheck x, ty, pos, af, none⟩ :: rest) env :=
  LQ.pure (fun _ _ => Pu.nilCheck hx) hdst kont
theorem L.load {t : TypeId} {x : Operand} {du : TypeDesc} {b o : Nat} {v : Value} (hx : ev env x = some (.pointer (some ⟨b, o, none⟩))) (hu : P.underlying t = some du) (hd : du.isRow = false) (hc : cellAt h b o = some v) (hdst : Nat.blt dst fsz = true) (kont : L P all Q fsz σ rest ((dst, v) :: env) h) : L P all Q fsz σ (⟨some dst, .load t x, ty, pos, af, none⟩ :: rest) env h :=
  L.pure (Pu.load hx hu hd hc) hdst kont
theorem L.loadRow {t : TypeId} {x : Operand} {du : TypeDesc} {b o : Nat} {cs : List Value} (hx : ev env x = some (.pointer (some ⟨b, o, none⟩))) (hu : P.underlying t = some du) (hd : du.isRow = true) (hi : (P.info? t).map (·.size) = some cs.length)
    (hc : Cells h b o cs) (hdst : Nat.blt dst fsz = true) (kont : L P all Q fsz σ rest ((dst, (.agg cs.toArray)) :: env) h) : L P all Q fsz σ (⟨some dst, .load t x, ty, pos, af, none⟩ :: rest) env h :=
  L.pure (Pu.loadRow hx hu hd hi hc) hdst kont
theorem L.idx {t e : TypeId} {x ix : Operand} {k : IntKind} {b o n c s : Nat} {iv : Int} (hx : ev env x = some (.slice (some ⟨b, o, none⟩) n c)) (hi : ev env ix = some (.int k iv)) (ht : P.underlying t = some (.slice e))
    (hs : (P.info? e).map (·.size) = some s) (hr : 0 ≤ iv ∧ iv < n) (hdst : Nat.blt dst fsz = true) (kont : L P all Q fsz σ rest ((dst, (.pointer (some ⟨b, o + iv.toNat * s, none⟩))) :: env) h) : L P all Q fsz σ (⟨some dst, .indexAddr t x ix, ty, pos, af, none⟩ :: rest) env h :=
  L.pure (Pu.idx hx hi ht hs hr) hdst kont
theorem LQ.idx {t e : TypeId} {x ix : Operand} {k : IntKind} {b o n c s : Nat} {iv : Int} (hx : ev env x = some (.slice (some ⟨b, o, none⟩) n c)) (hi : ev env ix = some (.int k iv)) (ht : P.underlying t = some (.slice e))
    (hs : (P.info? e).map (·.size) = some s) (hr : 0 ≤ iv ∧ iv < n) (hdst : Nat.blt dst fsz = true) (kont : LQ P all K F fsz σ rest ((dst, (.pointer (some ⟨b, o + iv.toNat * s, none⟩))) :: env)) : LQ P all K F fsz σ (⟨some dst, .indexAddr t x ix, ty, pos, af, none⟩ :: rest) env :=
  LQ.pure (fun _ _ => Pu.idx hx hi ht hs hr) hdst kont
theorem L.idx1 {t e : TypeId} {x ix : Operand} {k : IntKind} {b o n c : Nat} {iv : Int} (hx : ev env x = some (.slice (some ⟨b, o, none⟩) n c)) (hi : ev env ix = some (.int k iv)) (ht : P.underlying t = some (.slice e))
    (hs : (P.info? e).map (·.size) = some 1) (hr : 0 ≤ iv ∧ iv < n) (hdst : Nat.blt dst fsz = true) (kont : L P all Q fsz σ rest ((dst, (.pointer (some ⟨b, o + iv.toNat, none⟩))) :: env) h) : L P all Q fsz σ (⟨some dst, .indexAddr t x ix, ty, pos, af, none⟩ :: rest) env h :=
  L.pure (Pu.idx1 hx hi ht hs hr) hdst kont
theorem LQ.idx1 {t e : TypeId} {x ix : Operand} {k : IntKind} {b o n c : Nat} {iv : Int} (hx : ev env x = some (.slice (some ⟨b, o, none⟩) n c)) (hi : ev env ix = some (.int k iv)) (ht : P.underlying t = some (.slice e))
    (hs : (P.info? e).map (·.size) = some 1) (hr : 0 ≤ iv ∧ iv < n) (hdst : Nat.blt dst fsz = true) (kont : LQ P all K F fsz σ rest ((dst, (.pointer (some ⟨b, o + iv.toNat, none⟩))) :: env)) : LQ P all K F fsz σ (⟨some dst, .indexAddr t x ix, ty, pos, af, none⟩ :: rest) env :=
  LQ.pure (fun _ _ => Pu.idx1 hx hi ht hs hr) hdst kont
theorem L.fieldAddr {s : TypeId} {x : Operand} {i : Nat} {b o z t o' : Nat} {fs : List Field} (hx : ev env x = some (.pointer (some ⟨b, o, none⟩))) (hu : P.underlying s = some (.struct fs.toArray)) (hf : fieldOf fs i = some (t, o'))
    (hz : (P.info? t).map (·.size) = some (z + 1)) (hdst : Nat.blt dst fsz = true) (kont : L P all Q fsz σ rest ((dst, (.pointer (some ⟨b, o + o', none⟩))) :: env) h) : L P all Q fsz σ (⟨some dst, .fieldAddr s x i, ty, pos, af, none⟩ :: rest) env h :=
  L.pure (Pu.fieldAddr hx hu hf hz) hdst kont
theorem LQ.fieldAddr {s : TypeId} {x : Operand} {i : Nat} {b o z t o' : Nat} {fs : List Field} (hx : ev env x = some (.pointer (some ⟨b, o, none⟩))) (hu : P.underlying s = some (.struct fs.toArray)) (hf : fieldOf fs i = some (t, o'))
    (hz : (P.info? t).map (·.size) = some (z + 1)) (hdst : Nat.blt dst fsz = true) (kont : LQ P all K F fsz σ rest ((dst, (.pointer (some ⟨b, o + o', none⟩))) :: env)) : LQ P all K F fsz σ (⟨some dst, .fieldAddr s x i, ty, pos, af, none⟩ :: rest) env :=
  LQ.pure (fun _ _ => Pu.fieldAddr hx hu hf hz) hdst kont
theorem L.field {s : TypeId} {x : Operand} {i t o : Nat} {cs : Array Value} {fs : List Field} {du : TypeDesc} {v : Value} (hx : ev env x = some (.agg cs)) (hu : P.underlying s = some (.struct fs.toArray)) (hf : fieldOf fs i = some (t, o))
    (hd : P.underlying t = some du) (hr : du.isRow = false) (hv : cs[o]? = some v) (hdst : Nat.blt dst fsz = true) (kont : L P all Q fsz σ rest ((dst, v) :: env) h) : L P all Q fsz σ (⟨some dst, .field s x i, ty, pos, af, none⟩ :: rest) env h :=
  L.pure (Pu.field hx hu hf hd hr hv) hdst kont
theorem LQ.field {s : TypeId} {x : Operand} {i t o : Nat} {cs : Array Value} {fs : List Field} {du : TypeDesc} {v : Value} (hx : ev env x = some (.agg cs)) (hu : P.underlying s = some (.struct fs.toArray)) (hf : fieldOf fs i = some (t, o))
    (hd : P.underlying t = some du) (hr : du.isRow = false) (hv : cs[o]? = some v) (hdst : Nat.blt dst fsz = true) (kont : LQ P all K F fsz σ rest ((dst, v) :: env)) : LQ P all K F fsz σ (⟨some dst, .field s x i, ty, pos, af, none⟩ :: rest) env :=
  LQ.pure (fun _ _ => Pu.field hx hu hf hd hr hv) hdst kont
theorem L.fieldRow {s : TypeId} {x : Operand} {i n t o : Nat} {cs : Array Value} {fs : List Field} {du : TypeDesc} (hx : ev env x = some (.agg cs)) (hu : P.underlying s = some (.struct fs.toArray)) (hf : fieldOf fs i = some (t, o))
    (hd : P.underlying t = some du) (hr : du.isRow = true) (hn : (P.info? t).map (·.size) = some n) (hdst : Nat.blt dst fsz = true) (kont : L P all Q fsz σ rest ((dst, (.agg (cs.extract o (o + n)))) :: env) h) : L P all Q fsz σ (⟨some dst, .field s x i, ty, pos, af, none⟩ :: rest) env h :=
  L.pure (Pu.fieldRow hx hu hf hd hr hn) hdst kont
theorem LQ.fieldRow {s : TypeId} {x : Operand} {i n t o : Nat} {cs : Array Value} {fs : List Field} {du : TypeDesc} (hx : ev env x = some (.agg cs)) (hu : P.underlying s = some (.struct fs.toArray)) (hf : fieldOf fs i = some (t, o))
    (hd : P.underlying t = some du) (hr : du.isRow = true) (hn : (P.info? t).map (·.size) = some n) (hdst : Nat.blt dst fsz = true) (kont : LQ P all K F fsz σ rest ((dst, (.agg (cs.extract o (o + n)))) :: env)) : LQ P all K F fsz σ (⟨some dst, .field s x i, ty, pos, af, none⟩ :: rest) env :=
  LQ.pure (fun _ _ => Pu.fieldRow hx hu hf hd hr hn) hdst kont
theorem L.build {t : TypeId} {ps : List (Nat × Operand)} {vs : List Value} (cs : Array Value) (hv : evs env (ps.map (·.2)) = some vs) (hb : P.built t ((ps.map (·.1)).zip vs) = some cs) (hdst : Nat.blt dst fsz = true) (kont : L P all Q fsz σ rest ((dst, (.agg cs)) :: env) h) : L P all Q fsz σ (⟨some dst, .build t ps.toArray, ty, pos, af, none⟩ :: rest) env h :=
  L.pure (Pu.build cs hv hb) hdst kont
theorem LQ.build {t : TypeId} {ps : List (Nat × Operand)} {vs : List Value} (cs : Array Value) (hv : evs env (ps.map (·.2)) = some vs) (hb : P.built t ((ps.map (·.1)).zip vs) = some cs) (hdst : Nat.blt dst fsz = true) (kont : LQ P all K F fsz σ rest ((dst, (.agg cs)) :: env)) : LQ P all K F fsz σ (⟨some dst, .build t ps.toArray, ty, pos, af, none⟩ :: rest) env :=
  LQ.pure (fun _ _ => Pu.build cs hv hb) hdst kont
theorem L.cutLH {t e : TypeId} {x lo hi : Operand} {a : Option Addr} {n c s : Nat} {l m : Int} {k1 k2 : IntKind} (hx : ev env x = some (.slice a n c)) (hl : ev env lo = some (.int k1 l)) (hh : ev env hi = some (.int k2 m)) (ht : P.underlying t = some (.slice e))
    (hs : (P.info? e).map (·.size) = some s) (h0 : 0 ≤ l) (h1 : l ≤ m) (h2 : m ≤ c) (hdst : Nat.blt dst fsz = true) (kont : L P all Q fsz σ rest ((dst, (sliced a l.toNat m.toNat c s)) :: env) h) : L P all Q fsz σ (⟨some dst, .slice t x (some lo) (some hi) none, ty, pos, af, none⟩ :: rest) env h :=
  L.pure (Pu.cutLH hx hl hh ht hs h0 h1 h2) hdst kont
theorem LQ.cutLH {t e : TypeId} {x lo hi : Operand} {a : Option Addr} {n c s : Nat} {l m : Int} {k1 k2 : IntKind} (hx : ev env x = some (.slice a n c)) (hl : ev env lo = some (.int k1 l)) (hh : ev env hi = some (.int k2 m)) (ht : P.underlying t = some (.slice e))
    (hs : (P.info? e).map (·.size) = some s) (h0 : 0 ≤ l) (h1 : l ≤ m) (h2 : m ≤ c) (hdst : Nat.blt dst fsz = true) (kont : LQ P all K F fsz σ rest ((dst, (sliced a l.toNat m.toNat c s)) :: env)) : LQ P all K F fsz σ (⟨some dst, .slice t x (some lo) (some hi) none, ty, pos, af, none⟩ :: rest) env :=
  LQ.pure (fun _ _ => Pu.cutLH hx hl hh ht hs h0 h1 h2) hdst kont
theorem L.cutH {t e : TypeId} {x hi : Operand} {a : Option Addr} {n c s : Nat} {m : Int} {k2 : IntKind} (hx : ev env x = some (.slice a n c)) (hh : ev env hi = some (.int k2 m)) (ht : P.underlying t = some (.slice e))
    (hs : (P.info? e).map (·.size) = some s) (h0 : 0 ≤ m) (h2 : m ≤ c) (hdst : Nat.blt dst fsz = true) (kont : L P all Q fsz σ rest ((dst, (sliced a 0 m.toNat c s)) :: env) h) : L P all Q fsz σ (⟨some dst, .slice t x none (some hi) none, ty, pos, af, none⟩ :: rest) env h :=
  L.pure (Pu.cutH hx hh ht hs h0 h2) hdst kont
theorem LQ.cutH {t e : TypeId} {x hi : Operand} {a : Option Addr} {n c s : Nat} {m : Int} {k2 : IntKind} (hx : ev env x = some (.slice a n c)) (hh : ev env hi = some (.int k2 m)) (ht : P.underlying t = some (.slice e))
    (hs : (P.info? e).map (·.size) = some s) (h0 : 0 ≤ m) (h2 : m ≤ c) (hdst : Nat.blt dst fsz = true) (kont : LQ P all K F fsz σ rest ((dst, (sliced a 0 m.toNat c s)) :: env)) : LQ P all K F fsz σ (⟨some dst, .slice t x none (some hi) none, ty, pos, af, none⟩ :: rest) env :=
  LQ.pure (fun _ _ => Pu.cutH hx hh ht hs h0 h2) hdst kont
theorem L.cutL {t e : TypeId} {x lo : Operand} {a : Option Addr} {n c s : Nat} {l : Int} {k1 : IntKind} (hx : ev env x = some (.slice a n c)) (hl : ev env lo = some (.int k1 l)) (ht : P.underlying t = some (.slice e))
    (hs : (P.info? e).map (·.size) = some s) (h0 : 0 ≤ l) (h1 : l ≤ n) (hdst : Nat.blt dst fsz = true) (kont : L P all Q fsz σ rest ((dst, (sliced a l.toNat n c s)) :: env) h) : L P all Q fsz σ (⟨some dst, .slice t x (some lo) none none, ty, pos, af, none⟩ :: rest) env h :=
  L.pure (Pu.cutL hx hl ht hs h0 h1) hdst kont
theorem LQ.cutL {t e : TypeId} {x lo : Operand} {a : Option Addr} {n c s : Nat} {l : Int} {k1 : IntKind} (hx : ev env x = some (.slice a n c)) (hl : ev env lo = some (.int k1 l)) (ht : P.underlying t = some (.slice e))
    (hs : (P.info? e).map (·.size) = some s) (h0 : 0 ≤ l) (h1 : l ≤ n) (hdst : Nat.blt dst fsz = true) (kont : LQ P all K F fsz σ rest ((dst, (sliced a l.toNat n c s)) :: env)) : LQ P all K F fsz σ (⟨some dst, .slice t x (some lo) none none, ty, pos, af, none⟩ :: rest) env :=
  LQ.pure (fun _ _ => Pu.cutL hx hl ht hs h0 h1) hdst kont
theorem L.lenStr {t : TypeId} {x : Operand} {l : List UInt8} (hx : ev env x = some (str l)) (ht : P.underlying t = some .string) (hdst : Nat.blt dst fsz = true) (kont : L P all Q fsz σ rest ((dst, (.int .i64 (l.length : Int))) :: env) h) : L P all Q fsz σ (⟨some dst, .call { callee := .builtin .len, args := #[x], argTypes := #[t] }, ty, pos, af, none⟩ :: rest) env h :=
  L.pure (Pu.lenStr hx ht) hdst kont
theorem LQ.lenStr {t : TypeId} {x : Operand} {l : List UInt8} (hx : ev env x = some (str l)) (ht : P.underlying t = some .string) (hdst : Nat.blt dst fsz = true) (kont : LQ P all K F fsz σ rest ((dst, (.int .i64 (l.length : Int))) :: env)) : LQ P all K F fsz σ (⟨some dst, .call { callee := .builtin .len, args := #[x], argTypes := #[t] }, ty, pos, af, none⟩ :: rest) env :=
  LQ.pure (fun _ _ => Pu.lenStr hx ht) hdst kont
theorem L.eqlS {t yt : TypeId} {x y : Operand} {a b : List UInt8} (hx : ev env x = some (str a)) (hy : ev env y = some (str b)) (hdst : Nat.blt dst fsz = true) (kont : L P all Q fsz σ rest ((dst, (.bool (decide (a = b)))) :: env) h) : L P all Q fsz σ (⟨some dst, .binOp .eql t x y yt, ty, pos, af, none⟩ :: rest) env h :=
  L.pure (Pu.eqlS hx hy) hdst kont
theorem LQ.eqlS {t yt : TypeId} {x y : Operand} {a b : List UInt8} (hx : ev env x = some (str a)) (hy : ev env y = some (str b)) (hdst : Nat.blt dst fsz = true) (kont : LQ P all K F fsz σ rest ((dst, (.bool (decide (a = b)))) :: env)) : LQ P all K F fsz σ (⟨some dst, .binOp .eql t x y yt, ty, pos, af, none⟩ :: rest) env :=
  LQ.pure (fun _ _ => Pu.eqlS hx hy) hdst kont
theorem L.neqS {t yt : TypeId} {x y : Operand} {a b : List UInt8} (hx : ev env x = some (str a)) (hy : ev env y = some (str b)) (hdst : Nat.blt dst fsz = true) (kont : L P all Q fsz σ rest ((dst, (.bool (decide (a ≠ b)))) :: env) h) : L P all Q fsz σ (⟨some dst, .binOp .neq t x y yt, ty, pos, af, none⟩ :: rest) env h :=
  L.pure (Pu.neqS hx hy) hdst kont
theorem LQ.neqS {t yt : TypeId} {x y : Operand} {a b : List UInt8} (hx : ev env x = some (str a)) (hy : ev env y = some (str b)) (hdst : Nat.blt dst fsz = true) (kont : LQ P all K F fsz σ rest ((dst, (.bool (decide (a ≠ b)))) :: env)) : LQ P all K F fsz σ (⟨some dst, .binOp .neq t x y yt, ty, pos, af, none⟩ :: rest) env :=
  LQ.pure (fun _ _ => Pu.neqS hx hy) hdst kont
theorem L.addS {t yt : TypeId} {x y : Operand} {a b : List UInt8} (hx : ev env x = some (str a)) (hy : ev env y = some (str b)) (hr : a.length + b.length ≤ 4611686018427387904) (hdst : Nat.blt dst fsz = true) (kont : L P all Q fsz σ rest ((dst, (str (a ++ b))) :: env) h) : L P all Q fsz σ (⟨some dst, .binOp .add t x y yt, ty, pos, af, none⟩ :: rest) env h :=
  L.pure (Pu.addS hx hy hr) hdst kont
theorem LQ.addS {t yt : TypeId} {x y : Operand} {a b : List UInt8} (hx : ev env x = some (str a)) (hy : ev env y = some (str b)) (hr : a.length + b.length ≤ 4611686018427387904) (hdst : Nat.blt dst fsz = true) (kont : LQ P all K F fsz σ rest ((dst, (str (a ++ b))) :: env)) : LQ P all K F fsz σ (⟨some dst, .binOp .add t x y yt, ty, pos, af, none⟩ :: rest) env :=
  LQ.pure (fun _ _ => Pu.addS hx hy hr) hdst kont
theorem L.idxS {t : TypeId} {x ix : Operand} {l : List UInt8} {k : IntKind} {iv : Int} {c : UInt8} (hx : ev env x = some (str l)) (hi : ev env ix = some (.int k iv)) (ht : P.underlying t = some .string) (h0 : 0 ≤ iv) (hc : l[iv.toNat]? = some c) (hdst : Nat.blt dst fsz = true) (kont : L P all Q fsz σ rest ((dst, (u8 c)) :: env) h) : L P all Q fsz σ (⟨some dst, .index t x ix, ty, pos, af, none⟩ :: rest) env h :=
  L.pure (Pu.idxS hx hi ht h0 hc) hdst kont
theorem LQ.idxS {t : TypeId} {x ix : Operand} {l : List UInt8} {k : IntKind} {iv : Int} {c : UInt8} (hx : ev env x = some (str l)) (hi : ev env ix = some (.int k iv)) (ht : P.underlying t = some .string) (h0 : 0 ≤ iv) (hc : l[iv.toNat]? = some c) (hdst : Nat.blt dst fsz = true) (kont : LQ P all K F fsz σ rest ((dst, (u8 c)) :: env)) : LQ P all K F fsz σ (⟨some dst, .index t x ix, ty, pos, af, none⟩ :: rest) env :=
  LQ.pure (fun _ _ => Pu.idxS hx hi ht h0 hc) hdst kont
theorem L.cutS {t : TypeId} {x lo hi : Operand} {s : List UInt8} {l m : Int} {k1 k2 : IntKind} (hx : ev env x = some (str s)) (hl : ev env lo = some (.int k1 l)) (hh : ev env hi = some (.int k2 m)) (ht : P.underlying t = some .string)
    (h0 : 0 ≤ l) (h1 : l ≤ m) (h2 : m ≤ s.length) (hdst : Nat.blt dst fsz = true) (kont : L P all Q fsz σ rest ((dst, (str ((s.drop l.toNat).take (m.toNat - l.toNat)))) :: env) h) : L P all Q fsz σ (⟨some dst, .slice t x (some lo) (some hi) none, ty, pos, af, none⟩ :: rest) env h :=
  L.pure (Pu.cutS hx hl hh ht h0 h1 h2) hdst kont
theorem LQ.cutS {t : TypeId} {x lo hi : Operand} {s : List UInt8} {l m : Int} {k1 k2 : IntKind} (hx : ev env x = some (str s)) (hl : ev env lo = some (.int k1 l)) (hh : ev env hi = some (.int k2 m)) (ht : P.underlying t = some .string)
    (h0 : 0 ≤ l) (h1 : l ≤ m) (h2 : m ≤ s.length) (hdst : Nat.blt dst fsz = true) (kont : LQ P all K F fsz σ rest ((dst, (str ((s.drop l.toNat).take (m.toNat - l.toNat)))) :: env)) : LQ P all K F fsz σ (⟨some dst, .slice t x (some lo) (some hi) none, ty, pos, af, none⟩ :: rest) env :=
  LQ.pure (fun _ _ => Pu.cutS hx hl hh ht h0 h1 h2) hdst kont
theorem L.cutSH {t : TypeId} {x hi : Operand} {s : List UInt8} {m : Int} {k2 : IntKind} (hx : ev env x = some (str s)) (hh : ev env hi = some (.int k2 m)) (ht : P.underlying t = some .string)
    (h1 : 0 ≤ m) (h2 : m ≤ s.length) (hdst : Nat.blt dst fsz = true) (kont : L P all Q fsz σ rest ((dst, (str (s.take m.toNat))) :: env) h) : L P all Q fsz σ (⟨some dst, .slice t x none (some hi) none, ty, pos, af, none⟩ :: rest) env h :=
  L.pure (Pu.cutSH hx hh ht h1 h2) hdst kont
theorem LQ.cutSH {t : TypeId} {x hi : Operand} {s : List UInt8} {m : Int} {k2 : IntKind} (hx : ev env x = some (str s)) (hh : ev env hi = some (.int k2 m)) (ht : P.underlying t = some .string)
    (h1 : 0 ≤ m) (h2 : m ≤ s.length) (hdst : Nat.blt dst fsz = true) (kont : LQ P all K F fsz σ rest ((dst, (str (s.take m.toNat))) :: env)) : LQ P all K F fsz σ (⟨some dst, .slice t x none (some hi) none, ty, pos, af, none⟩ :: rest) env :=
  LQ.pure (fun _ _ => Pu.cutSH hx hh ht h1 h2) hdst kont
theorem L.cutSL {t : TypeId} {x lo : Operand} {s : List UInt8} {l : Int} {k1 : IntKind} (hx : ev env x = some (str s)) (hl : ev env lo = some (.int k1 l)) (ht : P.underlying t = some .string)
    (h0 : 0 ≤ l) (h1 : l ≤ s.length) (hdst : Nat.blt dst fsz = true) (kont : L P all Q fsz σ rest ((dst, (str (s.drop l.toNat))) :: env) h) : L P all Q fsz σ (⟨some dst, .slice t x (some lo) none none, ty, pos, af, none⟩ :: rest) env h :=
  L.pure (Pu.cutSL hx hl ht h0 h1) hdst kont
theorem LQ.cutSL {t : TypeId} {x lo : Operand} {s : List UInt8} {l : Int} {k1 : IntKind} (hx : ev env x = some (str s)) (hl : ev env lo = some (.int k1 l)) (ht : P.underlying t = some .string)
    (h0 : 0 ≤ l) (h1 : l ≤ s.length) (hdst : Nat.blt dst fsz = true) (kont : LQ P all K F fsz σ rest ((dst, (str (s.drop l.toNat))) :: env)) : LQ P all K F fsz σ (⟨some dst, .slice t x (some lo) none none, ty, pos, af, none⟩ :: rest) env :=
  LQ.pure (fun _ _ => Pu.cutSL hx hl ht h0 h1) hdst kont
theorem L.toStr {s t e : TypeId} {x : Operand} {v : Value} {l : List UInt8} (hx : ev env x = some v) (hs : P.underlying s = some (.slice e)) (he : P.underlying e = some (.int .u8)) (ht : P.underlying t = some .string) (hr : Rd h v l.length (l.map u8)) (hdst : Nat.blt dst fsz = true) (kont : L P all Q fsz σ rest ((dst, (str l)) :: env) h) : L P all Q fsz σ (⟨some dst, .convert s t x, ty, pos, af, none⟩ :: rest) env h :=
  L.pure (Pu.toStr hx hs he ht hr) hdst kont
end
end Go.E
