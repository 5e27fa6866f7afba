/- Texts of a walk, one behind the other. -/
import Derived.Test.YtinbmhbfcoiefaaGreatDoorProg
import Derived.KernelRfl
import Derived.Lib.MakeNoZero
import Derived.Laws.CopyOwn
import Derived.RangeFuncRecord
import Derived.Below
import Derived.Lib.LaidTab
import Derived.Test.YtinbmhbfcoiefaaGreatDoorMg2
section
/- The table of types. Written by a program of mine (gent.py) out of the loaded program. -/
namespace Go.Proofs.YtinbmhbfcoiefaaGreatDoor
open Go Go.E
def T : TT := [
  (2, ⟨ .int .i64, 1, [.int .i64 0]⟩),
  (3, ⟨ .int .i64, 1, [.int .i64 0]⟩),
  (4, ⟨ .bool, 1, [.bool false]⟩),
  (5, ⟨ .int .u8, 1, [.int .u8 0]⟩),
  (9, ⟨ .str, 1, [str []]⟩),
  (12, ⟨ .int .u64, 1, [.int .u64 0]⟩),
  (13, ⟨ .struct [(9, 0, 1), (12, 1, 1)], 2, [str [], .int .u64 0]⟩),
  (15, ⟨ .ptr 213, 1, [.pointer none]⟩),
  (16, ⟨ .ptr 216, 1, [.pointer none]⟩),
  (19, ⟨ .struct [(17, 0, 1)], 1, [.pointer none]⟩),
  (21, ⟨ .int .i32, 1, [.int .i32 0]⟩),
  (22, ⟨ .int .u64, 1, [.int .u64 0]⟩),
  (23, ⟨ .arr 4 22, 4, [.int .u64 0, .int .u64 0, .int .u64 0, .int .u64 0]⟩),
  (24, ⟨ .slice 26, 1, [.slice none 0 0]⟩),
  (25, ⟨ .struct [(3, 0, 1), (23, 1, 4), (24, 5, 1), (3, 6, 1), (3, 7, 1)], 8, [.int .i64 0, .int .u64 0, .int .u64 0, .int .u64 0, .int .u64 0, .slice none 0 0, .int .i64 0, .int .i64 0]⟩),
  (26, ⟨ .struct [(3, 0, 1), (23, 1, 4), (24, 5, 1), (3, 6, 1), (3, 7, 1)], 8, [.int .i64 0, .int .u64 0, .int .u64 0, .int .u64 0, .int .u64 0, .slice none 0 0, .int .i64 0, .int .i64 0]⟩),
  (27, ⟨ .slice 5, 1, [.slice none 0 0]⟩),
  (29, ⟨ .ptr 49, 1, [.pointer none]⟩),
  (37, ⟨ .slice 38, 1, [.slice none 0 0]⟩),
  (38, ⟨ .slice 4, 1, [.slice none 0 0]⟩),
  (43, ⟨ .arr 2 26, 16, [.int .i64 0, .int .u64 0, .int .u64 0, .int .u64 0, .int .u64 0, .slice none 0 0, .int .i64 0, .int .i64 0, .int .i64 0, .int .u64 0, .int .u64 0, .int .u64 0, .int .u64 0, .slice none 0 0, .int .i64 0, .int .i64 0]⟩),
  (44, ⟨ .arr 3 43, 48, [.int .i64 0, .int .u64 0, .int .u64 0, .int .u64 0, .int .u64 0, .slice none 0 0, .int .i64 0, .int .i64 0, .int .i64 0, .int .u64 0, .int .u64 0, .int .u64 0, .int .u64 0, .slice none 0 0, .int .i64 0, .int .i64 0, .int .i64 0, .int .u64 0, .int .u64 0, .int .u64 0, .int .u64 0, .slice none 0 0, .int .i64 0, .int .i64 0, .int .i64 0, .int .u64 0, .int .u64 0, .int .u64 0, .int .u64 0, .slice none 0 0, .int .i64 0, .int .i64 0, .int .i64 0, .int .u64 0, .int .u64 0, .int .u64 0, .int .u64 0, .slice none 0 0, .int .i64 0, .int .i64 0, .int .i64 0, .int .u64 0, .int .u64 0, .int .u64 0, .int .u64 0, .slice none 0 0, .int .i64 0, .int .i64 0]⟩),
  (46, ⟨ .arr 256 5, 256, List.replicate 256 (.int .u8 0)⟩),
  (47, ⟨ .slice 50, 1, [.slice none 0 0]⟩),
  (48, ⟨ .struct [(46, 0, 256), (47, 256, 1), (38, 257, 1)], 258, List.replicate 256 (.int .u8 0) ++ [.slice none 0 0, .slice none 0 0]⟩),
  (49, ⟨ .struct [(46, 0, 256), (47, 256, 1), (38, 257, 1)], 258, List.replicate 256 (.int .u8 0) ++ [.slice none 0 0, .slice none 0 0]⟩),
  (50, ⟨ .slice 3, 1, [.slice none 0 0]⟩),
  (52, ⟨ .ptr 3, 1, [.pointer none]⟩),
  (53, ⟨ .int .i64, 1, [.int .i64 0]⟩),
  (56, ⟨ .ptr 97, 1, [.pointer none]⟩),
  (62, ⟨ .struct [(53, 0, 1), (3, 1, 1)], 2, [.int .i64 0, .int .i64 0]⟩),
  (63, ⟨ .struct [(53, 0, 1), (3, 1, 1)], 2, [.int .i64 0, .int .i64 0]⟩),
  (66, ⟨ .slice 147, 1, [.slice none 0 0]⟩),
  (67, ⟨ .struct [(66, 0, 1), (3, 1, 1)], 2, [.slice none 0 0, .int .i64 0]⟩),
  (68, ⟨ .struct [(66, 0, 1), (3, 1, 1)], 2, [.slice none 0 0, .int .i64 0]⟩),
  (77, ⟨ .map 3 3, 1, [.map none]⟩),
  (79, ⟨ .struct [], 0, []⟩),
  (80, ⟨ .struct [], 0, []⟩),
  (81, ⟨ .struct [], 0, []⟩),
  (82, ⟨ .int .u32, 1, [.int .u32 0]⟩),
  (83, ⟨ .struct [(81, 0, 0), (82, 0, 1)], 1, [.int .u32 0]⟩),
  (84, ⟨ .struct [(81, 0, 0), (82, 0, 1)], 1, [.int .u32 0]⟩),
  (85, ⟨ .struct [(21, 0, 1), (82, 1, 1)], 2, [.int .i32 0, .int .u32 0]⟩),
  (86, ⟨ .struct [(21, 0, 1), (82, 1, 1)], 2, [.int .i32 0, .int .u32 0]⟩),
  (87, ⟨ .struct [(80, 0, 0), (86, 0, 2)], 2, [.int .i32 0, .int .u32 0]⟩),
  (88, ⟨ .struct [(80, 0, 0), (86, 0, 2)], 2, [.int .i32 0, .int .u32 0]⟩),
  (89, ⟨ .struct [(80, 0, 0), (84, 0, 1), (88, 1, 2)], 3, [.int .u32 0, .int .i32 0, .int .u32 0]⟩),
  (90, ⟨ .struct [(80, 0, 0), (84, 0, 1), (88, 1, 2)], 3, [.int .u32 0, .int .i32 0, .int .u32 0]⟩),
  (91, ⟨ .struct [], 0, []⟩),
  (92, ⟨ .struct [(81, 0, 0), (91, 0, 0), (2, 0, 1)], 1, [.int .i64 0]⟩),
  (93, ⟨ .struct [(81, 0, 0), (91, 0, 0), (2, 0, 1)], 1, [.int .i64 0]⟩),
  (94, ⟨ .struct [(81, 0, 0), (21, 0, 1)], 1, [.int .i32 0]⟩),
  (95, ⟨ .struct [(81, 0, 0), (21, 0, 1)], 1, [.int .i32 0]⟩),
  (96, ⟨ .struct [(26, 0, 8), (90, 8, 3), (29, 11, 1), (53, 12, 1), (93, 13, 1), (95, 14, 1)], 15, [.int .i64 0, .int .u64 0, .int .u64 0, .int .u64 0, .int .u64 0, .slice none 0 0, .int .i64 0, .int .i64 0, .int .u32 0, .int .i32 0, .int .u32 0, .pointer none, .int .i64 0, .int .i64 0, .int .i32 0]⟩),
  (97, ⟨ .struct [(26, 0, 8), (90, 8, 3), (29, 11, 1), (53, 12, 1), (93, 13, 1), (95, 14, 1)], 15, [.int .i64 0, .int .u64 0, .int .u64 0, .int .u64 0, .int .u64 0, .slice none 0 0, .int .i64 0, .int .i64 0, .int .u32 0, .int .i32 0, .int .u32 0, .pointer none, .int .i64 0, .int .i64 0, .int .i32 0]⟩),
  (103, ⟨ .ptr 105, 1, [.pointer none]⟩),
  (104, ⟨ .struct [(9, 0, 1), (3, 1, 1), (3, 2, 1), (63, 3, 2)], 5, [str [], .int .i64 0, .int .i64 0, .int .i64 0, .int .i64 0]⟩),
  (105, ⟨ .struct [(9, 0, 1), (3, 1, 1), (3, 2, 1), (63, 3, 2)], 5, [str [], .int .i64 0, .int .i64 0, .int .i64 0, .int .i64 0]⟩),
  (109, ⟨ .ptr 111, 1, [.pointer none]⟩),
  (110, ⟨ .struct [(68, 0, 2), (4, 2, 1)], 3, [.slice none 0 0, .int .i64 0, .bool false]⟩),
  (111, ⟨ .struct [(68, 0, 2), (4, 2, 1)], 3, [.slice none 0 0, .int .i64 0, .bool false]⟩),
  (113, ⟨ .slice 116, 1, [.slice none 0 0]⟩),
  (116, ⟨ .arr 4 22, 4, [.int .u64 0, .int .u64 0, .int .u64 0, .int .u64 0]⟩),
  (119, ⟨ .map 9 3, 1, [.map none]⟩),
  (126, ⟨ .map 9 5, 1, [.map none]⟩),
  (127, ⟨ .ptr 93, 1, [.pointer none]⟩),
  (129, ⟨ .ptr 2, 1, [.pointer none]⟩),
  (130, ⟨ .ptr 95, 1, [.pointer none]⟩),
  (132, ⟨ .ptr 21, 1, [.pointer none]⟩),
  (134, ⟨ .ptr 90, 1, [.pointer none]⟩),
  (140, ⟨ .struct [(3, 0, 1), (116, 1, 4), (4, 5, 1)], 6, [.int .i64 0, .int .u64 0, .int .u64 0, .int .u64 0, .int .u64 0, .bool false]⟩),
  (141, ⟨ .struct [(3, 0, 1), (116, 1, 4), (4, 5, 1)], 6, [.int .i64 0, .int .u64 0, .int .u64 0, .int .u64 0, .int .u64 0, .bool false]⟩),
  (144, ⟨ .arr 2 116, 8, [.int .u64 0, .int .u64 0, .int .u64 0, .int .u64 0, .int .u64 0, .int .u64 0, .int .u64 0, .int .u64 0]⟩),
  (146, ⟨ .map 116 4, 1, [.map none]⟩),
  (147, ⟨ .slice 141, 1, [.slice none 0 0]⟩),
  (149, ⟨ .int .u64, 1, [.int .u64 0]⟩),
  (153, ⟨ .ptr 84, 1, [.pointer none]⟩),
  (155, ⟨ .ptr 82, 1, [.pointer none]⟩),
  (161, ⟨ .arr 64 5, 64, List.replicate 64 (.int .u8 0)⟩),
  (163, ⟨ .ptr 88, 1, [.pointer none]⟩),
  (168, ⟨ .ptr 86, 1, [.pointer none]⟩),
  (177, ⟨ .int .i64, 1, [.int .i64 0]⟩),
  (194, ⟨ .int .u64, 1, [.int .u64 0]⟩),
  (201, ⟨ .ptr 194, 1, [.pointer none]⟩),
  (214, ⟨ .arr 0 16, 0, []⟩),
  (215, ⟨ .struct [(214, 0, 0)], 0, []⟩),
  (220, ⟨ .ptr 5, 1, [.pointer none]⟩)]
set_option maxRecDepth 100000 in
theorem T_ok : TOk Tryz.prog T := by
  repeat (first | exact trivial | refine ⟨by kernel_rfl, ?_⟩)
instance T_tab : TTab Tryz.prog T := ⟨T_ok⟩
end Go.Proofs.YtinbmhbfcoiefaaGreatDoor
end
section
/- Sets of bytes as data. Contracts of class: Has, And, Or, Not, Empty, Check. -/
namespace Go.Proofs.YtinbmhbfcoiefaaGreatDoor
open Go Go.E
set_option linter.unusedVariables false
set_option maxRecDepth 10000
structure SetD where
  a : Nat
  b : Nat
  c : Nat
  d : Nat
deriving DecidableEq
abbrev wV (w : Nat) : Value := .int .u64 (w : Int)
def setV (s : SetD) : List Value := [wV s.a, wV s.b, wV s.c, wV s.d]
def SetD.w (s : SetD) (k : Nat) : Nat := if k = 0 then s.a else if k = 1 then s.b else if k = 2 then s.c else s.d
def SetD.put (s : SetD) (k x : Nat) : SetD := if k = 0 then { s with a := x } else if k = 1 then { s with b := x } else if k = 2 then { s with c := x } else { s with d := x }
def SetIn (s : SetD) : Prop := ∀ k, s.w k < 18446744073709551616
theorem lt4 {k : Nat} (h : k < 4) : k = 0 ∨ k = 1 ∨ k = 2 ∨ k = 3 := by omega
theorem setV_get {s : SetD} {k : Nat} (h : k < 4) : (setV s)[k]? = some (wV (s.w k)) := by
  rcases lt4 h with rfl | rfl | rfl | rfl <;> rfl
theorem setV_set {s : SetD} {k x : Nat} (h : k < 4) : (setV s).set k (.int .u64 (x : Int)) = setV (s.put k x) := by
  rcases lt4 h with rfl | rfl | rfl | rfl <;> rfl
theorem SetD.w_put {s : SetD} {k x j : Nat} (h : k < 4) (hj : j < 4) : (s.put k x).w j = if j = k then x else s.w j := by
  rcases lt4 h with rfl | rfl | rfl | rfl <;> rcases lt4 hj with rfl | rfl | rfl | rfl <;> rfl
theorem SetD.ext4 {s t : SetD} (h : ∀ k, k < 4 → s.w k = t.w k) : s = t := by
  have h0 := h 0 (by omega)
  have h1 := h 1 (by omega)
  have h2 := h 2 (by omega)
  have h3 := h 3 (by omega)
  cases s; cases t
  simp [SetD.w] at h0 h1 h2 h3
  simp [h0, h1, h2, h3]
def SetD.has (s : SetD) (c : Nat) : Bool := (s.w (c / 64)).testBit (c % 64)
def SetD.and (s t : SetD) : SetD := ⟨s.a &&& t.a, s.b &&& t.b, s.c &&& t.c, s.d &&& t.d⟩
def SetD.or (s t : SetD) : SetD := ⟨s.a ||| t.a, s.b ||| t.b, s.c ||| t.c, s.d ||| t.d⟩
def SetD.not (s : SetD) : SetD := ⟨18446744073709551615 - s.a, 18446744073709551615 - s.b, 18446744073709551615 - s.c, 18446744073709551615 - s.d⟩
theorem SetD.w_and {s t : SetD} {k : Nat} : (s.and t).w k = s.w k &&& t.w k := by unfold SetD.w SetD.and; split; rfl; split; rfl; split <;> rfl
theorem SetD.w_or {s t : SetD} {k : Nat} : (s.or t).w k = s.w k ||| t.w k := by unfold SetD.w SetD.or; split; rfl; split; rfl; split <;> rfl
theorem SetD.w_not {s : SetD} {k : Nat} : s.not.w k = 18446744073709551615 - s.w k := by unfold SetD.w SetD.not; split; rfl; split; rfl; split <;> rfl
section
variable {ro : Ro} {own r : Chs} {K : Value → Ro → Chs → Prop} {g : Chunk → Chs}
theorem Ld.setAt {o k b : Nat} {t : TypeId} {cs : List Value} {f : Chunk → Chs} [hb : HasBlk own b t cs f] (s : SetD) (hc : cs = setV s) (ho : o = k) (hk : k < 4) : Ld ro own b o (.int .u64 ((s.w k : Nat) : Int)) := by
  subst hc; subst ho; exact Ld.hasBlkAt (setV_get hk)
theorem storeSet {ty : TypeId} {env : Env} {t : TypeId} {x y : Operand} {b o k w : Nat} {K : Value → Ro → Chs → Prop} {t0 : TypeId} {cs : List Value} {f : Chunk → Chs} (s : SetD) (hx : ev env x = some (.pointer (some ⟨b, o, none⟩))) {v : Int} (hy : ev env y = some (.int .u64 v)) (hw : v = (w : Int)) (ht : cell1 T t = true)
    [hb : HasBlk own b t0 cs f] (hc : cs = setV s) (ho : o = k) (hk4 : k < 4) (hk : K undef ro (f (.blk b t0 (setV (s.put k w))))) : OpOk Tryz.prog (.store t x y) ty env ro own K := by
  subst hc; subst ho; subst hw
  refine OpOk.storeAt hx hy ht rfl (by show o < 4; exact hk4) ?_
  rw [setV_set hk4]; exact hk
theorem and63 (c : Nat) : nand2 (c : Int) 63 = ((c % 64 : Nat) : Int) := by
  unfold nand2
  rw [Int.toNat_natCast]
  exact congrArg Int.ofNat (Nat.and_two_pow_sub_one_eq_mod c 6)
theorem shrN (x i : Nat) : (x : Int) / 2 ^ ((i : Nat) : Int).toNat = ((x / 2 ^ i : Nat) : Int) := by
  rw [Int.toNat_natCast]; push_cast; rfl
theorem and1 (x : Nat) : (nand2 (x : Int) 1 = 1) ↔ x % 2 = 1 := by
  have h : nand2 (x : Int) 1 = ((x % 2 : Nat) : Int) := by
    unfold nand2
    rw [Int.toNat_natCast]
    exact congrArg Int.ofNat (Nat.and_two_pow_sub_one_eq_mod x 1)
  rw [h]; omega
theorem testBit_div (x i : Nat) : decide (x / 2 ^ i % 2 = 1) = x.testBit i := by
  rw [Nat.testBit_eq_decide_div_mod_eq]
theorem has_ok {s : SetD} {c : Nat} (hs : SetIn s) (hc : c < 256) (hk : K (.bool (s.has c)) ro own) : CallOk Tryz.prog 75 #[.agg (setV s).toArray, .int .u8 (c : Int)] ro own K := by
  have hw := hs (c / 64)
  have hd : s.w (c / 64) / 2 ^ (c % 64) < 18446744073709551616 := Nat.lt_of_le_of_lt (Nat.div_le_self _ _) hw
  have e : (c : Int) / 2 ^ Int.toNat 6 = ((c / 64 : Nat) : Int) := by show (c : Int) / 64 = _; omega
  refine CallOk.intro (args := [_, _]) (rs := [_]) T_ok Tryz.func75 Tryz.call75 rfl rfl (by kernel_rfl) rfl rfl ?_
  repeat (first | exact endA | refine wkG ?_ | refine opB (fun b => ?_) | refine opA (fun a' c' hc1 hc2 => ?_) | (show GJ _ _ _ _ _ _ _; first | (apply GJ.and; exact rfl; intro hg) | (apply GJ.or; exact rfl; intro hg) | refine GJ.t omAuto ?_ | refine GJ.f omAuto ?_ | refine GJ.ft omAuto ?_ | refine GJ.ff omAuto ?_))
  rw [e]
  repeat (first | exact endA | refine wkG ?_ | refine opB (fun b => ?_) | refine opA (fun a' c' hc1 hc2 => ?_) | (show GJ _ _ _ _ _ _ _; first | (apply GJ.and; exact rfl; intro hg) | (apply GJ.or; exact rfl; intro hg) | refine GJ.t omAuto ?_ | refine GJ.f omAuto ?_ | refine GJ.ft omAuto ?_ | refine GJ.ff omAuto ?_))
  refine OpOk.load rfl rfl (Ld.setAt s rfl (k := c / 64) (by omega) (by omega)) ?_
  repeat (first | exact endA | refine wkG ?_ | refine opB (fun b => ?_) | refine opA (fun a' c' hc1 hc2 => ?_) | (show GJ _ _ _ _ _ _ _; first | (apply GJ.and; exact rfl; intro hg) | (apply GJ.or; exact rfl; intro hg) | refine GJ.t omAuto ?_ | refine GJ.f omAuto ?_ | refine GJ.ft omAuto ?_ | refine GJ.ff omAuto ?_))
  rw [and63]
  refine ⟨by omega, ?_⟩
  rw [shrN]
  generalize hq : s.w (c / 64) / 2 ^ (c % 64) = q at hd ⊢
  repeat (first | exact endA | refine wkG ?_ | refine opB (fun b => ?_) | refine opA (fun a' c' hc1 hc2 => ?_) | (show GJ _ _ _ _ _ _ _; first | (apply GJ.and; exact rfl; intro hg) | (apply GJ.or; exact rfl; intro hg) | refine GJ.t omAuto ?_ | refine GJ.f omAuto ?_ | refine GJ.ft omAuto ?_ | refine GJ.ff omAuto ?_))
  refine Wk.outV Sup.auto hk (congrArg Value.bool ?_)
  rw [SetD.has, ← testBit_div, hq, Bool.eq_iff_iff, decide_eq_true_iff, decide_eq_true_iff]
  exact (and1 _).symm
theorem and_ok {s t : SetD} (hs : SetIn s) (ht : SetIn t) (hk : K (.agg (setV (s.and t)).toArray) ro own) : CallOk Tryz.prog 71 #[.agg (setV s).toArray, .agg (setV t).toArray] ro own K := by
  refine CallOk.intro (args := [_, _]) (rs := [_]) T_ok Tryz.func71 Tryz.call71 rfl rfl (by kernel_rfl) rfl rfl ?_
  repeat (first | exact endA | refine wkG ?_ | refine opB (fun b => ?_) | refine opA (fun a' c' hc1 hc2 => ?_) | (show GJ _ _ _ _ _ _ _; first | (apply GJ.and; exact rfl; intro hg) | (apply GJ.or; exact rfl; intro hg) | refine GJ.t omAuto ?_ | refine GJ.f omAuto ?_ | refine GJ.ft omAuto ?_ | refine GJ.ff omAuto ?_))
  rename_i bs bt
  refine LoopOk.at (ι := Nat × SetD) Keep.auto (fun (i, u) => [(6, .int .i64 (i : Int))]) (fun (i, u) => .blk b 116 [.int .u64 0, .int .u64 0, .int .u64 0, .int .u64 0] :: .blk bt 116 (setV t) :: .blk bs 116 (setV u) :: own) (fun (i, u) => i ≤ 4 ∧ ∀ k, k < 4 → u.w k = if k < i then (s.and t).w k else s.w k) (fun (i, u) => 4 - i) (0, s) ?_ Sub.auto Sup.auto ?_
  · exact ⟨by omega, fun k hk => by rw [if_neg (by omega)]⟩
  rintro ⟨i, u⟩ ⟨i1, i2⟩
  dsimp only [List.cons_append, List.nil_append] at i1 i2 ⊢
  repeat (first | exact endA | refine wkG ?_ | refine opB (fun b => ?_) | refine opA (fun a' c' hc1 hc2 => ?_) | (show GJ _ _ _ _ _ _ _; first | (apply GJ.and; exact rfl; intro hg) | (apply GJ.or; exact rfl; intro hg) | refine GJ.t omAuto ?_ | refine GJ.f omAuto ?_ | refine GJ.ft omAuto ?_ | refine GJ.ff omAuto ?_))
  refine Br.cases (fun hg => ?_) (fun hg => ?_)
  · have h1 := hs i
    have h2 := ht i
    have h3 := i2 i (by omega)
    rw [if_neg (by omega)] at h3
    rw [← h3] at h1
    repeat (first | exact endA | refine wkG ?_ | refine opB (fun b => ?_) | refine opA (fun a' c' hc1 hc2 => ?_) | (show GJ _ _ _ _ _ _ _; first | (apply GJ.and; exact rfl; intro hg) | (apply GJ.or; exact rfl; intro hg) | refine GJ.t omAuto ?_ | refine GJ.f omAuto ?_ | refine GJ.ft omAuto ?_ | refine GJ.ff omAuto ?_))
    refine QOk.load rfl rfl (Ld.setAt u rfl (k := i) (by omega) (by omega)) ?_
    repeat (first | exact endA | refine wkG ?_ | refine opB (fun b => ?_) | refine opA (fun a' c' hc1 hc2 => ?_) | (show GJ _ _ _ _ _ _ _; first | (apply GJ.and; exact rfl; intro hg) | (apply GJ.or; exact rfl; intro hg) | refine GJ.t omAuto ?_ | refine GJ.f omAuto ?_ | refine GJ.ft omAuto ?_ | refine GJ.ff omAuto ?_))
    refine QOk.load rfl rfl (Ld.setAt t rfl (k := i) (by omega) (by omega)) ?_
    repeat (first | exact endA | refine wkG ?_ | refine opB (fun b => ?_) | refine opA (fun a' c' hc1 hc2 => ?_) | (show GJ _ _ _ _ _ _ _; first | (apply GJ.and; exact rfl; intro hg) | (apply GJ.or; exact rfl; intro hg) | refine GJ.t omAuto ?_ | refine GJ.f omAuto ?_ | refine GJ.ft omAuto ?_ | refine GJ.ff omAuto ?_))
    refine storeSet (k := i) (w := u.w i &&& t.w i) u rfl rfl rfl rfl rfl (by omega) (by omega) ?_
    repeat (first | exact endA | refine wkG ?_ | refine opB (fun b => ?_) | refine opA (fun a' c' hc1 hc2 => ?_) | (show GJ _ _ _ _ _ _ _; first | (apply GJ.and; exact rfl; intro hg) | (apply GJ.or; exact rfl; intro hg) | refine GJ.t omAuto ?_ | refine GJ.f omAuto ?_ | refine GJ.ft omAuto ?_ | refine GJ.ff omAuto ?_))
    refine Wk.id ⟨(i + 1, u.put i (u.w i &&& t.w i)), ⟨rfl, ?_⟩, ?_, Sub.auto, Sup.auto⟩
    all_goals try dsimp only
    · refine ⟨by omega, fun k hk => ?_⟩
      rw [SetD.w_put (by omega) hk]
      by_cases hki : k = i
      · subst hki; rw [if_pos rfl, if_pos (by omega), i2 k hk, if_neg (by omega), SetD.w_and]
      · rw [if_neg hki, i2 k hk]
        by_cases hlt : k < i
        · rw [if_pos hlt, if_pos (by omega)]
        · rw [if_neg hlt, if_neg (by omega)]
    · omega
  · obtain rfl : u = s.and t := SetD.ext4 (fun k hk => by rw [i2 k hk, if_pos (by omega)])
    repeat (first | exact endA | refine wkG ?_ | refine opB (fun b => ?_) | refine opA (fun a' c' hc1 hc2 => ?_) | (show GJ _ _ _ _ _ _ _; first | (apply GJ.and; exact rfl; intro hg) | (apply GJ.or; exact rfl; intro hg) | refine GJ.t omAuto ?_ | refine GJ.f omAuto ?_ | refine GJ.ft omAuto ?_ | refine GJ.ff omAuto ?_))
    exact Wk.outS Sup.auto (.refl _) hk
theorem empty_ok {s : SetD} (hk : K (.bool (decide (s = ⟨0, 0, 0, 0⟩))) ro own) : CallOk Tryz.prog 73 #[.agg (setV s).toArray] ro own K := by
  refine CallOk.intro (args := [_]) (rs := [_]) T_ok Tryz.func73 Tryz.call73 rfl rfl (by kernel_rfl) rfl rfl ?_
  repeat (first | exact endA | refine wkG ?_ | refine opB (fun b => ?_) | refine opA (fun a' c' hc1 hc2 => ?_) | (show GJ _ _ _ _ _ _ _; first | (apply GJ.and; exact rfl; intro hg) | (apply GJ.or; exact rfl; intro hg) | refine GJ.t omAuto ?_ | refine GJ.f omAuto ?_ | refine GJ.ft omAuto ?_ | refine GJ.ff omAuto ?_))
  refine OpOk.buildK (ps := []) (setV ⟨0, 0, 0, 0⟩) rfl (by kernel_rfl) ?_
  repeat (first | exact endA | refine wkG ?_ | refine opB (fun b => ?_) | refine opA (fun a' c' hc1 hc2 => ?_) | (show GJ _ _ _ _ _ _ _; first | (apply GJ.and; exact rfl; intro hg) | (apply GJ.or; exact rfl; intro hg) | refine GJ.t omAuto ?_ | refine GJ.f omAuto ?_ | refine GJ.ft omAuto ?_ | refine GJ.ff omAuto ?_))
  refine OpOk.eqlArr4 (e := 22) rfl rfl (by kernel_rfl) (by kernel_rfl) (by kernel_rfl) (by kernel_rfl) ?_
  repeat (first | exact endA | refine wkG ?_ | refine opB (fun b => ?_) | refine opA (fun a' c' hc1 hc2 => ?_) | (show GJ _ _ _ _ _ _ _; first | (apply GJ.and; exact rfl; intro hg) | (apply GJ.or; exact rfl; intro hg) | refine GJ.t omAuto ?_ | refine GJ.f omAuto ?_ | refine GJ.ft omAuto ?_ | refine GJ.ff omAuto ?_))
  refine Wk.outV Sup.auto hk (congrArg Value.bool ?_)
  rw [Bool.eq_iff_iff]
  cases s
  simp
end
end Go.Proofs.YtinbmhbfcoiefaaGreatDoor
end
section
/- Contracts of class: Or, Not, All, Check, Range, Of. -/
namespace Go.Proofs.YtinbmhbfcoiefaaGreatDoor
open Go Go.E
set_option linter.unusedVariables false
set_option maxRecDepth 10000
section
variable {ro : Ro} {own r : Chs} {K : Value → Ro → Chs → Prop} {g : Chunk → Chs}
theorem or_ok {s t : SetD} (hs : SetIn s) (ht : SetIn t) (hk : K (.agg (setV (s.or t)).toArray) ro own) : CallOk Tryz.prog 128 #[.agg (setV s).toArray, .agg (setV t).toArray] ro own K := by
  refine CallOk.intro (args := [_, _]) (rs := [_]) T_ok Tryz.func128 Tryz.call128 rfl rfl (by kernel_rfl) rfl rfl ?_
  repeat (first | exact endA | refine wkG ?_ | refine opB (fun b => ?_) | refine opA (fun a' c' hc1 hc2 => ?_) | (show GJ _ _ _ _ _ _ _; first | (apply GJ.and; exact rfl; intro hg) | (apply GJ.or; exact rfl; intro hg) | refine GJ.t omAuto ?_ | refine GJ.f omAuto ?_ | refine GJ.ft omAuto ?_ | refine GJ.ff omAuto ?_))
  rename_i bs bt
  refine LoopOk.at (ι := Nat × SetD) Keep.auto (fun (i, u) => [(6, .int .i64 (i : Int))]) (fun (i, u) => .blk b 116 [.int .u64 0, .int .u64 0, .int .u64 0, .int .u64 0] :: .blk bt 116 (setV t) :: .blk bs 116 (setV u) :: own) (fun (i, u) => i ≤ 4 ∧ ∀ k, k < 4 → u.w k = if k < i then (s.or t).w k else s.w k) (fun (i, u) => 4 - i) (0, s) ?_ Sub.auto Sup.auto ?_
  · exact ⟨by omega, fun k hk => by rw [if_neg (by omega)]⟩
  rintro ⟨i, u⟩ ⟨i1, i2⟩
  dsimp only [List.cons_append, List.nil_append] at i1 i2 ⊢
  repeat (first | exact endA | refine wkG ?_ | refine opB (fun b => ?_) | refine opA (fun a' c' hc1 hc2 => ?_) | (show GJ _ _ _ _ _ _ _; first | (apply GJ.and; exact rfl; intro hg) | (apply GJ.or; exact rfl; intro hg) | refine GJ.t omAuto ?_ | refine GJ.f omAuto ?_ | refine GJ.ft omAuto ?_ | refine GJ.ff omAuto ?_))
  refine Br.cases (fun hg => ?_) (fun hg => ?_)
  · have h1 := hs i
    have h2 := ht i
    have h3 := i2 i (by omega)
    rw [if_neg (by omega)] at h3
    rw [← h3] at h1
    repeat (first | exact endA | refine wkG ?_ | refine opB (fun b => ?_) | refine opA (fun a' c' hc1 hc2 => ?_) | (show GJ _ _ _ _ _ _ _; first | (apply GJ.and; exact rfl; intro hg) | (apply GJ.or; exact rfl; intro hg) | refine GJ.t omAuto ?_ | refine GJ.f omAuto ?_ | refine GJ.ft omAuto ?_ | refine GJ.ff omAuto ?_))
    refine QOk.load rfl rfl (Ld.setAt u rfl (k := i) (by omega) (by omega)) ?_
    repeat (first | exact endA | refine wkG ?_ | refine opB (fun b => ?_) | refine opA (fun a' c' hc1 hc2 => ?_) | (show GJ _ _ _ _ _ _ _; first | (apply GJ.and; exact rfl; intro hg) | (apply GJ.or; exact rfl; intro hg) | refine GJ.t omAuto ?_ | refine GJ.f omAuto ?_ | refine GJ.ft omAuto ?_ | refine GJ.ff omAuto ?_))
    refine QOk.load rfl rfl (Ld.setAt t rfl (k := i) (by omega) (by omega)) ?_
    repeat (first | exact endA | refine wkG ?_ | refine opB (fun b => ?_) | refine opA (fun a' c' hc1 hc2 => ?_) | (show GJ _ _ _ _ _ _ _; first | (apply GJ.and; exact rfl; intro hg) | (apply GJ.or; exact rfl; intro hg) | refine GJ.t omAuto ?_ | refine GJ.f omAuto ?_ | refine GJ.ft omAuto ?_ | refine GJ.ff omAuto ?_))
    refine storeSet (k := i) (w := u.w i ||| t.w i) u rfl rfl rfl rfl rfl (by omega) (by omega) ?_
    repeat (first | exact endA | refine wkG ?_ | refine opB (fun b => ?_) | refine opA (fun a' c' hc1 hc2 => ?_) | (show GJ _ _ _ _ _ _ _; first | (apply GJ.and; exact rfl; intro hg) | (apply GJ.or; exact rfl; intro hg) | refine GJ.t omAuto ?_ | refine GJ.f omAuto ?_ | refine GJ.ft omAuto ?_ | refine GJ.ff omAuto ?_))
    refine Wk.id ⟨(i + 1, u.put i (u.w i ||| t.w i)), ⟨rfl, ?_⟩, ?_, Sub.auto, Sup.auto⟩
    all_goals try dsimp only
    · refine ⟨by omega, fun k hk => ?_⟩
      rw [SetD.w_put (by omega) hk]
      by_cases hki : k = i
      · subst hki; rw [if_pos rfl, if_pos (by omega), i2 k hk, if_neg (by omega), SetD.w_or]
      · rw [if_neg hki, i2 k hk]
        by_cases hlt : k < i
        · rw [if_pos hlt, if_pos (by omega)]
        · rw [if_neg hlt, if_neg (by omega)]
    · omega
  · obtain rfl : u = s.or t := SetD.ext4 (fun k hk => by rw [i2 k hk, if_pos (by omega)])
    repeat (first | exact endA | refine wkG ?_ | refine opB (fun b => ?_) | refine opA (fun a' c' hc1 hc2 => ?_) | (show GJ _ _ _ _ _ _ _; first | (apply GJ.and; exact rfl; intro hg) | (apply GJ.or; exact rfl; intro hg) | refine GJ.t omAuto ?_ | refine GJ.f omAuto ?_ | refine GJ.ft omAuto ?_ | refine GJ.ff omAuto ?_))
    exact Wk.outS Sup.auto (.refl _) hk
theorem not_ok {s : SetD} (hs : SetIn s) (hk : K (.agg (setV s.not).toArray) ro own) : CallOk Tryz.prog 72 #[.agg (setV s).toArray] ro own K := by
  refine CallOk.intro (args := [_]) (rs := [_]) T_ok Tryz.func72 Tryz.call72 rfl rfl (by kernel_rfl) rfl rfl ?_
  repeat (first | exact endA | refine wkG ?_ | refine opB (fun b => ?_) | refine opA (fun a' c' hc1 hc2 => ?_) | (show GJ _ _ _ _ _ _ _; first | (apply GJ.and; exact rfl; intro hg) | (apply GJ.or; exact rfl; intro hg) | refine GJ.t omAuto ?_ | refine GJ.f omAuto ?_ | refine GJ.ft omAuto ?_ | refine GJ.ff omAuto ?_))
  rename_i bs
  refine LoopOk.at (ι := Nat × SetD) Keep.auto (fun (i, u) => [(4, .int .i64 (i : Int))]) (fun (i, u) => .blk b 116 [.int .u64 0, .int .u64 0, .int .u64 0, .int .u64 0] :: .blk bs 116 (setV u) :: own) (fun (i, u) => i ≤ 4 ∧ ∀ k, k < 4 → u.w k = if k < i then s.not.w k else s.w k) (fun (i, u) => 4 - i) (0, s) ?_ Sub.auto Sup.auto ?_
  · exact ⟨by omega, fun k hk => by rw [if_neg (by omega)]⟩
  rintro ⟨i, u⟩ ⟨i1, i2⟩
  dsimp only [List.cons_append, List.nil_append] at i1 i2 ⊢
  repeat (first | exact endA | refine wkG ?_ | refine opB (fun b => ?_) | refine opA (fun a' c' hc1 hc2 => ?_) | (show GJ _ _ _ _ _ _ _; first | (apply GJ.and; exact rfl; intro hg) | (apply GJ.or; exact rfl; intro hg) | refine GJ.t omAuto ?_ | refine GJ.f omAuto ?_ | refine GJ.ft omAuto ?_ | refine GJ.ff omAuto ?_))
  refine Br.cases (fun hg => ?_) (fun hg => ?_)
  · have h1 := hs i
    have h3 := i2 i (by omega)
    rw [if_neg (by omega)] at h3
    rw [← h3] at h1
    repeat (first | exact endA | refine wkG ?_ | refine opB (fun b => ?_) | refine opA (fun a' c' hc1 hc2 => ?_) | (show GJ _ _ _ _ _ _ _; first | (apply GJ.and; exact rfl; intro hg) | (apply GJ.or; exact rfl; intro hg) | refine GJ.t omAuto ?_ | refine GJ.f omAuto ?_ | refine GJ.ft omAuto ?_ | refine GJ.ff omAuto ?_))
    refine OpOk.load rfl rfl (Ld.setAt u rfl (k := i) (by omega) (by omega)) ?_
    repeat (first | exact endA | refine wkG ?_ | refine opB (fun b => ?_) | refine opA (fun a' c' hc1 hc2 => ?_) | (show GJ _ _ _ _ _ _ _; first | (apply GJ.and; exact rfl; intro hg) | (apply GJ.or; exact rfl; intro hg) | refine GJ.t omAuto ?_ | refine GJ.f omAuto ?_ | refine GJ.ft omAuto ?_ | refine GJ.ff omAuto ?_))
    refine OpOk.xor64 (n := u.w i) rfl h1 ?_
    repeat (first | exact endA | refine wkG ?_ | refine opB (fun b => ?_) | refine opA (fun a' c' hc1 hc2 => ?_) | (show GJ _ _ _ _ _ _ _; first | (apply GJ.and; exact rfl; intro hg) | (apply GJ.or; exact rfl; intro hg) | refine GJ.t omAuto ?_ | refine GJ.f omAuto ?_ | refine GJ.ft omAuto ?_ | refine GJ.ff omAuto ?_))
    refine storeSet (k := i) (w := 18446744073709551615 - u.w i) u rfl rfl rfl rfl rfl (by omega) (by omega) ?_
    repeat (first | exact endA | refine wkG ?_ | refine opB (fun b => ?_) | refine opA (fun a' c' hc1 hc2 => ?_) | (show GJ _ _ _ _ _ _ _; first | (apply GJ.and; exact rfl; intro hg) | (apply GJ.or; exact rfl; intro hg) | refine GJ.t omAuto ?_ | refine GJ.f omAuto ?_ | refine GJ.ft omAuto ?_ | refine GJ.ff omAuto ?_))
    refine Wk.id ⟨(i + 1, u.put i (18446744073709551615 - u.w i)), ⟨rfl, ?_⟩, ?_, Sub.auto, Sup.auto⟩
    all_goals try dsimp only
    · refine ⟨by omega, fun k hk => ?_⟩
      rw [SetD.w_put (by omega) hk]
      by_cases hki : k = i
      · subst hki; rw [if_pos rfl, if_pos (by omega), i2 k hk, if_neg (by omega), SetD.w_not]
      · rw [if_neg hki, i2 k hk]
        by_cases hlt : k < i
        · rw [if_pos hlt, if_pos (by omega)]
        · rw [if_neg hlt, if_neg (by omega)]
    · omega
  · obtain rfl : u = s.not := SetD.ext4 (fun k hk => by rw [i2 k hk, if_pos (by omega)])
    repeat (first | exact endA | refine wkG ?_ | refine opB (fun b => ?_) | refine opA (fun a' c' hc1 hc2 => ?_) | (show GJ _ _ _ _ _ _ _; first | (apply GJ.and; exact rfl; intro hg) | (apply GJ.or; exact rfl; intro hg) | refine GJ.t omAuto ?_ | refine GJ.f omAuto ?_ | refine GJ.ft omAuto ?_ | refine GJ.ff omAuto ?_))
    exact Wk.outS Sup.auto (.refl _) hk
theorem SetIn.zero : SetIn ⟨0, 0, 0, 0⟩ := fun k => by unfold SetD.w; split; decide; split; decide; split <;> decide
def allD : SetD := ⟨18446744073709551615, 18446744073709551615, 18446744073709551615, 18446744073709551615⟩
theorem all_ok (hk : K (.agg (setV allD).toArray) ro own) : CallOk Tryz.prog 70 #[] ro own K := by
  refine CallOk.intro (args := []) (rs := [_]) T_ok Tryz.func70 Tryz.call70 rfl rfl (by kernel_rfl) rfl rfl ?_
  repeat (first | exact endA | refine wkG ?_ | refine opB (fun b => ?_) | refine opA (fun a' c' hc1 hc2 => ?_) | (show GJ _ _ _ _ _ _ _; first | (apply GJ.and; exact rfl; intro hg) | (apply GJ.or; exact rfl; intro hg) | refine GJ.t omAuto ?_ | refine GJ.f omAuto ?_ | refine GJ.ft omAuto ?_ | refine GJ.ff omAuto ?_))
  refine OpOk.buildK (ps := []) (setV ⟨0, 0, 0, 0⟩) rfl (by kernel_rfl) ?_
  repeat (first | exact endA | refine wkG ?_ | refine opB (fun b => ?_) | refine opA (fun a' c' hc1 hc2 => ?_) | (show GJ _ _ _ _ _ _ _; first | (apply GJ.and; exact rfl; intro hg) | (apply GJ.or; exact rfl; intro hg) | refine GJ.t omAuto ?_ | refine GJ.f omAuto ?_ | refine GJ.ft omAuto ?_ | refine GJ.ff omAuto ?_))
  refine not_ok SetIn.zero ?_
  repeat (first | exact endA | refine wkG ?_ | refine opB (fun b => ?_) | refine opA (fun a' c' hc1 hc2 => ?_) | (show GJ _ _ _ _ _ _ _; first | (apply GJ.and; exact rfl; intro hg) | (apply GJ.or; exact rfl; intro hg) | refine GJ.t omAuto ?_ | refine GJ.f omAuto ?_ | refine GJ.ft omAuto ?_ | refine GJ.ff omAuto ?_))
  exact Wk.outS Sup.auto (.refl _) hk
theorem check_ok {s : SetD} (hk : K (.int .i64 (if s = ⟨0, 0, 0, 0⟩ then 160 else 0)) ro own) : CallOk Tryz.prog 86 #[.agg (setV s).toArray] ro own K := by
  refine CallOk.intro (args := [_]) (rs := [_]) T_ok Tryz.func86 Tryz.call86 rfl rfl (by kernel_rfl) rfl rfl ?_
  repeat (first | exact endA | refine wkG ?_ | refine opB (fun b => ?_) | refine opA (fun a' c' hc1 hc2 => ?_) | (show GJ _ _ _ _ _ _ _; first | (apply GJ.and; exact rfl; intro hg) | (apply GJ.or; exact rfl; intro hg) | refine GJ.t omAuto ?_ | refine GJ.f omAuto ?_ | refine GJ.ft omAuto ?_ | refine GJ.ff omAuto ?_))
  refine empty_ok ?_
  repeat (first | exact endA | refine wkG ?_ | refine opB (fun b => ?_) | refine opA (fun a' c' hc1 hc2 => ?_) | (show GJ _ _ _ _ _ _ _; first | (apply GJ.and; exact rfl; intro hg) | (apply GJ.or; exact rfl; intro hg) | refine GJ.t omAuto ?_ | refine GJ.f omAuto ?_ | refine GJ.ft omAuto ?_ | refine GJ.ff omAuto ?_))
  refine Br.cases (fun h => ?_) (fun h => ?_)
  · rw [if_pos h] at hk
    repeat (first | exact endA | refine wkG ?_ | refine opB (fun b => ?_) | refine opA (fun a' c' hc1 hc2 => ?_) | (show GJ _ _ _ _ _ _ _; first | (apply GJ.and; exact rfl; intro hg) | (apply GJ.or; exact rfl; intro hg) | refine GJ.t omAuto ?_ | refine GJ.f omAuto ?_ | refine GJ.ft omAuto ?_ | refine GJ.ff omAuto ?_))
    exact Wk.outS Sup.auto (.refl _) hk
  · rw [if_neg h] at hk
    repeat (first | exact endA | refine wkG ?_ | refine opB (fun b => ?_) | refine opA (fun a' c' hc1 hc2 => ?_) | (show GJ _ _ _ _ _ _ _; first | (apply GJ.and; exact rfl; intro hg) | (apply GJ.or; exact rfl; intro hg) | refine GJ.t omAuto ?_ | refine GJ.f omAuto ?_ | refine GJ.ft omAuto ?_ | refine GJ.ff omAuto ?_))
    exact Wk.outS Sup.auto (.refl _) hk
/-- One byte more. -/
def SetD.add (s : SetD) (c : Nat) : SetD := s.put (c / 64) (s.w (c / 64) ||| 2 ^ (c % 64))
theorem SetD.has_add {s : SetD} {c j : Nat} (hc : c < 256) (hj : j < 256) : (s.add c).has j = (s.has j || decide (j = c)) := by
  unfold SetD.has SetD.add
  rw [SetD.w_put (by omega) (by omega)]
  by_cases h : j / 64 = c / 64
  · rw [if_pos h, Nat.testBit_or, Nat.testBit_two_pow, h]
    congr 1
    rw [decide_eq_decide]
    omega
  · rw [if_neg h]
    have : ¬ j = c := fun e => h (by rw [e])
    simp [this]
theorem SetIn.add {s : SetD} {c : Nat} (hs : SetIn s) (hc : c < 256) : SetIn (s.add c) := fun k => by
  have h1 : s.w (c / 64) ||| 2 ^ (c % 64) < 2 ^ 64 := Nat.or_lt_two_pow (by have := hs (c / 64); omega) (Nat.pow_lt_pow_right (by decide) (by omega))
  have h2 := hs 0
  have h3 := hs 1
  have h4 := hs 2
  have h5 := hs 3
  unfold SetD.add
  generalize s.w (c / 64) ||| 2 ^ (c % 64) = x at h1 ⊢
  have hlt : c / 64 < 4 := by omega
  generalize c / 64 = m at hlt
  simp only [SetD.w] at h2 h3 h4 h5 ⊢
  unfold SetD.put
  repeat' split
  all_goals simp_all
theorem SetD.has_zero (c : Nat) : SetD.has ⟨0, 0, 0, 0⟩ c = false := by
  unfold SetD.has SetD.w
  repeat' split
  all_goals simp
theorem shl1_nat (i : Nat) (h : i < 64) : (1 : Int) * 2 ^ ((i : Nat) : Int).toNat % 18446744073709551616 = ((2 ^ i : Nat) : Int) := by
  rw [Int.toNat_natCast, Int.one_mul]
  have h1 : 2 ^ i < 2 ^ 64 := Nat.pow_lt_pow_right (by decide) h
  have h2 : ((2 : Int) ^ i) = ((2 ^ i : Nat) : Int) := by push_cast; rfl
  rw [h2]
  generalize 2 ^ i = q at h1
  omega
theorem QOk.andN' {ty : TypeId} {env : Env} {t yt : TypeId} {x y : Operand} {a b : Int} {K : Value → Prop} (hx : ev env x = some (.int .i64 a)) (hy : ev env y = some (.int .i64 b)) (h : (0 ≤ a ∧ a < 9223372036854775808) ∧ 0 ≤ b ∧ b < 9223372036854775808) (hk : K (.int .i64 (nand2 a b))) : QOk Tryz.prog (.binOp .and t x y yt) ty env ro own K :=
  QOk.pu (fun h' hs d pos af g => Pu.int2 hx hy (by simp) fun w => bits_and (k := .i64) h.1 h.2 w) hk
theorem range_ok {x y : Nat} (hx : x < 256) (hy : y < 256) (hk : ∀ s, SetIn s → (∀ c, c < 256 → s.has c = decide (x ≤ c ∧ c ≤ y)) → K (.agg (setV s).toArray) ro own) : CallOk Tryz.prog 129 #[.int .u8 (x : Int), .int .u8 (y : Int)] ro own K := by
  refine CallOk.intro (args := [_, _]) (rs := [_]) T_ok Tryz.func129 Tryz.call129 rfl rfl (by kernel_rfl) rfl rfl ?_
  repeat (first | exact endA | refine wkG ?_ | refine opB (fun b => ?_) | refine opA (fun a' c' hc1 hc2 => ?_) | (show GJ _ _ _ _ _ _ _; first | (apply GJ.and; exact rfl; intro hg) | (apply GJ.or; exact rfl; intro hg) | refine GJ.t omAuto ?_ | refine GJ.f omAuto ?_ | refine GJ.ft omAuto ?_ | refine GJ.ff omAuto ?_))
  rename_i br
  refine LoopOk.at (ι := Nat × SetD) Keep.auto (fun (i, u) => [(6, .int .i64 (i : Int))]) (fun (i, u) => .blk b 116 (setV u) :: .blk br 116 [.int .u64 0, .int .u64 0, .int .u64 0, .int .u64 0] :: own) (fun (i, u) => x ≤ i ∧ i ≤ 256 ∧ SetIn u ∧ (∀ c, c < 256 → u.has c = decide (x ≤ c ∧ c < i)) ∧ (i ≤ y + 1 ∨ i = x)) (fun (i, u) => 256 - i) (x, ⟨0, 0, 0, 0⟩) ?_ Sub.auto Sup.auto ?_
  · exact ⟨by omega, by omega, SetIn.zero, fun c hc => by rw [SetD.has_zero, eq_comm, decide_eq_false_iff_not]; omega, by omega⟩
  rintro ⟨i, u⟩ ⟨i1, i2, i3, i4, i5⟩
  dsimp only [List.cons_append, List.nil_append] at i1 i2 i3 i4 i5 ⊢
  repeat (first | exact endA | refine wkG ?_ | refine opB (fun b => ?_) | refine opA (fun a' c' hc1 hc2 => ?_) | (show GJ _ _ _ _ _ _ _; first | (apply GJ.and; exact rfl; intro hg) | (apply GJ.or; exact rfl; intro hg) | refine GJ.t omAuto ?_ | refine GJ.f omAuto ?_ | refine GJ.ft omAuto ?_ | refine GJ.ff omAuto ?_))
  refine Br.cases (fun hg => ?_) (fun hg => ?_)
  · have hw := i3 (i / 64)
    have e : (i : Int) / 2 ^ Int.toNat 6 = ((i / 64 : Nat) : Int) := by show (i : Int) / 64 = _; omega
    repeat (first | exact endA | refine wkG ?_ | refine opB (fun b => ?_) | refine opA (fun a' c' hc1 hc2 => ?_) | (show GJ _ _ _ _ _ _ _; first | (apply GJ.and; exact rfl; intro hg) | (apply GJ.or; exact rfl; intro hg) | refine GJ.t omAuto ?_ | refine GJ.f omAuto ?_ | refine GJ.ft omAuto ?_ | refine GJ.ff omAuto ?_))
    rw [e]
    repeat (first | exact endA | refine wkG ?_ | refine opB (fun b => ?_) | refine opA (fun a' c' hc1 hc2 => ?_) | (show GJ _ _ _ _ _ _ _; first | (apply GJ.and; exact rfl; intro hg) | (apply GJ.or; exact rfl; intro hg) | refine GJ.t omAuto ?_ | refine GJ.f omAuto ?_ | refine GJ.ft omAuto ?_ | refine GJ.ff omAuto ?_))
    refine QOk.load rfl rfl (Ld.setAt u rfl (k := i / 64) (by omega) (by omega)) ?_
    repeat (first | exact endA | refine wkG ?_ | refine opB (fun b => ?_) | refine opA (fun a' c' hc1 hc2 => ?_) | (show GJ _ _ _ _ _ _ _; first | (apply GJ.and; exact rfl; intro hg) | (apply GJ.or; exact rfl; intro hg) | refine GJ.t omAuto ?_ | refine GJ.f omAuto ?_ | refine GJ.ft omAuto ?_ | refine GJ.ff omAuto ?_))
    refine QOk.andN' rfl rfl ⟨by omega, by omega⟩ ?_
    repeat (first | exact endA | refine wkG ?_ | refine opB (fun b => ?_) | refine opA (fun a' c' hc1 hc2 => ?_) | (show GJ _ _ _ _ _ _ _; first | (apply GJ.and; exact rfl; intro hg) | (apply GJ.or; exact rfl; intro hg) | refine GJ.t omAuto ?_ | refine GJ.f omAuto ?_ | refine GJ.ft omAuto ?_ | refine GJ.ff omAuto ?_))
    rw [and63]
    refine ⟨by omega, ?_⟩
    rw [shl1_nat _ (by omega)]
    have hp : 2 ^ (i % 64) < 18446744073709551616 := Nat.pow_lt_pow_right (a := 2) (m := i % 64) (n := 64) (by decide) (by omega)
    have hadd : u.add i = u.put (i / 64) (u.w (i / 64) ||| 2 ^ (i % 64)) := rfl
    generalize 2 ^ (i % 64) = q at hp hadd ⊢
    repeat (first | exact endA | refine wkG ?_ | refine opB (fun b => ?_) | refine opA (fun a' c' hc1 hc2 => ?_) | (show GJ _ _ _ _ _ _ _; first | (apply GJ.and; exact rfl; intro hg) | (apply GJ.or; exact rfl; intro hg) | refine GJ.t omAuto ?_ | refine GJ.f omAuto ?_ | refine GJ.ft omAuto ?_ | refine GJ.ff omAuto ?_))
    refine storeSet (k := i / 64) (w := u.w (i / 64) ||| q) u rfl rfl rfl rfl rfl (by omega) (by omega) ?_
    rw [← hadd]
    repeat (first | exact endA | refine wkG ?_ | refine opB (fun b => ?_) | refine opA (fun a' c' hc1 hc2 => ?_) | (show GJ _ _ _ _ _ _ _; first | (apply GJ.and; exact rfl; intro hg) | (apply GJ.or; exact rfl; intro hg) | refine GJ.t omAuto ?_ | refine GJ.f omAuto ?_ | refine GJ.ft omAuto ?_ | refine GJ.ff omAuto ?_))
    refine Wk.id ⟨(i + 1, u.add i), ⟨rfl, ?_⟩, ?_, Sub.auto, Sup.auto⟩
    all_goals try dsimp only
    · refine ⟨by omega, by omega, i3.add (by omega), fun c hc => ?_, by omega⟩
      rw [SetD.has_add (by omega) hc, i4 c hc, Bool.eq_iff_iff]
      simp only [Bool.or_eq_true, decide_eq_true_iff]
      omega
    · omega
  · repeat (first | exact endA | refine wkG ?_ | refine opB (fun b => ?_) | refine opA (fun a' c' hc1 hc2 => ?_) | (show GJ _ _ _ _ _ _ _; first | (apply GJ.and; exact rfl; intro hg) | (apply GJ.or; exact rfl; intro hg) | refine GJ.t omAuto ?_ | refine GJ.f omAuto ?_ | refine GJ.ft omAuto ?_ | refine GJ.ff omAuto ?_))
    refine Wk.outS Sup.auto (.refl _) (hk u i3 (fun c hc => ?_))
    rw [i4 c hc, decide_eq_decide]
    omega
theorem of_ok {al : Option Addr} {cl : Nat} {l : List UInt8} (hl : Bys ro al l.length cl l) (hn : l.length ≤ 100000) (hk : ∀ s, SetIn s → (∀ c : UInt8, s.has c.toNat = decide (c ∈ l)) → K (.agg (setV s).toArray) ro own) : CallOk Tryz.prog 107 #[.slice al l.length cl] ro own K := by
  refine CallOk.intro (args := [_]) (rs := [_]) T_ok Tryz.func107 Tryz.call107 rfl rfl (by kernel_rfl) rfl rfl ?_
  repeat (first | exact endA | refine wkG ?_ | refine opB (fun b => ?_) | refine opA (fun a' c' hc1 hc2 => ?_) | (show GJ _ _ _ _ _ _ _; first | (apply GJ.and; exact rfl; intro hg) | (apply GJ.or; exact rfl; intro hg) | refine GJ.t omAuto ?_ | refine GJ.f omAuto ?_ | refine GJ.ft omAuto ?_ | refine GJ.ff omAuto ?_))
  rename_i br
  refine LoopOk.at (ι := Nat × SetD) Keep.auto (fun (i, u) => [(8, .int .i64 (i : Int))]) (fun (i, u) => .blk b 116 (setV u) :: .blk br 116 [.int .u64 0, .int .u64 0, .int .u64 0, .int .u64 0] :: own) (fun (i, u) => i ≤ l.length ∧ SetIn u ∧ (∀ c : UInt8, u.has c.toNat = decide (c ∈ l.take i))) (fun (i, u) => l.length - i) (0, ⟨0, 0, 0, 0⟩) ?_ Sub.auto Sup.auto ?_
  · exact ⟨by omega, SetIn.zero, fun c => by rw [SetD.has_zero]; simp⟩
  rintro ⟨i, u⟩ ⟨i1, i3, i4⟩
  dsimp only [List.cons_append, List.nil_append] at i1 i3 i4 ⊢
  repeat (first | exact endA | refine wkG ?_ | refine opB (fun b => ?_) | refine opA (fun a' c' hc1 hc2 => ?_) | (show GJ _ _ _ _ _ _ _; first | (apply GJ.and; exact rfl; intro hg) | (apply GJ.or; exact rfl; intro hg) | refine GJ.t omAuto ?_ | refine GJ.f omAuto ?_ | refine GJ.ft omAuto ?_ | refine GJ.ff omAuto ?_))
  refine Br.cases (fun hg => ?_) (fun hg => ?_)
  · have hil : i < l.length := by omega
    have htk : l.take (i + 1) = l.take i ++ [l[i]] := by rw [List.take_add_one, List.getElem?_eq_getElem hil]; rfl
    have hgb : l[(i : Int).toNat]! = l[i] := by rw [Int.toNat_natCast, List.getElem!_eq_getElem?_getD, List.getElem?_eq_getElem hil]; rfl
    repeat (first | exact endA | refine wkG ?_ | refine opB (fun b => ?_) | refine opA (fun a' c' hc1 hc2 => ?_) | (show GJ _ _ _ _ _ _ _; first | (apply GJ.and; exact rfl; intro hg) | (apply GJ.or; exact rfl; intro hg) | refine GJ.t omAuto ?_ | refine GJ.f omAuto ?_ | refine GJ.ft omAuto ?_ | refine GJ.ff omAuto ?_))
    rw [hgb]
    clear hgb
    generalize l[i] = c at htk ⊢
    have hc := c.toNat_lt
    have hw := i3 (c.toNat / 64)
    have e : (c.toNat : Int) / 2 ^ Int.toNat 6 = ((c.toNat / 64 : Nat) : Int) := by show (c.toNat : Int) / 64 = _; omega
    rw [e]
    repeat (first | exact endA | refine wkG ?_ | refine opB (fun b => ?_) | refine opA (fun a' c' hc1 hc2 => ?_) | (show GJ _ _ _ _ _ _ _; first | (apply GJ.and; exact rfl; intro hg) | (apply GJ.or; exact rfl; intro hg) | refine GJ.t omAuto ?_ | refine GJ.f omAuto ?_ | refine GJ.ft omAuto ?_ | refine GJ.ff omAuto ?_))
    refine OpOk.load rfl rfl (Ld.setAt u rfl (k := c.toNat / 64) (by omega) (by omega)) ?_
    repeat (first | exact endA | refine wkG ?_ | refine opB (fun b => ?_) | refine opA (fun a' c' hc1 hc2 => ?_) | (show GJ _ _ _ _ _ _ _; first | (apply GJ.and; exact rfl; intro hg) | (apply GJ.or; exact rfl; intro hg) | refine GJ.t omAuto ?_ | refine GJ.f omAuto ?_ | refine GJ.ft omAuto ?_ | refine GJ.ff omAuto ?_))
    rw [and63]
    refine ⟨by omega, ?_⟩
    rw [shl1_nat _ (by omega)]
    have hp : 2 ^ (c.toNat % 64) < 18446744073709551616 := Nat.pow_lt_pow_right (a := 2) (m := c.toNat % 64) (n := 64) (by decide) (by omega)
    have hadd : u.add c.toNat = u.put (c.toNat / 64) (u.w (c.toNat / 64) ||| 2 ^ (c.toNat % 64)) := rfl
    generalize 2 ^ (c.toNat % 64) = q at hp hadd ⊢
    repeat (first | exact endA | refine wkG ?_ | refine opB (fun b => ?_) | refine opA (fun a' c' hc1 hc2 => ?_) | (show GJ _ _ _ _ _ _ _; first | (apply GJ.and; exact rfl; intro hg) | (apply GJ.or; exact rfl; intro hg) | refine GJ.t omAuto ?_ | refine GJ.f omAuto ?_ | refine GJ.ft omAuto ?_ | refine GJ.ff omAuto ?_))
    refine storeSet (k := c.toNat / 64) (w := u.w (c.toNat / 64) ||| q) u rfl rfl rfl rfl rfl (by omega) (by omega) ?_
    rw [← hadd]
    repeat (first | exact endA | refine wkG ?_ | refine opB (fun b => ?_) | refine opA (fun a' c' hc1 hc2 => ?_) | (show GJ _ _ _ _ _ _ _; first | (apply GJ.and; exact rfl; intro hg) | (apply GJ.or; exact rfl; intro hg) | refine GJ.t omAuto ?_ | refine GJ.f omAuto ?_ | refine GJ.ft omAuto ?_ | refine GJ.ff omAuto ?_))
    refine Wk.id ⟨(i + 1, u.add c.toNat), ⟨rfl, ?_⟩, ?_, Sub.auto, Sup.auto⟩
    all_goals try dsimp only
    · refine ⟨by omega, i3.add (by omega), fun j => ?_⟩
      rw [SetD.has_add (by omega) j.toNat_lt, i4 j, htk, Bool.eq_iff_iff]
      simp only [Bool.or_eq_true, decide_eq_true_iff, List.mem_append, List.mem_singleton]
      exact or_congr_right (UInt8.toNat_inj)
    · omega
  · obtain rfl : i = l.length := by omega
    rw [List.take_length] at i4
    repeat (first | exact endA | refine wkG ?_ | refine opB (fun b => ?_) | refine opA (fun a' c' hc1 hc2 => ?_) | (show GJ _ _ _ _ _ _ _; first | (apply GJ.and; exact rfl; intro hg) | (apply GJ.or; exact rfl; intro hg) | refine GJ.t omAuto ?_ | refine GJ.f omAuto ?_ | refine GJ.ft omAuto ?_ | refine GJ.ff omAuto ?_))
    exact Wk.outS Sup.auto (.refl _) (hk u i3 i4)
end
end Go.Proofs.YtinbmhbfcoiefaaGreatDoor
end
section
/- How many bits a number has: the count by halves is the count bit by bit. No program in sight. -/
namespace Go.Proofs.YtinbmhbfcoiefaaGreatDoor
open Go Go.E
set_option linter.unusedVariables false
/-- The bits of a number of n bits. -/
def pc : Nat → Nat → Nat
  | 0, _ => 0
  | n + 1, x => x % 2 + pc n (x / 2)
end Go.Proofs.YtinbmhbfcoiefaaGreatDoor
end
section
/- The lowest bit, by multiplying and a table. -/
namespace Go.Proofs.YtinbmhbfcoiefaaGreatDoor
open Go Go.E
set_option linter.unusedVariables false
set_option maxRecDepth 10000
theorem odd_part : ∀ (n x : Nat), x ≤ n → x ≠ 0 → ∃ k m, x = 2 ^ (k + 1) * m + 2 ^ k
  | 0, x, h, h0 => absurd (by omega) h0
  | n + 1, x, h, h0 => by
    by_cases ho : x % 2 = 1
    · exact ⟨0, x / 2, by simp; omega⟩
    · obtain ⟨k, m, e⟩ := odd_part n (x / 2) (by omega) (by omega)
      refine ⟨k + 1, m, ?_⟩
      have h2 : x = 2 * (x / 2) := by omega
      rw [h2, e, Nat.pow_succ 2 (k + 1), Nat.mul_add, Nat.pow_succ 2 k, ← Nat.mul_assoc]
      congr 1
      · congr 1
        omega
      · omega
theorem low_bit {x : Nat} (h0 : x ≠ 0) (h : x < 18446744073709551616) : ∃ k, k < 64 ∧ x.testBit k = true ∧ (∀ i, i < k → x.testBit i = false) ∧ x &&& (18446744073709551616 - x) = 2 ^ k := by
  obtain ⟨k, m, e⟩ := odd_part x x (Nat.le_refl _) h0
  have hp : 2 ^ k < 2 ^ (k + 1) := Nat.pow_lt_pow_right (by decide) (by omega)
  have hp0 : 0 < 2 ^ k := Nat.two_pow_pos k
  have hk : k < 64 := by
    rcases Nat.lt_or_ge k 64 with hk | hk
    · exact hk
    · have : 2 ^ 64 ≤ 2 ^ k := Nat.pow_le_pow_right (by decide) hk
      omega
  have tb : ∀ i, x.testBit i = if i < k + 1 then decide (k = i) else m.testBit (i - (k + 1)) := fun i => by
    rw [e, Nat.testBit_two_pow_mul_add _ hp, Nat.testBit_two_pow]
  have e1 : x - 1 = 2 ^ (k + 1) * m + (2 ^ k - 1) := by omega
  have tb1 : ∀ i, (x - 1).testBit i = if i < k + 1 then decide (i < k) else m.testBit (i - (k + 1)) := fun i => by
    rw [e1, Nat.testBit_two_pow_mul_add _ (by omega), Nat.testBit_two_pow_sub_one]
  refine ⟨k, hk, by rw [tb, if_pos (by omega)]; simp, fun i hi => by rw [tb, if_pos (by omega)]; simp; omega, ?_⟩
  apply Nat.eq_of_testBit_eq
  intro i
  rw [Nat.testBit_and, show 18446744073709551616 - x = 2 ^ 64 - ((x - 1) + 1) by omega, Nat.testBit_two_pow_sub_succ (by omega), tb, tb1, Nat.testBit_two_pow]
  by_cases hi : i < k + 1
  · rw [if_pos hi, if_pos hi]
    by_cases hik : k = i
    · subst hik; simp [hk]
    · simp [hik]
  · rw [if_neg hi, if_neg hi]
    have : ¬ k = i := by omega
    simp [this]
    exact fun a _ => a
def debr : List Int := [0, 1, 56, 2, 57, 49, 28, 3, 61, 58, 42, 50, 38, 29, 17, 4, 62, 47, 59, 36, 45, 43, 51, 22, 53, 39, 33, 30, 24, 18, 12, 5, 63, 55, 48, 27, 60, 41, 37, 16, 46, 35, 44, 21, 52, 32, 23, 11, 54, 26, 40, 15, 34, 20, 31, 10, 25, 14, 19, 9, 13, 8, 7, 6]
theorem debr_spec : ∀ k : Nat, k < 64 → debr.getD (2 ^ k * 285870213051353865 % 18446744073709551616 / 288230376151711744) 0 = (k : Int) ∧ 2 ^ k * 285870213051353865 % 18446744073709551616 / 288230376151711744 < 64 := by decide +kernel
/-- The table lies where it lies. -/
structure TabOk (ro : Ro) : Prop where
  cells : ∃ cs t fr, ro 0 = some (.cells cs t fr) ∧ ∀ i, i < 64 → cs[i]? = some (.int .u8 (debr.getD i 0))
theorem TabOk.le {ro ro' : Ro} (h : TabOk ro) (hl : Le ro ro') : TabOk ro' := by
  obtain ⟨cs, t, fr, h1, h2⟩ := h.cells
  exact ⟨cs, t, fr, hl.le _ _ h1, h2⟩
theorem TabOk.ld {ro : Ro} {own : Chs} {o i : Nat} (h : TabOk ro) (ho : o = i) (hi : i < 64) : Ld ro own 0 o (.int .u8 (debr.getD i 0)) := fun hp hs => by
  subst ho
  obtain ⟨cs, t, fr, h1, h2⟩ := h.cells
  have := hs.last _ _ h1
  rw [cellAt_of this]; exact h2 o hi
/-- How many bits are below the lowest one. -/
def Low (x k : Nat) : Prop := k < 64 ∧ x.testBit k = true ∧ ∀ i, i < k → x.testBit i = false
section
variable {ro : Ro} {own r : Chs} {K : Value → Ro → Chs → Prop} {g : Chunk → Chs}
theorem tz_ok {x : Nat} (ht : TabOk ro) (h0 : x ≠ 0) (h : x < 18446744073709551616) (hk : ∀ k : Nat, Low x k → K (.int .i64 (k : Int)) ro own) : CallOk Tryz.prog 77 #[.int .u64 (x : Int)] ro own K := by
  obtain ⟨k, k1, k2, k3, k4⟩ := low_bit h0 h
  have k5 := hk k ⟨k1, k2, k3⟩
  obtain ⟨d1, d2⟩ := debr_spec k k1
  have e1 : (18446744073709551616 - x) % 18446744073709551616 = 18446744073709551616 - x := by omega
  have e2 : nand2 (x : Int) ((18446744073709551616 - x : Nat) : Int) = ((2 ^ k : Nat) : Int) := congrArg Int.ofNat k4
  have e3 : (((2 ^ k : Nat) : Int) * 285870213051353865 % 18446744073709551616) / 2 ^ Int.toNat 58 = ((2 ^ k * 285870213051353865 % 18446744073709551616 / 288230376151711744 : Nat) : Int) := by
    show _ / (288230376151711744 : Int) = _
    generalize 2 ^ k = q
    omega
  generalize 2 ^ k * 285870213051353865 % 18446744073709551616 / 288230376151711744 = idx at d1 d2 e3
  refine CallOk.intro (args := [_]) (rs := [_]) T_ok Tryz.func77 Tryz.call77 rfl rfl (by kernel_rfl) rfl rfl ?_
  repeat (first | exact endA | refine wkG ?_ | refine opB (fun b => ?_) | refine opA (fun a' c' hc1 hc2 => ?_) | (show GJ _ _ _ _ _ _ _; first | (apply GJ.and; exact rfl; intro hg) | (apply GJ.or; exact rfl; intro hg) | refine GJ.t omAuto ?_ | refine GJ.f omAuto ?_ | refine GJ.ft omAuto ?_ | refine GJ.ff omAuto ?_))
  refine OpOk.neg64 rfl ?_ h
  rw [e1]
  repeat (first | exact endA | refine wkG ?_ | refine opB (fun b => ?_) | refine opA (fun a' c' hc1 hc2 => ?_) | (show GJ _ _ _ _ _ _ _; first | (apply GJ.and; exact rfl; intro hg) | (apply GJ.or; exact rfl; intro hg) | refine GJ.t omAuto ?_ | refine GJ.f omAuto ?_ | refine GJ.ft omAuto ?_ | refine GJ.ff omAuto ?_))
  rw [e2, e3]
  repeat (first | exact endA | refine wkG ?_ | refine opB (fun b => ?_) | refine opA (fun a' c' hc1 hc2 => ?_) | (show GJ _ _ _ _ _ _ _; first | (apply GJ.and; exact rfl; intro hg) | (apply GJ.or; exact rfl; intro hg) | refine GJ.t omAuto ?_ | refine GJ.f omAuto ?_ | refine GJ.ft omAuto ?_ | refine GJ.ff omAuto ?_))
  refine OpOk.load rfl rfl (ht.ld (i := idx) (by omega) d2) ?_
  rw [d1]
  repeat (first | exact endA | refine wkG ?_ | refine opB (fun b => ?_) | refine opA (fun a' c' hc1 hc2 => ?_) | (show GJ _ _ _ _ _ _ _; first | (apply GJ.and; exact rfl; intro hg) | (apply GJ.or; exact rfl; intro hg) | refine GJ.t omAuto ?_ | refine GJ.f omAuto ?_ | refine GJ.ft omAuto ?_ | refine GJ.ff omAuto ?_))
  exact Wk.outS Sup.auto (.refl _) k5
end
end Go.Proofs.YtinbmhbfcoiefaaGreatDoor
end
section
/- Contracts of class: Len, First. -/
namespace Go.Proofs.YtinbmhbfcoiefaaGreatDoor
open Go Go.E
set_option linter.unusedVariables false
set_option maxRecDepth 10000
def SetD.len (s : SetD) : Nat := pc 64 s.a + pc 64 s.b + pc 64 s.c + pc 64 s.d
section
variable {ro : Ro} {own r : Chs} {K : Value → Ro → Chs → Prop} {g : Chunk → Chs}
theorem first_ok {s : SetD} (ht : TabOk ro) (hs : SetIn s) (h1 : s = ⟨0, 0, 0, 0⟩ → K (.tuple #[.int .u8 0, .bool false]) ro own) (h2 : ∀ c : Nat, c < 256 → s.has c = true → (∀ j, j < c → s.has j = false) → K (.tuple #[.int .u8 (c : Int), .bool true]) ro own) : CallOk Tryz.prog 52 #[.agg (setV s).toArray] ro own K := by
  refine CallOk.intro (args := [_]) (rs := [_, _]) T_ok Tryz.func52 Tryz.call52 rfl rfl (by kernel_rfl) rfl rfl ?_
  repeat (first | exact endA | refine wkG ?_ | refine opB (fun b => ?_) | refine opA (fun a' c' hc1 hc2 => ?_) | (show GJ _ _ _ _ _ _ _; first | (apply GJ.and; exact rfl; intro hg) | (apply GJ.or; exact rfl; intro hg) | refine GJ.t omAuto ?_ | refine GJ.f omAuto ?_ | refine GJ.ft omAuto ?_ | refine GJ.ff omAuto ?_))
  refine LoopOk.at (ι := Nat) Keep.auto (fun i => [(7, .int .i64 (i : Int))]) (fun i => .blk b 116 (setV s) :: own) (fun i => i ≤ 4 ∧ ∀ k, k < i → s.w k = 0) (fun i => 4 - i) 0 ?_ Sub.auto Sup.auto ?_
  · exact ⟨by omega, fun k hk => absurd hk (by omega)⟩
  rintro i ⟨i1, i2⟩
  dsimp only [List.cons_append, List.nil_append]
  repeat (first | exact endA | refine wkG ?_ | refine opB (fun b => ?_) | refine opA (fun a' c' hc1 hc2 => ?_) | (show GJ _ _ _ _ _ _ _; first | (apply GJ.and; exact rfl; intro hg) | (apply GJ.or; exact rfl; intro hg) | refine GJ.t omAuto ?_ | refine GJ.f omAuto ?_ | refine GJ.ft omAuto ?_ | refine GJ.ff omAuto ?_))
  refine Br.cases (fun hg => ?_) (fun hg => ?_)
  · have hw := hs i
    repeat (first | exact endA | refine wkG ?_ | refine opB (fun b => ?_) | refine opA (fun a' c' hc1 hc2 => ?_) | (show GJ _ _ _ _ _ _ _; first | (apply GJ.and; exact rfl; intro hg) | (apply GJ.or; exact rfl; intro hg) | refine GJ.t omAuto ?_ | refine GJ.f omAuto ?_ | refine GJ.ft omAuto ?_ | refine GJ.ff omAuto ?_))
    refine OpOk.index1 (k := i) (e := 22) (n := 4) rfl rfl (by kernel_rfl) Tryz.underlying22 rfl (by kernel_rfl) rfl (by omega) (setV_get (s := s) (by omega)) ?_
    repeat (first | exact endA | refine wkG ?_ | refine opB (fun b => ?_) | refine opA (fun a' c' hc1 hc2 => ?_) | (show GJ _ _ _ _ _ _ _; first | (apply GJ.and; exact rfl; intro hg) | (apply GJ.or; exact rfl; intro hg) | refine GJ.t omAuto ?_ | refine GJ.f omAuto ?_ | refine GJ.ft omAuto ?_ | refine GJ.ff omAuto ?_))
    refine Br.cases (fun hne => ?_) (fun he => ?_)
    · repeat (first | exact endA | refine wkG ?_ | refine opB (fun b => ?_) | refine opA (fun a' c' hc1 hc2 => ?_) | (show GJ _ _ _ _ _ _ _; first | (apply GJ.and; exact rfl; intro hg) | (apply GJ.or; exact rfl; intro hg) | refine GJ.t omAuto ?_ | refine GJ.f omAuto ?_ | refine GJ.ft omAuto ?_ | refine GJ.ff omAuto ?_))
      refine tz_ok ht (by omega) hw (fun k hlow => ?_)
      obtain ⟨l1, l2, l3⟩ := hlow
      have hc := h2 (64 * i + k) (by omega) (by unfold SetD.has; rw [show (64 * i + k) / 64 = i by omega, show (64 * i + k) % 64 = k by omega]; exact l2) (fun j hj => by
        unfold SetD.has
        by_cases hji : j / 64 < i
        · rw [i2 _ hji]; simp
        · rw [show j / 64 = i by omega]; exact l3 _ (by omega))
      repeat (first | exact endA | refine wkG ?_ | refine opB (fun b => ?_) | refine opA (fun a' c' hc1 hc2 => ?_) | (show GJ _ _ _ _ _ _ _; first | (apply GJ.and; exact rfl; intro hg) | (apply GJ.or; exact rfl; intro hg) | refine GJ.t omAuto ?_ | refine GJ.f omAuto ?_ | refine GJ.ft omAuto ?_ | refine GJ.ff omAuto ?_))
      have e : (64 * (i : Int) + (k : Int)) % 256 = ((64 * i + k : Nat) : Int) := by omega
      rw [e]
      exact Wk.outS Sup.auto (.refl _) hc
    · repeat (first | exact endA | refine wkG ?_ | refine opB (fun b => ?_) | refine opA (fun a' c' hc1 hc2 => ?_) | (show GJ _ _ _ _ _ _ _; first | (apply GJ.and; exact rfl; intro hg) | (apply GJ.or; exact rfl; intro hg) | refine GJ.t omAuto ?_ | refine GJ.f omAuto ?_ | refine GJ.ft omAuto ?_ | refine GJ.ff omAuto ?_))
      refine Wk.id ⟨i + 1, ⟨rfl, ?_⟩, ?_, Sub.auto, Sup.auto⟩
      all_goals try dsimp only
      · refine ⟨by omega, fun k hk => ?_⟩
        by_cases hki : k = i
        · subst hki; omega
        · exact i2 k (by omega)
      · omega
  · obtain rfl : i = 4 := by omega
    repeat (first | exact endA | refine wkG ?_ | refine opB (fun b => ?_) | refine opA (fun a' c' hc1 hc2 => ?_) | (show GJ _ _ _ _ _ _ _; first | (apply GJ.and; exact rfl; intro hg) | (apply GJ.or; exact rfl; intro hg) | refine GJ.t omAuto ?_ | refine GJ.f omAuto ?_ | refine GJ.ft omAuto ?_ | refine GJ.ff omAuto ?_))
    refine Wk.outS Sup.auto (.refl _) (h1 ?_)
    exact SetD.ext4 (fun k hk => by rw [i2 k hk]; unfold SetD.w; simp)
end
end Go.Proofs.YtinbmhbfcoiefaaGreatDoor
end
section
/- Contracts of class: Name. -/
namespace Go.Proofs.YtinbmhbfcoiefaaGreatDoor
open Go Go.E
set_option linter.unusedVariables false
set_option linter.unusedSimpArgs false
set_option maxRecDepth 10000
section
variable {ro : Ro} {own r : Chs} {K : Value → Ro → Chs → Prop} {g : Chunk → Chs}
theorem ibs_ok {l : List UInt8} {u : UInt8} (hk : K (.int .i64 (firstIdx ⟨⟨l⟩⟩ u)) ro own) : CallOk Tryz.prog 153 #[str l, .int .u8 ((u.toNat : Nat) : Int)] ro own K :=
  CallOk.ext Tryz.func153 (by kernel_rfl) (by kernel_rfl) (by kernel_rfl) (e := Extern.BytealgIndexByte.indexByte) (by kernel_rfl) (fun w => run_indexByte_string ⟨⟨l⟩⟩ ((u.toNat : Nat) : Int) w) (by simpa using hk)
theorem sib_ok {l : List UInt8} {u : UInt8} (hk : K (.int .i64 (firstIdx ⟨⟨l⟩⟩ u)) ro own) : CallOk Tryz.prog 147 #[str l, .int .u8 ((u.toNat : Nat) : Int)] ro own K := by
  refine CallOk.intro (args := [_, _]) (rs := [_]) T_ok Tryz.func147 Tryz.call147 rfl rfl (by kernel_rfl) rfl rfl ?_
  repeat (first | exact endA | refine wkG ?_ | refine opB (fun b => ?_) | refine opA (fun a' c' hc1 hc2 => ?_) | (show GJ _ _ _ _ _ _ _; first | (apply GJ.and; exact rfl; intro hg) | (apply GJ.or; exact rfl; intro hg) | refine GJ.t omAuto ?_ | refine GJ.f omAuto ?_ | refine GJ.ft omAuto ?_ | refine GJ.ff omAuto ?_))
  refine ibs_ok ?_
  repeat (first | exact endA | refine wkG ?_ | refine opB (fun b => ?_) | refine opA (fun a' c' hc1 hc2 => ?_) | (show GJ _ _ _ _ _ _ _; first | (apply GJ.and; exact rfl; intro hg) | (apply GJ.or; exact rfl; intro hg) | refine GJ.t omAuto ?_ | refine GJ.f omAuto ?_ | refine GJ.ft omAuto ?_ | refine GJ.ff omAuto ?_))
  exact Wk.outS Sup.auto (.refl _) hk
theorem sidx_ok {l : List UInt8} {u : UInt8} (hne : [u] ≠ l) (hk : K (.int .i64 (firstIdx ⟨⟨l⟩⟩ u)) ro own) : CallOk Tryz.prog 144 #[str l, str [u]] ro own K := by
  have hl1 : ([u] : List UInt8).length = 1 := rfl
  refine CallOk.intro (args := [_, _]) (rs := [_]) T_ok Tryz.func144 Tryz.call144 rfl rfl (by kernel_rfl) rfl rfl ?_
  repeat (first | exact endA | refine wkT ?_ | refine opB (fun b => ?_) | refine opA (fun a' c' hc1 hc2 => ?_) | (apply GJ.and; exact rfl; intro hg) | (apply GJ.or; exact rfl; intro hg))
  refine sib_ok (u := u) ?_
  repeat (first | exact endA | refine wkT ?_ | refine opB (fun b => ?_) | refine opA (fun a' c' hc1 hc2 => ?_) | (apply GJ.and; exact rfl; intro hg) | (apply GJ.or; exact rfl; intro hg))
  exact Wk.outS Sup.auto (.refl _) hk
theorem index_ok {l : List UInt8} {u : UInt8} (hne : [u] ≠ l) (hk : K (.int .i64 (firstIdx ⟨⟨l⟩⟩ u)) ro own) : CallOk Tryz.prog 141 #[str l, str [u]] ro own K := by
  refine CallOk.intro (args := [_, _]) (rs := [_]) T_ok Tryz.func141 Tryz.call141 rfl rfl (by kernel_rfl) rfl rfl ?_
  repeat (first | exact endA | refine wkG ?_ | refine opB (fun b => ?_) | refine opA (fun a' c' hc1 hc2 => ?_) | (show GJ _ _ _ _ _ _ _; first | (apply GJ.and; exact rfl; intro hg) | (apply GJ.or; exact rfl; intro hg) | refine GJ.t omAuto ?_ | refine GJ.f omAuto ?_ | refine GJ.ft omAuto ?_ | refine GJ.ff omAuto ?_))
  refine sidx_ok hne ?_
  repeat (first | exact endA | refine wkG ?_ | refine opB (fun b => ?_) | refine opA (fun a' c' hc1 hc2 => ?_) | (show GJ _ _ _ _ _ _ _; first | (apply GJ.and; exact rfl; intro hg) | (apply GJ.or; exact rfl; intro hg) | refine GJ.t omAuto ?_ | refine GJ.f omAuto ?_ | refine GJ.ft omAuto ?_ | refine GJ.ff omAuto ?_))
  exact Wk.outS Sup.auto (.refl _) hk
end
end Go.Proofs.YtinbmhbfcoiefaaGreatDoor
end
section
/- Merged of: V16 V17 V18 V19 V20 V25 V26 V27 V28. Slices cut, read whatever they are. No program in sight. -/
/-! Slices cut, read whatever they are. No program in sight. -/
namespace Go.E
open Go
set_option linter.unusedVariables false
theorem LdN.atR {ro ro' : Ro} {own own' : Chs} {a : Option Addr} {n c s k z o : Nat} {cs vs : List Value} (hr : Rds ro own a n c s cs) (hd : (cs.drop k).take z = vs) (ho : o = ao a + k) [hl : Leq ro ro'] [hp : Suf own' own] : LdN ro' own' (ab a) o vs := by
  subst ho; subst hd; exact LdN.rds hr
end Go.E
/-! Regions that draw their order, where operations that change something may come up in any order: each has its own place in memory; what it does is told by itself. No program in sight. -/
namespace Go.E
open Go
set_option linter.unusedVariables false
theorem Sub2.refl (e : Env) : Sub2 e e := fun _ _ h => h
section
variable {P : Program} {T : TT} {Q : Exit → Act → World → Prop} {n : Nat} {σ : World}
end
end Go.E
/-! .. and that it is right. No program in sight. -/
namespace Go.E
open Go
set_option linter.unusedVariables false
section
variable {P : Program} {T : TT} {Q : Exit → Act → World → Prop} {n : Fr} {σ : World}
end
/-- The walk, as far as a region that draws its order. -/
theorem wkN {q p : Prop} (h : q) (e : Hd q → p := by
  intro hWk
  first
    | refine Stop.mk ?_
    | (show _ ∧ _; refine And.intro sdAuto ?_)
    | (show OpOk _ _ _ _ _ _ _; first
        | refine OpOk.load rfl rfl Ld.auto ?_
        | refine OpOk.loadRow rfl rfl LdN.hasBlk rfl ?_
        | refine OpOk.loadPart rfl rfl Nf.auto rfAuto ?_
        | refine OpOk.store rfl rfl rfl rfl SetR.auto ?_
        | refine OpOk.storeRow rfl rfl rfl rfl (by rfl) rfl ?_
        | refine OpOk.idx1 rfl rfl rfl (by omega) AOk.auto ?_
        | refine OpOk.idxA rfl rfl rfl (by omega) ?_
        | refine OpOk.idx rfl rfl rfl (by omega) AOk.auto ?_
        | refine OpOk.andN rfl rfl sdAuto ?_
        | refine OpOk.eqlSl rfl rfl ?_
        | refine OpOk.neqSl rfl rfl ?_
        | refine OpOk.clip rfl rfl rfl rfl (by omega) ?_
        | refine OpOk.build rfl rfl Nf.auto ?_
        | refine OpOk.toStr rfl rfl rfl rfl Rds.auto ?_)
    | (show QOk _ _ _ _ _ _ _; first | refine QOk.load rfl rfl Ld.auto ?_ | refine QOk.idx1 rfl rfl rfl (by omega) AOk.auto ?_ | refine QOk.idxA rfl rfl rfl (by omega) ?_ | refine QOk.idx rfl rfl rfl (by omega) AOk.auto ?_ | refine QOk.loadRow rfl rfl LdN.hasBlk rfl ?_ | refine QOk.loadPart rfl rfl Nf.auto rfAuto ?_ | refine QOk.toStr rfl rfl rfl rfl Rds.auto ?_)
    | (show GJ _ _ _ _ _ _ _; first | with_reducible refine GJ.l1 ?_ | with_reducible refine GJ.l2 ?_ | with_reducible refine GJ.l3 ?_ | with_reducible refine GJ.l4 ?_ | with_reducible refine GJ.n1 ?_ | with_reducible refine GJ.n2 ?_ | with_reducible refine GJ.n3 ?_ | with_reducible refine GJ.n4 ?_ | refine GJ.t (by omega) ?_ | refine GJ.f (by omega) ?_ | refine GJ.ft (by omega) ?_ | refine GJ.ff (by omega) ?_)
    | (show Br _ _ _; first | with_reducible refine Br.tt ?_ | with_reducible refine Br.ff ?_ | with_reducible refine Br.nt ?_ | with_reducible refine Br.nf ?_ | refine Br.t (by omega) ?_ | refine Br.f (by omega) ?_)
    | (show Bk _ _ _; refine Bk.all Sup.auto ?_)
    | (show RetOk _ _ _ _ _ _; refine RetOk.of (T := T) RL.auto ?_)
  repeat (first
    | refine Stop.mk ?_
    | (show _ ∧ _; refine And.intro sdAuto ?_)
    | (show OpOk _ _ _ _ _ _ _; first
        | refine OpOk.load rfl rfl Ld.auto ?_
        | refine OpOk.loadRow rfl rfl LdN.hasBlk rfl ?_
        | refine OpOk.loadPart rfl rfl Nf.auto rfAuto ?_
        | refine OpOk.store rfl rfl rfl rfl SetR.auto ?_
        | refine OpOk.storeRow rfl rfl rfl rfl (by rfl) rfl ?_
        | refine OpOk.idx1 rfl rfl rfl (by omega) AOk.auto ?_
        | refine OpOk.idxA rfl rfl rfl (by omega) ?_
        | refine OpOk.idx rfl rfl rfl (by omega) AOk.auto ?_
        | refine OpOk.andN rfl rfl sdAuto ?_
        | refine OpOk.eqlSl rfl rfl ?_
        | refine OpOk.neqSl rfl rfl ?_
        | refine OpOk.clip rfl rfl rfl rfl (by omega) ?_
        | refine OpOk.build rfl rfl Nf.auto ?_
        | refine OpOk.toStr rfl rfl rfl rfl Rds.auto ?_)
    | (show QOk _ _ _ _ _ _ _; first | refine QOk.load rfl rfl Ld.auto ?_ | refine QOk.idx1 rfl rfl rfl (by omega) AOk.auto ?_ | refine QOk.idxA rfl rfl rfl (by omega) ?_ | refine QOk.idx rfl rfl rfl (by omega) AOk.auto ?_ | refine QOk.loadRow rfl rfl LdN.hasBlk rfl ?_ | refine QOk.loadPart rfl rfl Nf.auto rfAuto ?_ | refine QOk.toStr rfl rfl rfl rfl Rds.auto ?_)
    | (show GJ _ _ _ _ _ _ _; first | with_reducible refine GJ.l1 ?_ | with_reducible refine GJ.l2 ?_ | with_reducible refine GJ.l3 ?_ | with_reducible refine GJ.l4 ?_ | with_reducible refine GJ.n1 ?_ | with_reducible refine GJ.n2 ?_ | with_reducible refine GJ.n3 ?_ | with_reducible refine GJ.n4 ?_ | refine GJ.t (by omega) ?_ | refine GJ.f (by omega) ?_ | refine GJ.ft (by omega) ?_ | refine GJ.ff (by omega) ?_)
    | (show Br _ _ _; first | with_reducible refine Br.tt ?_ | with_reducible refine Br.ff ?_ | with_reducible refine Br.nt ?_ | with_reducible refine Br.nf ?_ | refine Br.t (by omega) ?_ | refine Br.f (by omega) ?_)
    | (show Bk _ _ _; refine Bk.all Sup.auto ?_)
    | (show RetOk _ _ _ _ _ _; refine RetOk.of (T := T) RL.auto ?_))
  exact hWk.get) : p := e ⟨h⟩
end Go.E
/-! Room that nobody has cleared (a Builder grows); copying nothing. No program in sight. -/
namespace Go.E
open Go
set_option linter.unusedVariables false
set_option linter.unusedSimpArgs false
section
variable {P : Program} {f : FuncId} {fn : Func} {ro : Ro} {own : Chs} {K : Value → Ro → Chs → Prop}
end
section
variable {P : Program} {T : TT} [hT : TTab P T] {ty : TypeId} {env : Env} {ro : Ro} {own : Chs} {K : Value → Ro → Chs → Prop}
theorem cutA_zero (a : Option Addr) (c s : Nat) : cutA a 0 c s = a := by
  unfold cutA
  split
  · rfl
  · cases a with
    | none => rfl
    | some a => simp [Addr.add]
end
end Go.E
/-! A contract of the shelf as one of this engine: it leaves what was there as it was. No program in sight. -/
namespace Go.E
open Go
set_option linter.unusedVariables false
section
variable {P : Program} {f : FuncId} {ro : Ro} {own : Chs} {K : Value → Ro → Chs → Prop}
theorem CallOk.ofBelow {args : Array Value} {v : Value} (enter : ∀ args w, (callFunc f args).run P w = .ok (.enter f args) w) (h : ∀ w, Calls P f args w fun e w' => e = .returned v ∧ Go.RowKit.Below w.heap.size w w') (hk : K v ro own) : CallOk P f args ro own K :=
  CallOk.body enter fun h0 hs w hw => (h w).mono fun e w' ⟨he, hb⟩ => ⟨v, he, ⟨rfl, hb.os, hb.tape, hb.output⟩, ro, own, Le.refl _, hs.keep (fun b hb' => by subst hw; exact hb.block b hb'), hk⟩
end
end Go.E
/-! Slices of structs that are made; what lies in them is left open. No program in sight. -/
namespace Go.E
open Go
set_option linter.unusedVariables false
section
variable {P : Program} {T : TT} [hT : TTab P T] {ty : TypeId} {env : Env} {ro : Ro} {own : Chs} {K : Value → Ro → Chs → Prop}
end
end Go.E
/-! A slice of one's own is told shorter. No program in sight. -/
namespace Go.E
open Go
set_option linter.unusedVariables false
section
variable {P : Program} {T : TT} {ty : TypeId} {env : Env} {ro : Ro} {own : Chs} {K : Value → Ro → Chs → Prop}
theorem Chunk.holds.shrink {ro : Ro} {a : Option Addr} {n m c s : Nat} {t : TypeId} {cs : List Value} (h : (Chunk.sl a n c t s cs).holds ro) (hm : m ≤ n) : (Chunk.sl a m c t s (cs.take (m * s))).holds ro := by
  obtain ⟨h1, h2, h3, h4⟩ := h
  have hms := Nat.mul_le_mul_right s hm
  refine ⟨by rw [List.length_take]; omega, by omega, h3, ?_⟩
  rcases h4 with ⟨h5, h6, h7⟩ | ⟨b, sp, rfl, h5, h6⟩
  · exact .inl ⟨h5, by omega, h7⟩
  · refine .inr ⟨b, cs.drop (m * s) ++ sp, rfl, ?_, ?_⟩
    · rw [← List.append_assoc, List.take_append_drop]; exact h5
    · rw [List.length_append, List.length_take, List.length_drop]; omega
theorem Sat.shrink {ro : Ro} {own : Chs} {h : Heap} {a : Option Addr} {n m c s : Nat} {t : TypeId} {cs : List Value} {f : Chunk → Chs} [hb : HasSl own a n c t s cs f] (hm : m ≤ n) (hs : Sat ro own h) : Sat ro (f (.sl a m c t s (cs.take (m * s)))) h := by
  obtain ⟨r, p1, p2⟩ := hb.split
  refine Sat.perm ?_ (p2 _)
  have hs := hs.perm p1
  refine hs.put (fun b _ _ => rfl) (hs.cons.1.shrink hm) (fun b hb => .inl ?_) ?_
  · cases a <;> exact hb
  · cases a <;> simp [Chunk.fp]
theorem OpOk.shrink {op : Op} {a : Option Addr} {n m c s : Nat} {t : TypeId} {cs : List Value} {f : Chunk → Chs} [hb : HasSl own a n c t s cs f] (hm : m ≤ n) (h : OpOk P op ty env ro (f (.sl a m c t s (cs.take (m * s)))) K) : OpOk P op ty env ro own K :=
  ⟨fun g hg => h.run g (hg.shrink hm)⟩
end
end Go.E
/-! A struct within a struct is stored. No program in sight. -/
namespace Go.E
open Go
set_option linter.unusedVariables false
section
variable {P : Program} {T : TT} [hT : TTab P T] {ty : TypeId} {env : Env} {ro : Ro} {own : Chs} {K : Value → Ro → Chs → Prop}
theorem OpOk.storePart {t : TypeId} {x y : Operand} {b o : Nat} {vs : List Value} {t0 : TypeId} {cs cs' : List Value} {f : Chunk → Chs} {z : Nat} (hx : ev env x = some (.pointer (some ⟨b, o, none⟩))) (hy : ev env y = some (.agg vs.toArray)) (ht : rowT T t = some z) (hz : vs.length = z) (h1 : vs.all (fun u => u.oneCell') = true)
    [hb : HasBlk own b t0 cs f] (hc : o + z ≤ cs.length) (he : Nf (splice cs o vs) cs') (hk : K undef ro (f (.blk b t0 cs'))) : OpOk P (.store t x y) ty env ro own K :=
  ⟨fun h hsat d pos af g => by
    have he := he.eq
    subst he
    obtain ⟨r, p1, p2⟩ := (hb.repl (.blk b t0 (splice cs o vs))).perm
    have hsat := hsat.perm p1
    refine (Eff.storeN0 hx hy ((rsz ht).trans (by simp [Value.cells, hz])) (by simpa [Value.cells] using List.all_eq_true.1 h1) hsat.cons.1 (by simp [Value.cells]; omega)).mono ?_
    rintro _ h' ⟨rfl, g1, g2, g3⟩
    have g2' : Row h' b t0 (splice cs o vs) := by simpa [Value.cells] using g2
    exact ⟨ro, _, Le.refl _, (hsat.put (c' := .blk b t0 (splice cs o vs)) (fun k _ hk => g3 k (by simpa [Chunk.fp] using hk)) g2' (fun k hk => .inl hk) (by simp [Chunk.fp])).perm p2.symm, hk⟩⟩
theorem LdN.slRow {a : Option Addr} {n c s k z : Nat} {t : TypeId} {cs vs : List Value} {f : Chunk → Chs} [hb : HasSl own a n c t s cs f] (hd : (cs.drop k).take z = vs) : LdN ro own (ab a) (ao a + k) vs := hd ▸ LdN.hasSl
theorem Wk.outE {K : Value → Ro → Chs → Prop} {v u : Value} {env : Env} {ro : Ro} {own own1 own' : Chs} (hs : Sup own own1) (hp : own1.Perm own') (h : K u ro own') (e : u = v) : Wk (fun _ ro own => K v ro own) env ro own := by subst e; exact Wk.outS hs hp h
end
end Go.E
/-! An array behind a pointer is cut. No program in sight. -/
namespace Go.E
open Go
set_option linter.unusedVariables false
section
variable {P : Program} {T : TT} [hT : TTab P T] {ty : TypeId} {env : Env} {ro : Ro} {own : Chs} {K : Value → Ro → Chs → Prop}
end
end Go.E
end
section
/- Contracts of class: sorted, Split. -/
namespace Go.Proofs.YtinbmhbfcoiefaaGreatDoor
open Go Go.E
set_option linter.unusedVariables false
set_option maxRecDepth 10000
def setsV (l : List SetD) : List Value := l.flatMap setV
theorem setsV_len (l : List SetD) : (setsV l).length = l.length * 4 := by
  induction l with
  | nil => rfl
  | cons s l ih => simp [setsV, setV] at ih ⊢; omega
theorem setsV_drop : ∀ (l : List SetD) (i : Nat) (s : SetD), l[i]? = some s → ((setsV l).drop (i * 4)).take 4 = setV s
  | [], i, s, h => by simp at h
  | x :: l, 0, s, h => by simp at h; subst h; rfl
  | x :: l, i + 1, s, h => by
    rw [show (i + 1) * 4 = 4 + i * 4 by omega]
    show List.take 4 (List.drop (4 + i * 4) (setV x ++ setsV l)) = _
    rw [← List.drop_drop, List.drop_left' (by rfl)]
    exact setsV_drop l i s (by simpa using h)
theorem setsV_snoc (l : List SetD) (s : SetD) : setsV (l ++ [s]) = setsV l ++ setV s := by simp [setsV]
theorem flat_set (s : SetD) : flat [.agg (setV s).toArray] = setV s := rfl
/-- Is a byte the least one? -/
def SetD.firstIs (s : SetD) (c : Nat) : Bool := (List.range 256).find? s.has == some c
def sortD (l : List SetD) : List SetD := (List.range 256).flatMap fun c => l.filter fun s => s.firstIs c
theorem firstIs_none {c : Nat} : SetD.firstIs ⟨0, 0, 0, 0⟩ c = false := by
  have : (List.range 256).find? (SetD.has ⟨0, 0, 0, 0⟩) = none := by
    rw [List.find?_eq_none]; intro x _; rw [SetD.has_zero]; simp
  unfold SetD.firstIs; rw [this]; rfl
theorem firstIs_some {s : SetD} {c d : Nat} (hc : c < 256) (h1 : s.has c = true) (h2 : ∀ j, j < c → s.has j = false) : s.firstIs d = decide (c = d) := by
  have : (List.range 256).find? s.has = some c := by
    rw [List.find?_range_eq_some]
    exact ⟨h1, List.mem_range.2 hc, fun j hj => by rw [h2 j hj]; rfl⟩
  unfold SetD.firstIs; rw [this]
  by_cases h : c = d <;> simp [h]
section
variable {ro : Ro} {own r : Chs} {K : Value → Ro → Chs → Prop} {g : Chunk → Chs}
set_option maxHeartbeats 1000000 in
theorem sorted_ok {l : List SetD} {a : Option Addr} {cap : Nat} (ht : TabOk ro) (hs : ∀ s ∈ l, SetIn s) (hl : l.length ≤ 1000) (hr : Rds ro own a l.length cap 4 (setsV l))
    (hk : ∀ a' c', (sortD l).length ≤ c' → c' ≤ maxLen → K (.slice a' (sortD l).length c') ro (.sl a' (sortD l).length c' 116 4 (setsV (sortD l)) :: own)) : CallOk Tryz.prog 74 #[.slice a l.length cap] ro own K := by
  refine CallOk.intro (args := [_]) (rs := [_]) T_ok Tryz.func74 Tryz.call74 rfl rfl (by kernel_rfl) rfl rfl ?_
  repeat (first | exact endA | refine wkT ?_ | refine opB (fun b => ?_) | refine opA (fun a' c' hc1 hc2 => ?_) | (apply GJ.and; exact rfl; intro hg) | (apply GJ.or; exact rfl; intro hg))
  refine LoopOk.at (ι := Nat × List SetD × Option Addr × Nat) Keep.auto (fun (c, o, a1, c1) => [(9, .int .i64 (c : Int)), (3, .slice a1 o.length c1)]) (fun (c, o, a1, c1) => .sl a1 o.length c1 116 4 (setsV o) :: own) (fun (c, o, a1, c1) => c ≤ 256 ∧ o.length ≤ 1000 * c ∧ o.length ≤ c1 ∧ c1 ≤ maxLen ∧ o = (List.range c).flatMap fun c => l.filter fun s => s.firstIs c) (fun (c, o, a1, c1) => 256 - c) (0, [], none, 0) ?_ Sub.auto Sup.auto ?_
  · exact ⟨by omega, by simp, by simp, Nat.zero_le _, rfl⟩
  rintro ⟨c, o, a1, c1⟩ ⟨i1, i2, i3, i4, i5⟩
  dsimp only [List.cons_append, List.nil_append] at i1 i2 i3 i4 i5 ⊢
  repeat (first | exact endA | refine wkT ?_ | refine opB (fun b => ?_) | refine opA (fun a' c' hc1 hc2 => ?_) | (apply GJ.and; exact rfl; intro hg) | (apply GJ.or; exact rfl; intro hg))
  refine Br.cases (fun hg => ?_) (fun hg => ?_)
  · repeat (first | exact endA | refine wkT ?_ | refine opB (fun b => ?_) | refine opA (fun a' c' hc1 hc2 => ?_) | (apply GJ.and; exact rfl; intro hg) | (apply GJ.or; exact rfl; intro hg))
    refine LoopOk.at (ι := Nat × List SetD × Option Addr × Nat) Keep.auto (fun (j, o, a1, c1) => [(14, .int .i64 (j : Int)), (3, .slice a1 o.length c1)]) (fun (j, o, a1, c1) => .sl a1 o.length c1 116 4 (setsV o) :: own) (fun (j, o2, a1, c1) => j ≤ l.length ∧ o2.length ≤ 1000 * c + j ∧ o2.length ≤ c1 ∧ c1 ≤ maxLen ∧ o2 = o ++ (l.take j).filter fun s => s.firstIs c) (fun (j, o, a1, c1) => l.length - j) (0, o, a1, c1) ?_ Sub.auto Sup.auto ?_
    · exact ⟨by omega, by omega, i3, i4, by simp⟩
    rintro ⟨j, o2, a1, c1⟩ ⟨j1, j2, j3, j4, j5⟩
    dsimp only [List.cons_append, List.nil_append] at j1 j2 j3 j4 j5 ⊢
    repeat (first | exact endA | refine wkT ?_ | refine opB (fun b => ?_) | refine opA (fun a' c' hc1 hc2 => ?_) | (apply GJ.and; exact rfl; intro hg) | (apply GJ.or; exact rfl; intro hg))
    refine Br.cases (fun hg2 => ?_) (fun hg2 => ?_)
    · obtain ⟨s, hsj⟩ : ∃ s, l[j]? = some s := ⟨_, List.getElem?_eq_getElem (by omega)⟩
      have hsi := hs s (List.mem_of_getElem? hsj)
      have htk : l.take (j + 1) = l.take j ++ [s] := by rw [List.take_add_one, hsj]; rfl
      repeat (first | exact endA | refine wkT ?_ | refine opB (fun b => ?_) | refine opA (fun a' c' hc1 hc2 => ?_) | (apply GJ.and; exact rfl; intro hg) | (apply GJ.or; exact rfl; intro hg))
      refine SeqOk.pass ?_
      repeat (first | exact endA | refine wkT ?_ | refine opB (fun b => ?_) | refine opA (fun a' c' hc1 hc2 => ?_) | (apply GJ.and; exact rfl; intro hg) | (apply GJ.or; exact rfl; intro hg))
      refine OpOk.loadRow rfl rfl (LdN.atR hr (setsV_drop _ _ _ hsj) (by omega)) rfl ?_
      repeat (first | exact endA | refine wkT ?_ | refine opB (fun b => ?_) | refine opA (fun a' c' hc1 hc2 => ?_) | (apply GJ.and; exact rfl; intro hg) | (apply GJ.or; exact rfl; intro hg))
      refine first_ok ht hsi (fun h0 => ?_) (fun d hd h1 h2 => ?_)
      · have hf : s.firstIs c = false := by subst h0; exact firstIs_none
        repeat (first | exact endA | refine wkT ?_ | refine opB (fun b => ?_) | refine opA (fun a' c' hc1 hc2 => ?_) | (apply GJ.and; exact rfl; intro hg) | (apply GJ.or; exact rfl; intro hg))
        refine Wk.id ⟨(j + 1, o2, a1, c1), ⟨rfl, ?_⟩, ?_, Sub.auto, Sup.auto⟩
        all_goals try dsimp only
        · refine ⟨by omega, by omega, j3, j4, ?_⟩
          rw [j5, htk, List.filter_append]; simp [hf]
        · omega
      · have hf := firstIs_some (d := c) hd h1 h2
        by_cases hdc : d = c
        · subst hdc
          rw [decide_eq_true rfl] at hf
          repeat (first | exact endA | refine wkT ?_ | refine opB (fun b => ?_) | refine opA (fun a' c' hc1 hc2 => ?_) | (apply GJ.and; exact rfl; intro hg) | (apply GJ.or; exact rfl; intro hg))
          rw [show o2.length + 1 = (o2 ++ [s]).length by simp] at hc1 ⊢
          rw [flat_set, ← setsV_snoc]
          repeat (first | exact endA | refine wkT ?_ | refine opB (fun b => ?_) | refine opA (fun a' c' hc1 hc2 => ?_) | (apply GJ.and; exact rfl; intro hg) | (apply GJ.or; exact rfl; intro hg))
          refine Wk.id ⟨(j + 1, o2 ++ [s], a', c'), ⟨rfl, ?_⟩, ?_, Sub.auto, Sup.auto⟩
          all_goals try dsimp only
          · refine ⟨by omega, by simp; omega, hc1, hc2, ?_⟩
            rw [j5, htk, List.filter_append]; simp [hf]
          · omega
        · rw [decide_eq_false hdc] at hf
          repeat (first | exact endA | refine wkT ?_ | refine opB (fun b => ?_) | refine opA (fun a' c' hc1 hc2 => ?_) | (apply GJ.and; exact rfl; intro hg) | (apply GJ.or; exact rfl; intro hg))
          refine Wk.id ⟨(j + 1, o2, a1, c1), ⟨rfl, ?_⟩, ?_, Sub.auto, Sup.auto⟩
          all_goals try dsimp only
          · refine ⟨by omega, by omega, j3, j4, ?_⟩
            rw [j5, htk, List.filter_append]; simp [hf]
          · omega
    · obtain rfl : j = l.length := by omega
      rw [List.take_length] at j5
      repeat (first | exact endA | refine wkT ?_ | refine opB (fun b => ?_) | refine opA (fun a' c' hc1 hc2 => ?_) | (apply GJ.and; exact rfl; intro hg) | (apply GJ.or; exact rfl; intro hg))
      refine Wk.id ⟨(c + 1, o2, a1, c1), ⟨rfl, ?_⟩, ?_, Sub.auto, Sup.auto⟩
      all_goals try dsimp only
      · refine ⟨by omega, by omega, j3, j4, ?_⟩
        rw [j5, i5, List.range_succ, List.flatMap_append]
        simp
      · omega
  · obtain rfl : c = 256 := by omega
    have e : o = sortD l := i5
    subst e
    repeat (first | exact endA | refine wkT ?_ | refine opB (fun b => ?_) | refine opA (fun a' c' hc1 hc2 => ?_) | (apply GJ.and; exact rfl; intro hg) | (apply GJ.or; exact rfl; intro hg))
    exact Wk.outS Sup.auto (.refl _) (hk _ _ i3 i4)
/-- What both parts of a set are, that aren't empty. -/
def cutD (s p : SetD) : List SetD := [p.and s, p.and s.not].filter fun q => q != ⟨0, 0, 0, 0⟩
def splitD (l : List SetD) : List SetD := sortD (l.foldl (fun o s => o.flatMap (cutD s)) [allD])
end
end Go.Proofs.YtinbmhbfcoiefaaGreatDoor
end
section
/- Sets of bytes, byte by byte. No program in sight. -/
namespace Go.Proofs.YtinbmhbfcoiefaaGreatDoor
open Go Go.E
set_option linter.unusedVariables false
theorem SetD.has_and (s t : SetD) (c : Nat) : (s.and t).has c = (s.has c && t.has c) := by
  unfold SetD.has; rw [SetD.w_and, Nat.testBit_and]
theorem SetD.has_not {s : SetD} (hs : SetIn s) (c : Nat) : s.not.has c = !s.has c := by
  unfold SetD.has
  rw [SetD.w_not, show (18446744073709551615 : Nat) - s.w (c / 64) = 2 ^ 64 - (s.w (c / 64) + 1) by omega, Nat.testBit_two_pow_sub_succ (hs _)]
  have : c % 64 < 64 := by omega
  simp [this]
theorem SetIn.and {s t : SetD} (hs : SetIn s) : SetIn (s.and t) := fun k => by
  rw [SetD.w_and]; exact Nat.lt_of_le_of_lt Nat.and_le_left (hs k)
theorem SetIn.or {s t : SetD} (hs : SetIn s) (ht : SetIn t) : SetIn (s.or t) := fun k => by
  rw [SetD.w_or]; exact Nat.or_lt_two_pow (n := 64) (hs k) (ht k)
theorem SetIn.not (s : SetD) : SetIn s.not := fun k => by rw [SetD.w_not]; omega
theorem SetIn.all : SetIn allD := fun k => by unfold SetD.w allD; dsimp only; split; decide; split; decide; split <;> decide
theorem SetD.has_all (c : Nat) : allD.has c = true := by
  have : allD = SetD.not ⟨0, 0, 0, 0⟩ := rfl
  rw [this, SetD.has_not SetIn.zero, SetD.has_zero]; rfl
theorem SetD.ext {s t : SetD} (hs : SetIn s) (ht : SetIn t) (h : ∀ c, c < 256 → s.has c = t.has c) : s = t := by
  refine SetD.ext4 fun k hk => ?_
  apply Nat.eq_of_testBit_eq
  intro i
  rcases Nat.lt_or_ge i 64 with hi | hi
  · have := h (64 * k + i) (by omega)
    unfold SetD.has at this
    rwa [show (64 * k + i) / 64 = k by omega, show (64 * k + i) % 64 = i by omega] at this
  · have e : ∀ w : Nat, w < 18446744073709551616 → w.testBit i = false := fun w hw => Nat.testBit_lt_two_pow (Nat.lt_of_lt_of_le hw (show 2 ^ 64 ≤ 2 ^ i from Nat.pow_le_pow_right (by decide) hi))
    rw [e _ (hs k), e _ (ht k)]
theorem pc_count : ∀ (n x : Nat), pc n x = (List.range n).countP x.testBit
  | 0, x => rfl
  | n + 1, x => by
    rw [List.range_succ_eq_map, List.countP_cons, List.countP_map, pc, pc_count n (x / 2)]
    have e : (x.testBit ∘ Nat.succ) = (x / 2).testBit := by
      funext i; exact Nat.testBit_succ x i
    rw [e, Nat.testBit_zero]
    by_cases h : x % 2 = 1
    · simp [h]; omega
    · have h0 : x % 2 = 0 := by omega
      simp [h0]
theorem range256 : List.range 256 = List.range 64 ++ ((List.range 64).map (64 + ·) ++ ((List.range 64).map (128 + ·) ++ (List.range 64).map (192 + ·))) := by decide +kernel
theorem SetD.len_count (s : SetD) : s.len = (List.range 256).countP s.has := by
  have k : ∀ (b : Nat) (w : Nat), (∀ i, i < 64 → s.has (b + i) = w.testBit i) → ((List.range 64).map (b + ·)).countP s.has = pc 64 w := fun b w h => by
    rw [List.countP_map, pc_count]
    exact List.countP_congr fun i hi => by
      have := h i (List.mem_range.1 hi)
      simp only [Function.comp_apply]
      rw [this]
  rw [range256, List.countP_append, List.countP_append, List.countP_append]
  have k0 := k 0 s.a (fun i hi => by unfold SetD.has; rw [show (0 + i) / 64 = 0 by omega, show (0 + i) % 64 = i by omega]; rfl)
  have k1 := k 64 s.b (fun i hi => by unfold SetD.has; rw [show (64 + i) / 64 = 1 by omega, show (64 + i) % 64 = i by omega]; rfl)
  have k2 := k 128 s.c (fun i hi => by unfold SetD.has; rw [show (128 + i) / 64 = 2 by omega, show (128 + i) % 64 = i by omega]; rfl)
  have k3 := k 192 s.d (fun i hi => by unfold SetD.has; rw [show (192 + i) / 64 = 3 by omega, show (192 + i) % 64 = i by omega]; rfl)
  have e0 : (List.range 64).map (0 + ·) = List.range 64 := by simp
  rw [e0] at k0
  rw [k0, k1, k2, k3, SetD.len]
  omega
theorem countP_split {α : Type} (a b : α → Bool) (l : List α) : l.countP (fun x => a x && b x) + l.countP (fun x => a x && !b x) = l.countP a := by
  induction l with
  | nil => rfl
  | cons x l ih =>
    rw [List.countP_cons, List.countP_cons, List.countP_cons, ← ih]
    cases a x <;> cases b x <;> simp <;> omega
theorem len_cut {s p : SetD} (hs : SetIn s) : (p.and s).len + (p.and s.not).len = p.len := by
  rw [SetD.len_count, SetD.len_count, SetD.len_count, ← countP_split p.has s.has]
  congr 1
  · exact List.countP_congr fun c _ => by rw [SetD.has_and]
  · exact List.countP_congr fun c _ => by rw [SetD.has_and, SetD.has_not hs]
theorem len_zero {s : SetD} (hs : SetIn s) (h : s.len = 0) : s = ⟨0, 0, 0, 0⟩ := by
  refine SetD.ext hs SetIn.zero fun c hc => ?_
  rw [SetD.has_zero]
  rw [SetD.len_count, List.countP_eq_zero] at h
  have := h c (List.mem_range.2 hc)
  simpa using this
/-- The lengths of all together. -/
def sumL (l : List SetD) : Nat := (l.map SetD.len).sum
theorem sumL_append (a b : List SetD) : sumL (a ++ b) = sumL a + sumL b := by simp [sumL]
theorem cutD_sum {s p : SetD} (hs : SetIn s) (hp : SetIn p) : sumL (cutD s p) = p.len := by
  have h := len_cut (p := p) hs
  unfold cutD
  have z : SetD.len ⟨0, 0, 0, 0⟩ = 0 := by decide +kernel
  by_cases h1 : p.and s = ⟨0, 0, 0, 0⟩ <;> by_cases h2 : p.and s.not = ⟨0, 0, 0, 0⟩ <;> simp [h1, h2, sumL] <;> (try rw [h1, z] at h) <;> (try rw [h2, z] at h) <;> omega
theorem cutD_in {s p : SetD} (hp : SetIn p) : ∀ q ∈ cutD s p, SetIn q ∧ q ≠ ⟨0, 0, 0, 0⟩ := fun q hq => by
  unfold cutD at hq
  obtain ⟨h1, h2⟩ := List.mem_filter.1 hq
  refine ⟨?_, by simpa using h2⟩
  simp at h1
  rcases h1 with rfl | rfl <;> exact hp.and
theorem sumL_ge {l : List SetD} (h : ∀ q ∈ l, SetIn q ∧ q ≠ ⟨0, 0, 0, 0⟩) : l.length ≤ sumL l := by
  induction l with
  | nil => simp
  | cons q l ih =>
    have := ih fun x hx => h x (by simp [hx])
    have h1 : q.len ≠ 0 := fun e => (h q (by simp)).2 (len_zero (h q (by simp)).1 e)
    simp [sumL] at this ⊢
    omega
end Go.Proofs.YtinbmhbfcoiefaaGreatDoor
end
section
/- Contracts of class: Split. -/
namespace Go.Proofs.YtinbmhbfcoiefaaGreatDoor
open Go Go.E
set_option linter.unusedVariables false
set_option maxRecDepth 10000
def stepD (o : List SetD) (s : SetD) : List SetD := o.flatMap (cutD s)
theorem splitD_eq (l : List SetD) : splitD l = sortD (l.foldl stepD [allD]) := rfl
/-- Pieces: none is empty; together they are all bytes. -/
structure Pieces (o : List SetD) : Prop where
  each : ∀ q ∈ o, SetIn q ∧ q ≠ ⟨0, 0, 0, 0⟩
  sum : sumL o = 256
theorem Pieces.len {o : List SetD} (h : Pieces o) : o.length ≤ 256 := by have := sumL_ge h.each; have := h.sum; omega
theorem Pieces.one : Pieces [allD] := ⟨fun q hq => by simp at hq; subst hq; exact ⟨SetIn.all, by decide⟩, by decide +kernel⟩
theorem sumL_flat {s : SetD} (hs : SetIn s) : ∀ {o : List SetD}, (∀ q ∈ o, SetIn q) → sumL (o.flatMap (cutD s)) = sumL o
  | [], _ => rfl
  | p :: o, h => by
    rw [List.flatMap_cons, sumL_append, sumL_flat hs (fun q hq => h q (by simp [hq])), cutD_sum hs (h p (by simp))]
    simp [sumL]
theorem Pieces.step {o : List SetD} {s : SetD} (h : Pieces o) (hs : SetIn s) : Pieces (stepD o s) := ⟨fun q hq => by
  obtain ⟨p, hp, hq⟩ := List.mem_flatMap.1 hq
  exact cutD_in (h.each p hp).1 q hq, by rw [stepD, sumL_flat hs (fun q hq => (h.each q hq).1)]; exact h.sum⟩
/-- Some of the pieces' cuts. -/
theorem Pieces.part {o : List SetD} {s : SetD} {j : Nat} (h : Pieces o) (hs : SetIn s) : ((o.take j).flatMap (cutD s)).length ≤ 256 := by
  have h1 := (h.step hs).len
  have h2 : stepD o s = (o.take j).flatMap (cutD s) ++ (o.drop j).flatMap (cutD s) := by rw [stepD, ← List.flatMap_append, List.take_append_drop]
  rw [h2, List.length_append] at h1
  omega
section
variable {ro : Ro} {own r : Chs} {K : Value → Ro → Chs → Prop} {g : Chunk → Chs}
set_option maxHeartbeats 2000000 in
theorem split_ok {l : List SetD} {a : Option Addr} {cap : Nat} (ht : TabOk ro) (hs : ∀ s ∈ l, SetIn s) (hl : l.length ≤ 1000) (hr : Rds ro own a l.length cap 4 (setsV l))
    (hk : ∀ a' c', (splitD l).length ≤ c' → c' ≤ maxLen → K (.slice a' (splitD l).length c') ro (.sl a' (splitD l).length c' 116 4 (setsV (splitD l)) :: own)) : CallOk Tryz.prog 47 #[.slice a l.length cap] ro own K := by
  refine CallOk.intro (args := [_]) (rs := [_]) T_ok Tryz.func47 Tryz.call47 rfl rfl (by kernel_rfl) rfl rfl ?_
  repeat (first | exact endA | refine wkT ?_ | refine opB (fun b => ?_) | refine opA (fun a' c' hc1 hc2 => ?_) | (apply GJ.and; exact rfl; intro hg) | (apply GJ.or; exact rfl; intro hg))
  refine all_ok ?_
  repeat (first | exact endA | refine wkT ?_ | refine opB (fun b => ?_) | refine opA (fun a' c' hc1 hc2 => ?_) | (apply GJ.and; exact rfl; intro hg) | (apply GJ.or; exact rfl; intro hg))
  refine LoopOk.at (ι := Nat × List SetD × Option Addr × Nat) Keep.auto (fun (i, o, a1, c1) => [(15, .int .i64 (i : Int)), (3, .slice a1 o.length c1)]) (fun (i, o, a1, c1) => .sl a1 o.length c1 116 4 (setsV o) :: own) (fun (i, o, a1, c1) => i ≤ l.length ∧ Pieces o ∧ o.length ≤ c1 ∧ c1 ≤ maxLen ∧ o = (l.take i).foldl stepD [allD]) (fun (i, o, a1, c1) => l.length - i) (0, [allD], some ⟨b, 0, none⟩, 1) ?_ Sub.auto Sup.auto ?_
  · exact ⟨by omega, Pieces.one, by simp, by decide, rfl⟩
  rintro ⟨i, o, a1, c1⟩ ⟨i1, i2, i3, i4, i5⟩
  dsimp only [List.cons_append, List.nil_append] at i1 i2 i3 i4 i5 ⊢
  have hol := i2.len
  repeat (first | exact endA | refine wkT ?_ | refine opB (fun b => ?_) | refine opA (fun a' c' hc1 hc2 => ?_) | (apply GJ.and; exact rfl; intro hg) | (apply GJ.or; exact rfl; intro hg))
  refine Br.cases (fun hg => ?_) (fun hg => ?_)
  · obtain ⟨s, hsj⟩ : ∃ s, l[i]? = some s := ⟨_, List.getElem?_eq_getElem (by omega)⟩
    have hsi := hs s (List.mem_of_getElem? hsj)
    have htk : l.take (i + 1) = l.take i ++ [s] := by rw [List.take_add_one, hsj]; rfl
    repeat (first | exact endA | refine wkT ?_ | refine opB (fun b => ?_) | refine opA (fun a' c' hc1 hc2 => ?_) | (apply GJ.and; exact rfl; intro hg) | (apply GJ.or; exact rfl; intro hg))
    refine OpOk.loadRow rfl rfl (LdN.atR hr (setsV_drop _ _ _ hsj) (by omega)) rfl ?_
    repeat (first | exact endA | refine wkT ?_ | refine opB (fun b => ?_) | refine opA (fun a' c' hc1 hc2 => ?_) | (apply GJ.and; exact rfl; intro hg) | (apply GJ.or; exact rfl; intro hg))
    obtain ⟨q, hq⟩ : ∃ q, q = b := ⟨_, rfl⟩
    subst hq
    refine LoopOk.at (ι := Nat × List SetD × Option Addr × Nat) Keep.auto (fun (j, nx, a2, c2) => [(21, .int .i64 (j : Int)), (6, .slice a2 nx.length c2)]) (fun (j, nx, a2, c2) => .sl a2 nx.length c2 116 4 (setsV nx) :: .blk q 116 (setV s) :: .sl a1 o.length c1 116 4 (setsV o) :: own) (fun (j, nx, a2, c2) => j ≤ o.length ∧ nx.length ≤ c2 ∧ c2 ≤ maxLen ∧ nx = (o.take j).flatMap (cutD s)) (fun (j, nx, a2, c2) => o.length - j) (0, [], none, 0) ?_ Sub.auto Sup.auto ?_
    · exact ⟨by omega, by simp, Nat.zero_le _, rfl⟩
    rintro ⟨j, nx, a2, c2⟩ ⟨j1, j2, j3, j4⟩
    dsimp only [List.cons_append, List.nil_append] at j1 j2 j3 j4 ⊢
    have hnl := i2.part (j := j) hsi
    rw [← j4] at hnl
    repeat (first | exact endA | refine wkT ?_ | refine opB (fun b => ?_) | refine opA (fun a' c' hc1 hc2 => ?_) | (apply GJ.and; exact rfl; intro hg) | (apply GJ.or; exact rfl; intro hg))
    refine Br.cases (fun hg2 => ?_) (fun hg2 => ?_)
    · obtain ⟨p, hpj⟩ : ∃ p, o[j]? = some p := ⟨_, List.getElem?_eq_getElem (by omega)⟩
      have hpi := (i2.each p (List.mem_of_getElem? hpj)).1
      have htk2 : o.take (j + 1) = o.take j ++ [p] := by rw [List.take_add_one, hpj]; rfl
      have hro : Rds ro (.sl a2 nx.length c2 116 4 (setsV nx) :: .blk q 116 (setV s) :: .sl a1 o.length c1 116 4 (setsV o) :: own) a1 o.length c1 4 (setsV o) := Rds.hasSl i3 i4 (setsV_len _)
      repeat (first | exact endA | refine wkT ?_ | refine opB (fun b => ?_) | refine opA (fun a' c' hc1 hc2 => ?_) | (apply GJ.and; exact rfl; intro hg) | (apply GJ.or; exact rfl; intro hg))
      refine OpOk.loadRow rfl rfl (LdN.atR hro (setsV_drop _ _ _ hpj) (by omega)) rfl ?_
      repeat (first | exact endA | refine wkT ?_ | refine opB (fun b => ?_) | refine opA (fun a' c' hc1 hc2 => ?_) | (apply GJ.and; exact rfl; intro hg) | (apply GJ.or; exact rfl; intro hg))
      refine Bs.all ?_
      repeat (first | exact endA | refine wkT ?_ | refine opB (fun b => ?_) | refine opA (fun a' c' hc1 hc2 => ?_) | (apply GJ.and; exact rfl; intro hg) | (apply GJ.or; exact rfl; intro hg))
      refine and_ok hpi hsi ?_
      repeat (first | exact endA | refine wkT ?_ | refine opB (fun b => ?_) | refine opA (fun a' c' hc1 hc2 => ?_) | (apply GJ.and; exact rfl; intro hg) | (apply GJ.or; exact rfl; intro hg))
      refine not_ok hsi ?_
      repeat (first | exact endA | refine wkT ?_ | refine opB (fun b => ?_) | refine opA (fun a' c' hc1 hc2 => ?_) | (apply GJ.and; exact rfl; intro hg) | (apply GJ.or; exact rfl; intro hg))
      refine and_ok hpi (SetIn.not s) ?_
      repeat (first | exact endA | refine wkT ?_ | refine opB (fun b => ?_) | refine opA (fun a' c' hc1 hc2 => ?_) | (apply GJ.and; exact rfl; intro hg) | (apply GJ.or; exact rfl; intro hg))
      refine QOk.buildK (ps := [(0, .tmp 27), (1, .tmp 31)]) (setV (p.and s) ++ setV (p.and s.not)) rfl (by kernel_rfl) ?_
      repeat (first | exact endA | refine wkT ?_ | refine opB (fun b => ?_) | refine opA (fun a' c' hc1 hc2 => ?_) | (apply GJ.and; exact rfl; intro hg) | (apply GJ.or; exact rfl; intro hg))
      refine LoopOk.at (ι := Nat × List SetD × Option Addr × Nat) Keep.auto (fun (k, nx, a2, c2) => [(33, .int .i64 (k : Int)), (6, .slice a2 nx.length c2)]) (fun (k, nx, a2, c2) => .sl a2 nx.length c2 116 4 (setsV nx) :: .blk q 116 (setV s) :: .sl a1 o.length c1 116 4 (setsV o) :: own) (fun (k, nx2, a2, c2) => k ≤ 2 ∧ nx2.length ≤ 256 + k ∧ nx2.length ≤ c2 ∧ c2 ≤ maxLen ∧ nx2 = nx ++ ([p.and s, p.and s.not].take k).filter fun z => z != ⟨0, 0, 0, 0⟩) (fun (k, nx, a2, c2) => 2 - k) (0, nx, a2, c2) ?_ Sub.auto Sup.auto ?_
      · exact ⟨by omega, by omega, j2, j3, by simp⟩
      rintro ⟨k, nx2, a3, c3⟩ ⟨k1, k2, k3, k4, k5⟩
      dsimp only [List.cons_append, List.nil_append] at k1 k2 k3 k4 k5 ⊢
      repeat (first | exact endA | refine wkT ?_ | refine opB (fun b => ?_) | refine opA (fun a' c' hc1 hc2 => ?_) | (apply GJ.and; exact rfl; intro hg) | (apply GJ.or; exact rfl; intro hg))
      refine Br.cases (fun hg3 => ?_) (fun hg3 => ?_)
      · obtain ⟨z, hz, hdz, htz⟩ : ∃ z, SetIn z ∧ ((setV (p.and s) ++ setV (p.and s.not)).drop (k * 4)).take 4 = setV z ∧ [p.and s, p.and s.not].take (k + 1) = [p.and s, p.and s.not].take k ++ [z] := by
          have : k = 0 ∨ k = 1 := by omega
          rcases this with rfl | rfl
          · exact ⟨p.and s, hpi.and, rfl, rfl⟩
          · exact ⟨p.and s.not, hpi.and, rfl, rfl⟩
        repeat (first | exact endA | refine wkT ?_ | refine opB (fun b => ?_) | refine opA (fun a' c' hc1 hc2 => ?_) | (apply GJ.and; exact rfl; intro hg) | (apply GJ.or; exact rfl; intro hg))
        refine SeqOk.pass ?_
        repeat (first | exact endA | refine wkT ?_ | refine opB (fun b => ?_) | refine opA (fun a' c' hc1 hc2 => ?_) | (apply GJ.and; exact rfl; intro hg) | (apply GJ.or; exact rfl; intro hg))
        refine OpOk.indexRow (k := k) (e := 116) (n := 2) (z := 4) rfl rfl (by kernel_rfl) (.inr ⟨4, 22, by kernel_rfl⟩) (by kernel_rfl) rfl (by omega) hdz ?_
        repeat (first | exact endA | refine wkT ?_ | refine opB (fun b => ?_) | refine opA (fun a' c' hc1 hc2 => ?_) | (apply GJ.and; exact rfl; intro hg) | (apply GJ.or; exact rfl; intro hg))
        refine empty_ok ?_
        repeat (first | exact endA | refine wkT ?_ | refine opB (fun b => ?_) | refine opA (fun a' c' hc1 hc2 => ?_) | (apply GJ.and; exact rfl; intro hg) | (apply GJ.or; exact rfl; intro hg))
        refine Br.cases (fun he => ?_) (fun he => ?_)
        · repeat (first | exact endA | refine wkT ?_ | refine opB (fun b => ?_) | refine opA (fun a' c' hc1 hc2 => ?_) | (apply GJ.and; exact rfl; intro hg) | (apply GJ.or; exact rfl; intro hg))
          rw [show nx2.length + 1 = (nx2 ++ [z]).length by simp] at hc1 ⊢
          rw [flat_set, ← setsV_snoc]
          repeat (first | exact endA | refine wkT ?_ | refine opB (fun b => ?_) | refine opA (fun a' c' hc1 hc2 => ?_) | (apply GJ.and; exact rfl; intro hg) | (apply GJ.or; exact rfl; intro hg))
          refine Wk.id ⟨(k + 1, nx2 ++ [z], a', c'), ⟨rfl, ?_⟩, ?_, Sub.auto, Sup.auto⟩
          all_goals try dsimp only
          · refine ⟨by omega, by simp; omega, hc1, hc2, ?_⟩
            have hf : [z].filter (fun z => z != ⟨0, 0, 0, 0⟩) = [z] := by
              by_cases hzz : z = ⟨0, 0, 0, 0⟩
              · exact absurd hzz (by first | exact he | simpa using he)
              · simp [hzz]
            rw [k5, htz, List.filter_append, hf, List.append_assoc]
          · omega
        · repeat (first | exact endA | refine wkT ?_ | refine opB (fun b => ?_) | refine opA (fun a' c' hc1 hc2 => ?_) | (apply GJ.and; exact rfl; intro hg) | (apply GJ.or; exact rfl; intro hg))
          refine Wk.id ⟨(k + 1, nx2, a3, c3), ⟨rfl, ?_⟩, ?_, Sub.auto, Sup.auto⟩
          all_goals try dsimp only
          · refine ⟨by omega, by omega, k3, k4, ?_⟩
            have hf : [z].filter (fun z => z != ⟨0, 0, 0, 0⟩) = [] := by
              by_cases hzz : z = ⟨0, 0, 0, 0⟩
              · simp [hzz]
              · exact absurd hzz (by first | exact he | simpa using he)
            rw [k5, htz, List.filter_append, hf, List.append_nil]
          · omega
      · obtain rfl : k = 2 := by omega
        have e : nx2 = nx ++ cutD s p := k5
        repeat (first | exact endA | refine wkT ?_ | refine opB (fun b => ?_) | refine opA (fun a' c' hc1 hc2 => ?_) | (apply GJ.and; exact rfl; intro hg) | (apply GJ.or; exact rfl; intro hg))
        refine Wk.id ⟨(j + 1, nx2, a3, c3), ⟨rfl, ?_⟩, ?_, Sub.auto, Sup.auto⟩
        all_goals try dsimp only
        · refine ⟨by omega, k3, k4, ?_⟩
          rw [e, j4, htk2, List.flatMap_append]
          simp
        · omega
    · obtain rfl : j = o.length := by omega
      rw [List.take_length] at j4
      repeat (first | exact endA | refine wkT ?_ | refine opB (fun b => ?_) | refine opA (fun a' c' hc1 hc2 => ?_) | (apply GJ.and; exact rfl; intro hg) | (apply GJ.or; exact rfl; intro hg))
      refine Wk.id ⟨(i + 1, nx, a2, c2), ⟨rfl, ?_⟩, ?_, Sub.auto, Sup.auto⟩
      all_goals try dsimp only
      · exact ⟨by omega, by rw [j4]; exact i2.step hsi, j2, j3, by rw [htk, List.foldl_append, ← i5, j4]; rfl⟩
      · omega
  · obtain rfl : i = l.length := by omega
    rw [List.take_length] at i5
    repeat (first | exact endA | refine wkT ?_ | refine opB (fun b => ?_) | refine opA (fun a' c' hc1 hc2 => ?_) | (apply GJ.and; exact rfl; intro hg) | (apply GJ.or; exact rfl; intro hg))
    refine sorted_ok (l := o) ht (fun q hq => (i2.each q hq).1) (by omega) (Rds.hasSl i3 i4 (setsV_len _)) (fun a2 c2 h1 h2 => ?_)
    have e : sortD o = splitD l := by rw [splitD_eq, ← i5]
    rw [e] at h1 ⊢
    repeat (first | exact endA | refine wkT ?_ | refine opB (fun b => ?_) | refine opA (fun a' c' hc1 hc2 => ?_) | (apply GJ.and; exact rfl; intro hg) | (apply GJ.or; exact rfl; intro hg))
    exact Wk.outS Sup.auto (.refl _) (hk _ _ h1 h2)
end
end Go.Proofs.YtinbmhbfcoiefaaGreatDoor
end
section
/- What a set, and a list of sets, read as; the table out of what is laid. -/
namespace Go.Proofs.YtinbmhbfcoiefaaGreatDoor
open Go Go.E
set_option linter.unusedVariables false
set_option maxRecDepth 10000
theorem TabOk.ofLaid {W : World} {rest : List (String × DataW Unit)} (h : laidMet Tryz.prog (("math/bits.deBruijn64tab", Lib.tabData .u8 debr) :: rest) W) : TabOk (hm W.heap) := by
  have hg : Tryz.prog.globalNamed "math/bits.deBruijn64tab" = some 0 := by kernel_rfl
  have hT := Lib.tabIs_of_head (n := 64) hg (by kernel_rfl) Tryz.underlying161 Tryz.underlying5 (by kernel_rfl) (by kernel_rfl) h
  unfold Lib.TabIs World.var? at hT
  rw [hg] at hT
  simp only [Option.bind_some] at hT
  split at hT
  · rename_i cs t fr he
    cases hT
    refine ⟨⟨_, _, _, he, fun i hi => ?_⟩⟩
    have : i < debr.length := hi
    simp [List.getD, this]
  · cases hT
section
variable {ro : Ro} {cs : List Value}
end
end Go.Proofs.YtinbmhbfcoiefaaGreatDoor
end
section
/- What Split's pieces are. No program in sight. -/
namespace Go.Proofs.YtinbmhbfcoiefaaGreatDoor
open Go Go.E
set_option linter.unusedVariables false
theorem ne_has {s : SetD} (hs : SetIn s) (h : s ≠ ⟨0, 0, 0, 0⟩) : ∃ c, c < 256 ∧ s.has c = true := by
  apply Classical.byContradiction
  intro hn
  exact h (SetD.ext hs SetIn.zero fun c hc => by
    rw [SetD.has_zero]
    cases e : s.has c with
    | false => rfl
    | true => exact absurd ⟨c, hc, e⟩ hn)
theorem firstIs_has {s : SetD} {c : Nat} (h : s.firstIs c = true) : c < 256 ∧ s.has c = true ∧ ∀ j, j < c → s.has j = false := by
  unfold SetD.firstIs at h
  rw [beq_iff_eq, List.find?_range_eq_some] at h
  obtain ⟨h1, h2, h3⟩ := h
  exact ⟨List.mem_range.1 h2, h1, fun j hj => by simpa using h3 j hj⟩
theorem first_ex {s : SetD} (hs : SetIn s) (h : s ≠ ⟨0, 0, 0, 0⟩) : ∃ c, c < 256 ∧ s.firstIs c = true := by
  obtain ⟨c, hc, e⟩ := ne_has hs h
  cases hf : (List.range 256).find? s.has with
  | none => rw [List.find?_eq_none] at hf; exact absurd e (hf c (List.mem_range.2 hc))
  | some d => exact ⟨d, List.mem_range.1 (List.mem_of_find?_eq_some hf), by unfold SetD.firstIs; rw [hf]; simp⟩
/-- In which of the sets a byte is. -/
def sig (l : List SetD) (c : Nat) : List Bool := l.map (·.has c)
structure Cut (o l : List SetD) : Prop where
  each : ∀ q ∈ o, SetIn q ∧ q ≠ ⟨0, 0, 0, 0⟩
  all : ∀ c, c < 256 → ∃ p ∈ o, p.has c = true
  like : ∀ p ∈ o, ∀ c d, c < 256 → d < 256 → p.has c = true → (p.has d = true ↔ sig l c = sig l d)
  apart : o.Pairwise fun p q => ∀ c, c < 256 → ¬ (p.has c = true ∧ q.has c = true)
theorem Cut.one : Cut [allD] [] := ⟨fun q hq => by simp at hq; subst hq; exact ⟨SetIn.all, by decide⟩, fun c _ => ⟨allD, by simp, SetD.has_all c⟩, fun p hp c d _ _ _ => by simp at hp; subst hp; simp [SetD.has_all, sig], by simp⟩
theorem mem_cutD {s p q : SetD} (h : q ∈ cutD s p) : q ≠ ⟨0, 0, 0, 0⟩ ∧ (q = p.and s ∨ q = p.and s.not) := by
  unfold cutD at h
  obtain ⟨h1, h2⟩ := List.mem_filter.1 h
  exact ⟨by simpa using h2, by simpa using h1⟩
theorem has_cutD {s p q : SetD} (hs : SetIn s) (h : q ∈ cutD s p) : ∃ b, ∀ c, q.has c = (p.has c && (s.has c == b)) := by
  rcases (mem_cutD h).2 with rfl | rfl
  · exact ⟨true, fun c => by rw [SetD.has_and]; cases p.has c <;> cases s.has c <;> rfl⟩
  · exact ⟨false, fun c => by rw [SetD.has_and, SetD.has_not hs]; cases p.has c <;> cases s.has c <;> rfl⟩
theorem Cut.step {o l : List SetD} {s : SetD} (h : Cut o l) (hs : SetIn s) : Cut (stepD o s) (l ++ [s]) := by
  have sg : ∀ c, sig (l ++ [s]) c = sig l c ++ [s.has c] := fun c => by simp [sig]
  refine ⟨fun q hq => ?_, fun c hc => ?_, fun q hq c d hc hd hqc => ?_, ?_⟩
  · obtain ⟨p, hp, hq⟩ := List.mem_flatMap.1 hq
    exact cutD_in (h.each p hp).1 q hq
  · obtain ⟨p, hp, hpc⟩ := h.all c hc
    have key : ∀ q : SetD, q ∈ [p.and s, p.and s.not] → q.has c = true → ∃ q ∈ stepD o s, q.has c = true := fun q hq hqc => by
      refine ⟨q, List.mem_flatMap.2 ⟨p, hp, ?_⟩, hqc⟩
      unfold cutD
      refine List.mem_filter.2 ⟨hq, ?_⟩
      have : q ≠ ⟨0, 0, 0, 0⟩ := fun e => by rw [e, SetD.has_zero] at hqc; cases hqc
      simpa using this
    cases e : s.has c with
    | true => exact key (p.and s) (by simp) (by rw [SetD.has_and, hpc, e]; rfl)
    | false => exact key (p.and s.not) (by simp) (by rw [SetD.has_and, SetD.has_not hs, hpc, e]; rfl)
  · obtain ⟨p, hp, hq⟩ := List.mem_flatMap.1 hq
    obtain ⟨b, hb⟩ := has_cutD hs hq
    rw [hb] at hqc ⊢
    rw [Bool.and_eq_true, beq_iff_eq] at hqc
    have hl := h.like p hp c d hc hd hqc.1
    rw [sg, sg, Bool.and_eq_true, beq_iff_eq, hl]
    constructor
    · rintro ⟨h1, h2⟩; rw [h1, h2, hqc.2]
    · intro e
      obtain ⟨e1, e2⟩ := List.append_inj' e rfl
      rw [List.cons.injEq] at e2
      exact ⟨e1, by rw [← e2.1, hqc.2]⟩
  · refine List.pairwise_flatMap.2 ⟨fun p hp => ?_, h.apart.imp fun {p q} hpq x hx y hy c hc hxy => ?_⟩
    · unfold cutD
      refine List.Pairwise.filter _ ?_
      refine List.pairwise_cons.2 ⟨fun q hq c hc hpq => ?_, by simp⟩
      simp at hq
      subst hq
      rw [SetD.has_and, SetD.has_and, SetD.has_not hs, Bool.and_eq_true, Bool.and_eq_true] at hpq
      have h1 := hpq.1.2
      have h2 := hpq.2.2
      rw [h1] at h2
      cases h2
    · obtain ⟨b1, hb1⟩ := has_cutD hs hx
      obtain ⟨b2, hb2⟩ := has_cutD hs hy
      rw [hb1, hb2, Bool.and_eq_true, Bool.and_eq_true] at hxy
      exact hpq c hc ⟨hxy.1.1, hxy.2.1⟩
theorem Cut.fold : ∀ (l k : List SetD) (o : List SetD), Cut o k → (∀ s ∈ l, SetIn s) → Cut (l.foldl stepD o) (k ++ l)
  | [], k, o, h, _ => by simpa using h
  | s :: l, k, o, h, hs => by
    have := Cut.fold l (k ++ [s]) (stepD o s) (h.step (hs s (by simp))) (fun x hx => hs x (by simp [hx]))
    simpa using this
theorem mem_sortD {o : List SetD} (h : ∀ q ∈ o, SetIn q ∧ q ≠ ⟨0, 0, 0, 0⟩) {p : SetD} : p ∈ sortD o ↔ p ∈ o := by
  unfold sortD
  constructor
  · intro hp
    obtain ⟨c, _, hp⟩ := List.mem_flatMap.1 hp
    exact (List.mem_filter.1 hp).1
  · intro hp
    obtain ⟨c, hc, hf⟩ := first_ex (h p hp).1 (h p hp).2
    exact List.mem_flatMap.2 ⟨c, List.mem_range.2 hc, List.mem_filter.2 ⟨hp, hf⟩⟩
theorem sortD_rises {o : List SetD} (ha : o.Pairwise fun p q => ∀ c, c < 256 → ¬ (p.has c = true ∧ q.has c = true)) : (sortD o).Pairwise fun p q => ∃ c d, p.firstIs c = true ∧ q.firstIs d = true ∧ c < d := by
  unfold sortD
  refine List.pairwise_flatMap.2 ⟨fun c hc => ?_, ?_⟩
  · refine (List.Pairwise.filter _ ha).imp_of_mem fun {p q} hp hq hpq => ?_
    have h1 := firstIs_has (List.mem_filter.1 hp).2
    have h2 := firstIs_has (List.mem_filter.1 hq).2
    exact absurd ⟨h1.2.1, h2.2.1⟩ (hpq c h1.1)
  · exact List.pairwise_lt_range.imp fun {c d} hcd x hx y hy => ⟨c, d, (List.mem_filter.1 hx).2, (List.mem_filter.1 hy).2, hcd⟩
/-- What the law asks of the pieces. -/
structure Cuts (o l : List SetD) : Prop where
  each : ∀ q ∈ o, SetIn q ∧ q ≠ ⟨0, 0, 0, 0⟩
  all : ∀ c, c < 256 → ∃ p ∈ o, p.has c = true
  like : ∀ p ∈ o, ∀ c d, c < 256 → d < 256 → p.has c = true → (p.has d = true ↔ sig l c = sig l d)
  rises : o.Pairwise fun p q => ∃ c d, p.firstIs c = true ∧ q.firstIs d = true ∧ c < d
theorem splitD_cuts {l : List SetD} (hs : ∀ s ∈ l, SetIn s) : Cuts (splitD l) l := by
  have h := Cut.fold l [] [allD] Cut.one hs
  rw [List.nil_append] at h
  rw [splitD_eq]
  refine ⟨fun q hq => h.each q ((mem_sortD h.each).1 hq), fun c hc => ?_, fun p hp => h.like p ((mem_sortD h.each).1 hp), sortD_rises h.apart⟩
  obtain ⟨p, hp, hpc⟩ := h.all c hc
  exact ⟨p, (mem_sortD h.each).2 hp, hpc⟩
theorem Cuts.same {o l : List SetD} (h : Cuts o l) {p q : SetD} (hp : p ∈ o) (hq : q ∈ o) {c : Nat} (hc : c < 256) (h1 : p.has c = true) (h2 : q.has c = true) : p = q :=
  SetD.ext (h.each p hp).1 (h.each q hq).1 fun d hd => by
    rw [Bool.eq_iff_iff, h.like p hp c d hc hd h1, h.like q hq c d hc hd h2]
theorem firstIs_eq {p : SetD} {c d : Nat} (h1 : p.firstIs c = true) (h2 : p.firstIs d = true) : c = d := by
  unfold SetD.firstIs at h1 h2
  rw [beq_iff_eq] at h1 h2
  rw [h1] at h2
  exact Option.some.inj h2
theorem Cuts.at {o l : List SetD} (h : Cuts o l) {i j : Nat} {p q : SetD} (hij : i < j) (hp : o[i]? = some p) (hq : o[j]? = some q) : (∃ c d, p.firstIs c = true ∧ q.firstIs d = true ∧ c < d) ∧ ∀ c, c < 256 → ¬ (p.has c = true ∧ q.has c = true) := by
  obtain ⟨hi, ei⟩ := List.getElem?_eq_some_iff.1 hp
  obtain ⟨hj, ej⟩ := List.getElem?_eq_some_iff.1 hq
  have hr := List.pairwise_iff_getElem.1 h.rises i j hi hj hij
  rw [ei, ej] at hr
  refine ⟨hr, fun c hc hpq => ?_⟩
  have := h.same (List.mem_of_getElem? hp) (List.mem_of_getElem? hq) hc hpq.1 hpq.2
  subst this
  obtain ⟨x, y, hx, hy, hxy⟩ := hr
  have := firstIs_eq hx hy
  omega
theorem Cuts.rank {o l : List SetD} (h : Cuts o l) : ∀ (i : Nat) (p : SetD) (c : Nat), o[i]? = some p → p.firstIs c = true → i ≤ c
  | 0, _, _, _, _ => Nat.zero_le _
  | i + 1, p, c, hp, hc => by
    have hi : i < o.length := by have := (List.getElem?_eq_some_iff.1 hp).1; omega
    obtain ⟨x, y, hx, hy, hxy⟩ := (h.at (Nat.lt_succ_self i) (List.getElem?_eq_getElem hi) hp).1
    have h1 := h.rank i _ x (List.getElem?_eq_getElem hi) hx
    have := firstIs_eq hy hc
    omega
theorem Cuts.len {o l : List SetD} (h : Cuts o l) : o.length ≤ 256 := by
  rcases Nat.lt_or_ge 256 o.length with hl | hl
  · have hg : o[256]? = some o[256] := List.getElem?_eq_getElem hl
    obtain ⟨c, hc, hf⟩ := first_ex (h.each _ (List.mem_of_getElem? hg)).1 (h.each _ (List.mem_of_getElem? hg)).2
    have := h.rank 256 _ c hg hf
    omega
  · exact hl
theorem sig_at {l : List SetD} {c d : Nat} (h : sig l c = sig l d) {s : SetD} (hs : s ∈ l) : s.has c = s.has d := by
  unfold sig at h
  exact List.map_inj_left.1 h s hs
end Go.Proofs.YtinbmhbfcoiefaaGreatDoor
end
