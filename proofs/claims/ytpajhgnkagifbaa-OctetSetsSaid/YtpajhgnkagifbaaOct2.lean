/- Contracts of package octet's reader. -/
import Derived.Test.YtpajhgnkagifbaaOct1
namespace Go.Proofs.Ytpajhgnkagifbaa
open Go Go.E
set_option linter.unusedVariables false

def ptr (b : Nat) : Value := .pointer (some ⟨b, 0, none⟩)
theorem maxLen_le {n : Nat} (h : n ≤ maxLen) : (n : Int) ≤ 9223372036854775807 := by unfold maxLen at h; omega
def bytes (l : List UInt8) : List Value := l.map u8
/-- A slice of bytes that reads as l. -/
def Bs (h : Heap) (v : Value) (l : List UInt8) : Prop := Rd h v l.length (l.map u8)
theorem Bs.slice {h : Heap} {v : Value} {l : List UInt8} (hb : Bs h v l) : ∃ a c, v = .slice a l.length c ∧ l.length ≤ c ∧ c ≤ maxLen := Rd.slice hb
theorem Bs.at {h : Heap} {b o c : Nat} {l : List UInt8} (hb : Bs h (.slice (some ⟨b, o, none⟩) l.length c) l) {i : Nat} {x : UInt8} (hx : l[i]? = some x) : cellAt h b (o + i) = some (u8 x) :=
  Rd.at hb (by simp [hx])
theorem Bs.nonnil {h : Heap} {v : Value} {l : List UInt8} (hb : Bs h v l) (hl : l ≠ []) : ∃ b o c, v = .slice (some ⟨b, o, none⟩) l.length c ∧ l.length ≤ c ∧ c ≤ maxLen ∧ b < h.size := by
  obtain ⟨b, o, c, h1, h2, h3, h4, _⟩ := Rd.posn hb (List.length_pos_iff.2 hl)
  exact ⟨b, o, c, h1, h2, h3, h4⟩

theorem new_spec (v : Value) (a : Option Addr) (n c : Nat) (hv : v = .slice a n c) (h : Heap) : Meets Try.prog 17 #[v] h (fun u h' => u = ptr h.size ∧ Newly (.cells #[v, .int .i64 0] 76) h h') := by
  subst hv
  refine Meets.intro (n := _) Try.func17 rfl Try.ntmps17 rfl fun σ => ?_
  repeat (first
    | refine L.move rfl rfl ?_
    | refine L.assign rfl rfl ?_
    | (show L _ _ _ _ _ (⟨_, .binOp _ _ _ _ _, _, _, _, none⟩ :: _) _ _; first | (show L _ _ _ _ _ (⟨_, .binOp .add _ _ _ _, _, _, _, none⟩ :: _) _ _; first | refine L.addI rfl rfl (by omega) rfl ?_) | (show L _ _ _ _ _ (⟨_, .binOp .sub _ _ _ _, _, _, _, none⟩ :: _) _ _; first | refine L.subI rfl rfl (by omega) rfl ?_) | (show L _ _ _ _ _ (⟨_, .binOp .mul _ _ _ _, _, _, _, none⟩ :: _) _ _; first | refine L.mulI rfl rfl (by omega) rfl ?_) | (show L _ _ _ _ _ (⟨_, .binOp .eql _ _ _ _, _, _, _, none⟩ :: _) _ _; first | refine L.eql rfl rfl rfl ?_ | refine L.eqlS rfl rfl rfl ?_ | refine L.eqlNil rfl rfl rfl ?_ | refine L.eqlB rfl rfl rfl rfl ?_) | (show L _ _ _ _ _ (⟨_, .binOp .neq _ _ _ _, _, _, _, none⟩ :: _) _ _; first | refine L.neq rfl rfl rfl ?_ | refine L.neqS rfl rfl rfl ?_ | refine L.neqNil rfl rfl rfl ?_ | refine L.neqB rfl rfl rfl rfl ?_) | (show L _ _ _ _ _ (⟨_, .binOp .lss _ _ _ _, _, _, _, none⟩ :: _) _ _; first | refine L.lss rfl rfl rfl ?_) | (show L _ _ _ _ _ (⟨_, .binOp .leq _ _ _ _, _, _, _, none⟩ :: _) _ _; first | refine L.leq rfl rfl rfl ?_) | (show L _ _ _ _ _ (⟨_, .binOp .gtr _ _ _ _, _, _, _, none⟩ :: _) _ _; first | refine L.gtr rfl rfl rfl ?_) | (show L _ _ _ _ _ (⟨_, .binOp .geq _ _ _ _, _, _, _, none⟩ :: _) _ _; first | refine L.geq rfl rfl rfl ?_))
    | (show L _ _ _ _ _ (⟨_, .call _, _, _, _, none⟩ :: _) _ _; first | refine L.len rfl rfl rfl ?_ | refine L.lenStr rfl rfl rfl ?_ | refine L.min rfl rfl rfl ?_ | refine L.max rfl rfl rfl ?_)
    | (show L _ _ _ _ _ (⟨_, _, _, _, _, none⟩ :: _) _ _; first | refine L.extract rfl rfl rfl ?_ | refine L.nilCheck rfl rfl ?_ | refine L.fieldAddr rfl rfl rfl rfl rfl ?_ | refine L.load rfl rfl rfl (by assumption) rfl ?_ | refine L.load rfl rfl rfl (Row.cell (by assumption) (by rfl)) rfl ?_ | refine L.pickT rfl rfl rfl ?_ | refine L.pickF rfl rfl rfl ?_ | refine L.notDec rfl rfl ?_ | refine L.not rfl rfl ?_ | refine L.convSame rfl rfl rfl (wrap_i64 (by omega)) rfl ?_)
    | (show L _ _ _ _ _ (⟨_, _, _, _, _, some _⟩ :: _) _ _; first | refine L.guard rfl rfl ?_ | refine L.guard_not rfl rfl rfl ?_)
    | refine L.nil ?_
    | (show N _ _ _ _ _; first | refine N.then_normal ?_ | refine N.wp ?_ | refine N.then_ret ?_ | refine N.block_normal ?_ | refine N.block_ret ?_ | refine N.then_exit ?_ | refine N.block_same ?_ | refine N.block_other rfl ?_)
    | (show C _ _ _ _ _ _ _; first | refine C.seq ?_ | refine C.region ?_ | refine C.skip ?_ | refine C.ret ?_ | refine C.block ?_ | refine C.exit ?_ | refine C.tt rfl ?_ | refine C.ff rfl ?_))
  refine L.pure (Pu.build #[.slice a n c, .int .i64 0] rfl (by kernel_rfl)) rfl ?_
  refine L.eff (Eff.box rfl) rfl ?_
  rintro _ h1 ⟨rfl, hn⟩
  repeat (first
    | refine L.move rfl rfl ?_
    | refine L.assign rfl rfl ?_
    | (show L _ _ _ _ _ (⟨_, .binOp _ _ _ _ _, _, _, _, none⟩ :: _) _ _; first | (show L _ _ _ _ _ (⟨_, .binOp .add _ _ _ _, _, _, _, none⟩ :: _) _ _; first | refine L.addI rfl rfl (by omega) rfl ?_) | (show L _ _ _ _ _ (⟨_, .binOp .sub _ _ _ _, _, _, _, none⟩ :: _) _ _; first | refine L.subI rfl rfl (by omega) rfl ?_) | (show L _ _ _ _ _ (⟨_, .binOp .mul _ _ _ _, _, _, _, none⟩ :: _) _ _; first | refine L.mulI rfl rfl (by omega) rfl ?_) | (show L _ _ _ _ _ (⟨_, .binOp .eql _ _ _ _, _, _, _, none⟩ :: _) _ _; first | refine L.eql rfl rfl rfl ?_ | refine L.eqlS rfl rfl rfl ?_ | refine L.eqlNil rfl rfl rfl ?_ | refine L.eqlB rfl rfl rfl rfl ?_) | (show L _ _ _ _ _ (⟨_, .binOp .neq _ _ _ _, _, _, _, none⟩ :: _) _ _; first | refine L.neq rfl rfl rfl ?_ | refine L.neqS rfl rfl rfl ?_ | refine L.neqNil rfl rfl rfl ?_ | refine L.neqB rfl rfl rfl rfl ?_) | (show L _ _ _ _ _ (⟨_, .binOp .lss _ _ _ _, _, _, _, none⟩ :: _) _ _; first | refine L.lss rfl rfl rfl ?_) | (show L _ _ _ _ _ (⟨_, .binOp .leq _ _ _ _, _, _, _, none⟩ :: _) _ _; first | refine L.leq rfl rfl rfl ?_) | (show L _ _ _ _ _ (⟨_, .binOp .gtr _ _ _ _, _, _, _, none⟩ :: _) _ _; first | refine L.gtr rfl rfl rfl ?_) | (show L _ _ _ _ _ (⟨_, .binOp .geq _ _ _ _, _, _, _, none⟩ :: _) _ _; first | refine L.geq rfl rfl rfl ?_))
    | (show L _ _ _ _ _ (⟨_, .call _, _, _, _, none⟩ :: _) _ _; first | refine L.len rfl rfl rfl ?_ | refine L.lenStr rfl rfl rfl ?_ | refine L.min rfl rfl rfl ?_ | refine L.max rfl rfl rfl ?_)
    | (show L _ _ _ _ _ (⟨_, _, _, _, _, none⟩ :: _) _ _; first | refine L.extract rfl rfl rfl ?_ | refine L.nilCheck rfl rfl ?_ | refine L.fieldAddr rfl rfl rfl rfl rfl ?_ | refine L.load rfl rfl rfl (by assumption) rfl ?_ | refine L.load rfl rfl rfl (Row.cell (by assumption) (by rfl)) rfl ?_ | refine L.pickT rfl rfl rfl ?_ | refine L.pickF rfl rfl rfl ?_ | refine L.notDec rfl rfl ?_ | refine L.not rfl rfl ?_ | refine L.convSame rfl rfl rfl (wrap_i64 (by omega)) rfl ?_)
    | (show L _ _ _ _ _ (⟨_, _, _, _, _, some _⟩ :: _) _ _; first | refine L.guard rfl rfl ?_ | refine L.guard_not rfl rfl rfl ?_)
    | refine L.nil ?_
    | (show N _ _ _ _ _; first | refine N.then_normal ?_ | refine N.wp ?_ | refine N.then_ret ?_ | refine N.block_normal ?_ | refine N.block_ret ?_ | refine N.then_exit ?_ | refine N.block_same ?_ | refine N.block_other rfl ?_)
    | (show C _ _ _ _ _ _ _; first | refine C.seq ?_ | refine C.region ?_ | refine C.skip ?_ | refine C.ret ?_ | refine C.block ?_ | refine C.exit ?_ | refine C.tt rfl ?_ | refine C.ff rfl ?_))
  exact N.ret1 rfl rfl ⟨rfl, hn⟩

/-- A reader: its bytes, and how many of them were read. -/
structure Reader (h : Heap) (r : Nat) (v : Value) (l : List UInt8) (k : Nat) : Prop where
  row : Row h r 76 [v, .int .i64 (k : Int)]
  data : Bs h v l
  le : k ≤ l.length
  apart : l ≠ [] → v.ownBlock ≠ some r

theorem left_spec (r : Nat) (v : Value) (l : List UInt8) (k : Nat) (h : Heap) (hr : Reader h r v l k) :
    Meets Try.prog 22 #[ptr r] h (fun u h' => u = .int .i64 ((l.length : Int) - k) ∧ h = h') := by
  obtain ⟨row, data, le, _⟩ := hr
  obtain ⟨a, c, rfl, h1, h2⟩ := data.slice
  have hm := maxLen_le h2
  refine Meets.intro (n := _) Try.func22 rfl Try.ntmps22 rfl fun σ => ?_
  repeat (first
    | refine L.move rfl rfl ?_
    | refine L.assign rfl rfl ?_
    | (show L _ _ _ _ _ (⟨_, .binOp _ _ _ _ _, _, _, _, none⟩ :: _) _ _; first | (show L _ _ _ _ _ (⟨_, .binOp .add _ _ _ _, _, _, _, none⟩ :: _) _ _; first | refine L.addI rfl rfl (by omega) rfl ?_) | (show L _ _ _ _ _ (⟨_, .binOp .sub _ _ _ _, _, _, _, none⟩ :: _) _ _; first | refine L.subI rfl rfl (by omega) rfl ?_) | (show L _ _ _ _ _ (⟨_, .binOp .mul _ _ _ _, _, _, _, none⟩ :: _) _ _; first | refine L.mulI rfl rfl (by omega) rfl ?_) | (show L _ _ _ _ _ (⟨_, .binOp .eql _ _ _ _, _, _, _, none⟩ :: _) _ _; first | refine L.eql rfl rfl rfl ?_ | refine L.eqlS rfl rfl rfl ?_ | refine L.eqlNil rfl rfl rfl ?_ | refine L.eqlB rfl rfl rfl rfl ?_) | (show L _ _ _ _ _ (⟨_, .binOp .neq _ _ _ _, _, _, _, none⟩ :: _) _ _; first | refine L.neq rfl rfl rfl ?_ | refine L.neqS rfl rfl rfl ?_ | refine L.neqNil rfl rfl rfl ?_ | refine L.neqB rfl rfl rfl rfl ?_) | (show L _ _ _ _ _ (⟨_, .binOp .lss _ _ _ _, _, _, _, none⟩ :: _) _ _; first | refine L.lss rfl rfl rfl ?_) | (show L _ _ _ _ _ (⟨_, .binOp .leq _ _ _ _, _, _, _, none⟩ :: _) _ _; first | refine L.leq rfl rfl rfl ?_) | (show L _ _ _ _ _ (⟨_, .binOp .gtr _ _ _ _, _, _, _, none⟩ :: _) _ _; first | refine L.gtr rfl rfl rfl ?_) | (show L _ _ _ _ _ (⟨_, .binOp .geq _ _ _ _, _, _, _, none⟩ :: _) _ _; first | refine L.geq rfl rfl rfl ?_))
    | (show L _ _ _ _ _ (⟨_, .call _, _, _, _, none⟩ :: _) _ _; first | refine L.len rfl rfl rfl ?_ | refine L.lenStr rfl rfl rfl ?_ | refine L.min rfl rfl rfl ?_ | refine L.max rfl rfl rfl ?_)
    | (show L _ _ _ _ _ (⟨_, _, _, _, _, none⟩ :: _) _ _; first | refine L.extract rfl rfl rfl ?_ | refine L.nilCheck rfl rfl ?_ | refine L.fieldAddr rfl rfl rfl rfl rfl ?_ | refine L.load rfl rfl rfl (by assumption) rfl ?_ | refine L.load rfl rfl rfl (Row.cell (by assumption) (by rfl)) rfl ?_ | refine L.pickT rfl rfl rfl ?_ | refine L.pickF rfl rfl rfl ?_ | refine L.notDec rfl rfl ?_ | refine L.not rfl rfl ?_ | refine L.convSame rfl rfl rfl (wrap_i64 (by omega)) rfl ?_)
    | (show L _ _ _ _ _ (⟨_, _, _, _, _, some _⟩ :: _) _ _; first | refine L.guard rfl rfl ?_ | refine L.guard_not rfl rfl rfl ?_)
    | refine L.nil ?_
    | (show N _ _ _ _ _; first | refine N.then_normal ?_ | refine N.wp ?_ | refine N.then_ret ?_ | refine N.block_normal ?_ | refine N.block_ret ?_ | refine N.then_exit ?_ | refine N.block_same ?_ | refine N.block_other rfl ?_)
    | (show C _ _ _ _ _ _ _; first | refine C.seq ?_ | refine C.region ?_ | refine C.skip ?_ | refine C.ret ?_ | refine C.block ?_ | refine C.exit ?_ | refine C.tt rfl ?_ | refine C.ff rfl ?_))
  refine C.quiet (h = ·) rfl (by kernel_rfl) rfl ?_
  repeat (first
    | refine LQ.move rfl rfl ?_
    | refine LQ.assign rfl rfl ?_
    | (show LQ _ _ _ _ _ _ (⟨_, .binOp _ _ _ _ _, _, _, _, none⟩ :: _) _; first | (show LQ _ _ _ _ _ _ (⟨_, .binOp .add _ _ _ _, _, _, _, none⟩ :: _) _; first | refine LQ.addI rfl rfl (by omega) rfl ?_) | (show LQ _ _ _ _ _ _ (⟨_, .binOp .sub _ _ _ _, _, _, _, none⟩ :: _) _; first | refine LQ.subI rfl rfl (by omega) rfl ?_) | (show LQ _ _ _ _ _ _ (⟨_, .binOp .mul _ _ _ _, _, _, _, none⟩ :: _) _; first | refine LQ.mulI rfl rfl (by omega) rfl ?_) | (show LQ _ _ _ _ _ _ (⟨_, .binOp .eql _ _ _ _, _, _, _, none⟩ :: _) _; first | refine LQ.eql rfl rfl rfl ?_ | refine LQ.eqlS rfl rfl rfl ?_ | refine LQ.eqlNil rfl rfl rfl ?_ | refine LQ.eqlB rfl rfl rfl rfl ?_) | (show LQ _ _ _ _ _ _ (⟨_, .binOp .neq _ _ _ _, _, _, _, none⟩ :: _) _; first | refine LQ.neq rfl rfl rfl ?_ | refine LQ.neqS rfl rfl rfl ?_ | refine LQ.neqNil rfl rfl rfl ?_ | refine LQ.neqB rfl rfl rfl rfl ?_) | (show LQ _ _ _ _ _ _ (⟨_, .binOp .lss _ _ _ _, _, _, _, none⟩ :: _) _; first | refine LQ.lss rfl rfl rfl ?_) | (show LQ _ _ _ _ _ _ (⟨_, .binOp .leq _ _ _ _, _, _, _, none⟩ :: _) _; first | refine LQ.leq rfl rfl rfl ?_) | (show LQ _ _ _ _ _ _ (⟨_, .binOp .gtr _ _ _ _, _, _, _, none⟩ :: _) _; first | refine LQ.gtr rfl rfl rfl ?_) | (show LQ _ _ _ _ _ _ (⟨_, .binOp .geq _ _ _ _, _, _, _, none⟩ :: _) _; first | refine LQ.geq rfl rfl rfl ?_))
    | (show LQ _ _ _ _ _ _ (⟨_, .call _, _, _, _, none⟩ :: _) _; first | refine LQ.len rfl rfl rfl ?_ | refine LQ.lenStr rfl rfl rfl ?_ | refine LQ.min rfl rfl rfl ?_ | refine LQ.max rfl rfl rfl ?_)
    | (show LQ _ _ _ _ _ _ (⟨_, _, _, _, _, none⟩ :: _) _; first | refine LQ.extract rfl rfl rfl ?_ | refine LQ.nilCheck rfl rfl ?_ | refine LQ.fieldAddr rfl rfl rfl rfl rfl ?_ | refine LQ.pickT rfl rfl rfl ?_ | refine LQ.pickF rfl rfl rfl ?_ | refine LQ.notDec rfl rfl ?_ | refine LQ.not rfl rfl ?_ | refine LQ.convSame rfl rfl rfl (wrap_i64 (by omega)) rfl ?_ | refine LQ.pure (fun _ hK => by cases hK; first | exact Pu.load rfl rfl rfl (by assumption) | exact Pu.load rfl rfl rfl (Row.cell (by assumption) (by rfl)) | exact Pu.idx1 rfl rfl rfl rfl (by omega)) rfl ?_)
    | (show LQ _ _ _ _ _ _ (⟨_, _, _, _, _, some _⟩ :: _) _; first | refine LQ.guard rfl rfl ?_ | refine LQ.guard_not rfl rfl rfl ?_ | refine LQ.gdec rfl rfl (fun hg => ?_) (fun hg => ?_)))
  refine LQ.nil ?_
  rintro _ rfl
  repeat (first
    | refine L.move rfl rfl ?_
    | refine L.assign rfl rfl ?_
    | (show L _ _ _ _ _ (⟨_, .binOp _ _ _ _ _, _, _, _, none⟩ :: _) _ _; first | (show L _ _ _ _ _ (⟨_, .binOp .add _ _ _ _, _, _, _, none⟩ :: _) _ _; first | refine L.addI rfl rfl (by omega) rfl ?_) | (show L _ _ _ _ _ (⟨_, .binOp .sub _ _ _ _, _, _, _, none⟩ :: _) _ _; first | refine L.subI rfl rfl (by omega) rfl ?_) | (show L _ _ _ _ _ (⟨_, .binOp .mul _ _ _ _, _, _, _, none⟩ :: _) _ _; first | refine L.mulI rfl rfl (by omega) rfl ?_) | (show L _ _ _ _ _ (⟨_, .binOp .eql _ _ _ _, _, _, _, none⟩ :: _) _ _; first | refine L.eql rfl rfl rfl ?_ | refine L.eqlS rfl rfl rfl ?_ | refine L.eqlNil rfl rfl rfl ?_ | refine L.eqlB rfl rfl rfl rfl ?_) | (show L _ _ _ _ _ (⟨_, .binOp .neq _ _ _ _, _, _, _, none⟩ :: _) _ _; first | refine L.neq rfl rfl rfl ?_ | refine L.neqS rfl rfl rfl ?_ | refine L.neqNil rfl rfl rfl ?_ | refine L.neqB rfl rfl rfl rfl ?_) | (show L _ _ _ _ _ (⟨_, .binOp .lss _ _ _ _, _, _, _, none⟩ :: _) _ _; first | refine L.lss rfl rfl rfl ?_) | (show L _ _ _ _ _ (⟨_, .binOp .leq _ _ _ _, _, _, _, none⟩ :: _) _ _; first | refine L.leq rfl rfl rfl ?_) | (show L _ _ _ _ _ (⟨_, .binOp .gtr _ _ _ _, _, _, _, none⟩ :: _) _ _; first | refine L.gtr rfl rfl rfl ?_) | (show L _ _ _ _ _ (⟨_, .binOp .geq _ _ _ _, _, _, _, none⟩ :: _) _ _; first | refine L.geq rfl rfl rfl ?_))
    | (show L _ _ _ _ _ (⟨_, .call _, _, _, _, none⟩ :: _) _ _; first | refine L.len rfl rfl rfl ?_ | refine L.lenStr rfl rfl rfl ?_ | refine L.min rfl rfl rfl ?_ | refine L.max rfl rfl rfl ?_)
    | (show L _ _ _ _ _ (⟨_, _, _, _, _, none⟩ :: _) _ _; first | refine L.extract rfl rfl rfl ?_ | refine L.nilCheck rfl rfl ?_ | refine L.fieldAddr rfl rfl rfl rfl rfl ?_ | refine L.load rfl rfl rfl (by assumption) rfl ?_ | refine L.load rfl rfl rfl (Row.cell (by assumption) (by rfl)) rfl ?_ | refine L.pickT rfl rfl rfl ?_ | refine L.pickF rfl rfl rfl ?_ | refine L.notDec rfl rfl ?_ | refine L.not rfl rfl ?_ | refine L.convSame rfl rfl rfl (wrap_i64 (by omega)) rfl ?_)
    | (show L _ _ _ _ _ (⟨_, _, _, _, _, some _⟩ :: _) _ _; first | refine L.guard rfl rfl ?_ | refine L.guard_not rfl rfl rfl ?_)
    | refine L.nil ?_
    | (show N _ _ _ _ _; first | refine N.then_normal ?_ | refine N.wp ?_ | refine N.then_ret ?_ | refine N.block_normal ?_ | refine N.block_ret ?_ | refine N.then_exit ?_ | refine N.block_same ?_ | refine N.block_other rfl ?_)
    | (show C _ _ _ _ _ _ _; first | refine C.seq ?_ | refine C.region ?_ | refine C.skip ?_ | refine C.ret ?_ | refine C.block ?_ | refine C.exit ?_ | refine C.tt rfl ?_ | refine C.ff rfl ?_))
  exact N.ret1 rfl rfl ⟨rfl, rfl⟩
theorem at_spec (r : Nat) (v : Value) (l : List UInt8) (k : Nat) (h : Heap) (hr : Reader h r v l k) :
    Meets Try.prog 25 #[ptr r] h (fun u h' => u = .int .i64 (k : Int) ∧ h = h') := by
  obtain ⟨row, data, le, _⟩ := hr
  refine Meets.intro (n := _) Try.func25 rfl Try.ntmps25 rfl fun σ => ?_
  repeat (first
    | refine L.move rfl rfl ?_
    | refine L.assign rfl rfl ?_
    | (show L _ _ _ _ _ (⟨_, .binOp _ _ _ _ _, _, _, _, none⟩ :: _) _ _; first | (show L _ _ _ _ _ (⟨_, .binOp .add _ _ _ _, _, _, _, none⟩ :: _) _ _; first | refine L.addI rfl rfl (by omega) rfl ?_) | (show L _ _ _ _ _ (⟨_, .binOp .sub _ _ _ _, _, _, _, none⟩ :: _) _ _; first | refine L.subI rfl rfl (by omega) rfl ?_) | (show L _ _ _ _ _ (⟨_, .binOp .mul _ _ _ _, _, _, _, none⟩ :: _) _ _; first | refine L.mulI rfl rfl (by omega) rfl ?_) | (show L _ _ _ _ _ (⟨_, .binOp .eql _ _ _ _, _, _, _, none⟩ :: _) _ _; first | refine L.eql rfl rfl rfl ?_ | refine L.eqlS rfl rfl rfl ?_ | refine L.eqlNil rfl rfl rfl ?_ | refine L.eqlB rfl rfl rfl rfl ?_) | (show L _ _ _ _ _ (⟨_, .binOp .neq _ _ _ _, _, _, _, none⟩ :: _) _ _; first | refine L.neq rfl rfl rfl ?_ | refine L.neqS rfl rfl rfl ?_ | refine L.neqNil rfl rfl rfl ?_ | refine L.neqB rfl rfl rfl rfl ?_) | (show L _ _ _ _ _ (⟨_, .binOp .lss _ _ _ _, _, _, _, none⟩ :: _) _ _; first | refine L.lss rfl rfl rfl ?_) | (show L _ _ _ _ _ (⟨_, .binOp .leq _ _ _ _, _, _, _, none⟩ :: _) _ _; first | refine L.leq rfl rfl rfl ?_) | (show L _ _ _ _ _ (⟨_, .binOp .gtr _ _ _ _, _, _, _, none⟩ :: _) _ _; first | refine L.gtr rfl rfl rfl ?_) | (show L _ _ _ _ _ (⟨_, .binOp .geq _ _ _ _, _, _, _, none⟩ :: _) _ _; first | refine L.geq rfl rfl rfl ?_))
    | (show L _ _ _ _ _ (⟨_, .call _, _, _, _, none⟩ :: _) _ _; first | refine L.len rfl rfl rfl ?_ | refine L.lenStr rfl rfl rfl ?_ | refine L.min rfl rfl rfl ?_ | refine L.max rfl rfl rfl ?_)
    | (show L _ _ _ _ _ (⟨_, _, _, _, _, none⟩ :: _) _ _; first | refine L.extract rfl rfl rfl ?_ | refine L.nilCheck rfl rfl ?_ | refine L.fieldAddr rfl rfl rfl rfl rfl ?_ | refine L.load rfl rfl rfl (by assumption) rfl ?_ | refine L.load rfl rfl rfl (Row.cell (by assumption) (by rfl)) rfl ?_ | refine L.pickT rfl rfl rfl ?_ | refine L.pickF rfl rfl rfl ?_ | refine L.notDec rfl rfl ?_ | refine L.not rfl rfl ?_ | refine L.convSame rfl rfl rfl (wrap_i64 (by omega)) rfl ?_)
    | (show L _ _ _ _ _ (⟨_, _, _, _, _, some _⟩ :: _) _ _; first | refine L.guard rfl rfl ?_ | refine L.guard_not rfl rfl rfl ?_)
    | refine L.nil ?_
    | (show N _ _ _ _ _; first | refine N.then_normal ?_ | refine N.wp ?_ | refine N.then_ret ?_ | refine N.block_normal ?_ | refine N.block_ret ?_ | refine N.then_exit ?_ | refine N.block_same ?_ | refine N.block_other rfl ?_)
    | (show C _ _ _ _ _ _ _; first | refine C.seq ?_ | refine C.region ?_ | refine C.skip ?_ | refine C.ret ?_ | refine C.block ?_ | refine C.exit ?_ | refine C.tt rfl ?_ | refine C.ff rfl ?_))
  exact N.ret1 rfl rfl ⟨rfl, rfl⟩
theorem peek_spec (r : Nat) (v : Value) (l : List UInt8) (k : Nat) (h : Heap) (hr : Reader h r v l k) :
    Meets Try.prog 26 #[ptr r] h (fun u h' => u = .tuple (match l[k]? with | none => #[.int .u8 0, .bool false] | some c => #[u8 c, .bool true]) ∧ h = h') := by
  have hr' := hr
  obtain ⟨row, data, le, _⟩ := hr
  refine Meets.intro (n := _) Try.func26 rfl Try.ntmps26 rfl fun σ => ?_
  repeat (first
    | refine L.move rfl rfl ?_
    | refine L.assign rfl rfl ?_
    | (show L _ _ _ _ _ (⟨_, .binOp _ _ _ _ _, _, _, _, none⟩ :: _) _ _; first | (show L _ _ _ _ _ (⟨_, .binOp .add _ _ _ _, _, _, _, none⟩ :: _) _ _; first | refine L.addI rfl rfl (by omega) rfl ?_) | (show L _ _ _ _ _ (⟨_, .binOp .sub _ _ _ _, _, _, _, none⟩ :: _) _ _; first | refine L.subI rfl rfl (by omega) rfl ?_) | (show L _ _ _ _ _ (⟨_, .binOp .mul _ _ _ _, _, _, _, none⟩ :: _) _ _; first | refine L.mulI rfl rfl (by omega) rfl ?_) | (show L _ _ _ _ _ (⟨_, .binOp .eql _ _ _ _, _, _, _, none⟩ :: _) _ _; first | refine L.eql rfl rfl rfl ?_ | refine L.eqlS rfl rfl rfl ?_ | refine L.eqlNil rfl rfl rfl ?_ | refine L.eqlB rfl rfl rfl rfl ?_) | (show L _ _ _ _ _ (⟨_, .binOp .neq _ _ _ _, _, _, _, none⟩ :: _) _ _; first | refine L.neq rfl rfl rfl ?_ | refine L.neqS rfl rfl rfl ?_ | refine L.neqNil rfl rfl rfl ?_ | refine L.neqB rfl rfl rfl rfl ?_) | (show L _ _ _ _ _ (⟨_, .binOp .lss _ _ _ _, _, _, _, none⟩ :: _) _ _; first | refine L.lss rfl rfl rfl ?_) | (show L _ _ _ _ _ (⟨_, .binOp .leq _ _ _ _, _, _, _, none⟩ :: _) _ _; first | refine L.leq rfl rfl rfl ?_) | (show L _ _ _ _ _ (⟨_, .binOp .gtr _ _ _ _, _, _, _, none⟩ :: _) _ _; first | refine L.gtr rfl rfl rfl ?_) | (show L _ _ _ _ _ (⟨_, .binOp .geq _ _ _ _, _, _, _, none⟩ :: _) _ _; first | refine L.geq rfl rfl rfl ?_))
    | (show L _ _ _ _ _ (⟨_, .call _, _, _, _, none⟩ :: _) _ _; first | refine L.len rfl rfl rfl ?_ | refine L.lenStr rfl rfl rfl ?_ | refine L.min rfl rfl rfl ?_ | refine L.max rfl rfl rfl ?_)
    | (show L _ _ _ _ _ (⟨_, _, _, _, _, none⟩ :: _) _ _; first | refine L.extract rfl rfl rfl ?_ | refine L.nilCheck rfl rfl ?_ | refine L.fieldAddr rfl rfl rfl rfl rfl ?_ | refine L.load rfl rfl rfl (by assumption) rfl ?_ | refine L.load rfl rfl rfl (Row.cell (by assumption) (by rfl)) rfl ?_ | refine L.pickT rfl rfl rfl ?_ | refine L.pickF rfl rfl rfl ?_ | refine L.notDec rfl rfl ?_ | refine L.not rfl rfl ?_ | refine L.convSame rfl rfl rfl (wrap_i64 (by omega)) rfl ?_)
    | (show L _ _ _ _ _ (⟨_, _, _, _, _, some _⟩ :: _) _ _; first | refine L.guard rfl rfl ?_ | refine L.guard_not rfl rfl rfl ?_)
    | refine L.nil ?_
    | (show N _ _ _ _ _; first | refine N.then_normal ?_ | refine N.wp ?_ | refine N.then_ret ?_ | refine N.block_normal ?_ | refine N.block_ret ?_ | refine N.then_exit ?_ | refine N.block_same ?_ | refine N.block_other rfl ?_)
    | (show C _ _ _ _ _ _ _; first | refine C.seq ?_ | refine C.region ?_ | refine C.skip ?_ | refine C.ret ?_ | refine C.block ?_ | refine C.exit ?_ | refine C.tt rfl ?_ | refine C.ff rfl ?_))
  refine L.call (Enters.func rfl Try.call22) rfl (left_spec _ _ _ _ _ hr') ?_
  rintro _ _ ⟨rfl, rfl⟩
  repeat (first
    | refine L.move rfl rfl ?_
    | refine L.assign rfl rfl ?_
    | (show L _ _ _ _ _ (⟨_, .binOp _ _ _ _ _, _, _, _, none⟩ :: _) _ _; first | (show L _ _ _ _ _ (⟨_, .binOp .add _ _ _ _, _, _, _, none⟩ :: _) _ _; first | refine L.addI rfl rfl (by omega) rfl ?_) | (show L _ _ _ _ _ (⟨_, .binOp .sub _ _ _ _, _, _, _, none⟩ :: _) _ _; first | refine L.subI rfl rfl (by omega) rfl ?_) | (show L _ _ _ _ _ (⟨_, .binOp .mul _ _ _ _, _, _, _, none⟩ :: _) _ _; first | refine L.mulI rfl rfl (by omega) rfl ?_) | (show L _ _ _ _ _ (⟨_, .binOp .eql _ _ _ _, _, _, _, none⟩ :: _) _ _; first | refine L.eql rfl rfl rfl ?_ | refine L.eqlS rfl rfl rfl ?_ | refine L.eqlNil rfl rfl rfl ?_ | refine L.eqlB rfl rfl rfl rfl ?_) | (show L _ _ _ _ _ (⟨_, .binOp .neq _ _ _ _, _, _, _, none⟩ :: _) _ _; first | refine L.neq rfl rfl rfl ?_ | refine L.neqS rfl rfl rfl ?_ | refine L.neqNil rfl rfl rfl ?_ | refine L.neqB rfl rfl rfl rfl ?_) | (show L _ _ _ _ _ (⟨_, .binOp .lss _ _ _ _, _, _, _, none⟩ :: _) _ _; first | refine L.lss rfl rfl rfl ?_) | (show L _ _ _ _ _ (⟨_, .binOp .leq _ _ _ _, _, _, _, none⟩ :: _) _ _; first | refine L.leq rfl rfl rfl ?_) | (show L _ _ _ _ _ (⟨_, .binOp .gtr _ _ _ _, _, _, _, none⟩ :: _) _ _; first | refine L.gtr rfl rfl rfl ?_) | (show L _ _ _ _ _ (⟨_, .binOp .geq _ _ _ _, _, _, _, none⟩ :: _) _ _; first | refine L.geq rfl rfl rfl ?_))
    | (show L _ _ _ _ _ (⟨_, .call _, _, _, _, none⟩ :: _) _ _; first | refine L.len rfl rfl rfl ?_ | refine L.lenStr rfl rfl rfl ?_ | refine L.min rfl rfl rfl ?_ | refine L.max rfl rfl rfl ?_)
    | (show L _ _ _ _ _ (⟨_, _, _, _, _, none⟩ :: _) _ _; first | refine L.extract rfl rfl rfl ?_ | refine L.nilCheck rfl rfl ?_ | refine L.fieldAddr rfl rfl rfl rfl rfl ?_ | refine L.load rfl rfl rfl (by assumption) rfl ?_ | refine L.load rfl rfl rfl (Row.cell (by assumption) (by rfl)) rfl ?_ | refine L.pickT rfl rfl rfl ?_ | refine L.pickF rfl rfl rfl ?_ | refine L.notDec rfl rfl ?_ | refine L.not rfl rfl ?_ | refine L.convSame rfl rfl rfl (wrap_i64 (by omega)) rfl ?_)
    | (show L _ _ _ _ _ (⟨_, _, _, _, _, some _⟩ :: _) _ _; first | refine L.guard rfl rfl ?_ | refine L.guard_not rfl rfl rfl ?_)
    | refine L.nil ?_
    | (show N _ _ _ _ _; first | refine N.then_normal ?_ | refine N.wp ?_ | refine N.then_ret ?_ | refine N.block_normal ?_ | refine N.block_ret ?_ | refine N.then_exit ?_ | refine N.block_same ?_ | refine N.block_other rfl ?_)
    | (show C _ _ _ _ _ _ _; first | refine C.seq ?_ | refine C.region ?_ | refine C.skip ?_ | refine C.ret ?_ | refine C.block ?_ | refine C.exit ?_ | refine C.tt rfl ?_ | refine C.ff rfl ?_))
  refine C.dec rfl (fun hc => ?_) (fun hc => ?_)
  · repeat (first
      | refine L.move rfl rfl ?_
      | refine L.assign rfl rfl ?_
      | (show L _ _ _ _ _ (⟨_, .binOp _ _ _ _ _, _, _, _, none⟩ :: _) _ _; first | (show L _ _ _ _ _ (⟨_, .binOp .add _ _ _ _, _, _, _, none⟩ :: _) _ _; first | refine L.addI rfl rfl (by omega) rfl ?_) | (show L _ _ _ _ _ (⟨_, .binOp .sub _ _ _ _, _, _, _, none⟩ :: _) _ _; first | refine L.subI rfl rfl (by omega) rfl ?_) | (show L _ _ _ _ _ (⟨_, .binOp .mul _ _ _ _, _, _, _, none⟩ :: _) _ _; first | refine L.mulI rfl rfl (by omega) rfl ?_) | (show L _ _ _ _ _ (⟨_, .binOp .eql _ _ _ _, _, _, _, none⟩ :: _) _ _; first | refine L.eql rfl rfl rfl ?_ | refine L.eqlS rfl rfl rfl ?_ | refine L.eqlNil rfl rfl rfl ?_ | refine L.eqlB rfl rfl rfl rfl ?_) | (show L _ _ _ _ _ (⟨_, .binOp .neq _ _ _ _, _, _, _, none⟩ :: _) _ _; first | refine L.neq rfl rfl rfl ?_ | refine L.neqS rfl rfl rfl ?_ | refine L.neqNil rfl rfl rfl ?_ | refine L.neqB rfl rfl rfl rfl ?_) | (show L _ _ _ _ _ (⟨_, .binOp .lss _ _ _ _, _, _, _, none⟩ :: _) _ _; first | refine L.lss rfl rfl rfl ?_) | (show L _ _ _ _ _ (⟨_, .binOp .leq _ _ _ _, _, _, _, none⟩ :: _) _ _; first | refine L.leq rfl rfl rfl ?_) | (show L _ _ _ _ _ (⟨_, .binOp .gtr _ _ _ _, _, _, _, none⟩ :: _) _ _; first | refine L.gtr rfl rfl rfl ?_) | (show L _ _ _ _ _ (⟨_, .binOp .geq _ _ _ _, _, _, _, none⟩ :: _) _ _; first | refine L.geq rfl rfl rfl ?_))
      | (show L _ _ _ _ _ (⟨_, .call _, _, _, _, none⟩ :: _) _ _; first | refine L.len rfl rfl rfl ?_ | refine L.lenStr rfl rfl rfl ?_ | refine L.min rfl rfl rfl ?_ | refine L.max rfl rfl rfl ?_)
      | (show L _ _ _ _ _ (⟨_, _, _, _, _, none⟩ :: _) _ _; first | refine L.extract rfl rfl rfl ?_ | refine L.nilCheck rfl rfl ?_ | refine L.fieldAddr rfl rfl rfl rfl rfl ?_ | refine L.load rfl rfl rfl (by assumption) rfl ?_ | refine L.load rfl rfl rfl (Row.cell (by assumption) (by rfl)) rfl ?_ | refine L.pickT rfl rfl rfl ?_ | refine L.pickF rfl rfl rfl ?_ | refine L.notDec rfl rfl ?_ | refine L.not rfl rfl ?_ | refine L.convSame rfl rfl rfl (wrap_i64 (by omega)) rfl ?_)
      | (show L _ _ _ _ _ (⟨_, _, _, _, _, some _⟩ :: _) _ _; first | refine L.guard rfl rfl ?_ | refine L.guard_not rfl rfl rfl ?_)
      | refine L.nil ?_
      | (show N _ _ _ _ _; first | refine N.then_normal ?_ | refine N.wp ?_ | refine N.then_ret ?_ | refine N.block_normal ?_ | refine N.block_ret ?_ | refine N.then_exit ?_ | refine N.block_same ?_ | refine N.block_other rfl ?_)
      | (show C _ _ _ _ _ _ _; first | refine C.seq ?_ | refine C.region ?_ | refine C.skip ?_ | refine C.ret ?_ | refine C.block ?_ | refine C.exit ?_ | refine C.tt rfl ?_ | refine C.ff rfl ?_))
    exact N.ret2 rfl rfl rfl ⟨by rw [List.getElem?_eq_none (by omega)], rfl⟩
  · have hk : k < l.length := by omega
    obtain ⟨b, o, c, rfl, h1, h2, h3⟩ := data.nonnil (by intro e; simp [e] at hk)
    have hx := data.at (List.getElem?_eq_getElem hk)
    repeat (first
      | refine L.move rfl rfl ?_
      | refine L.assign rfl rfl ?_
      | (show L _ _ _ _ _ (⟨_, .binOp _ _ _ _ _, _, _, _, none⟩ :: _) _ _; first | (show L _ _ _ _ _ (⟨_, .binOp .add _ _ _ _, _, _, _, none⟩ :: _) _ _; first | refine L.addI rfl rfl (by omega) rfl ?_) | (show L _ _ _ _ _ (⟨_, .binOp .sub _ _ _ _, _, _, _, none⟩ :: _) _ _; first | refine L.subI rfl rfl (by omega) rfl ?_) | (show L _ _ _ _ _ (⟨_, .binOp .mul _ _ _ _, _, _, _, none⟩ :: _) _ _; first | refine L.mulI rfl rfl (by omega) rfl ?_) | (show L _ _ _ _ _ (⟨_, .binOp .eql _ _ _ _, _, _, _, none⟩ :: _) _ _; first | refine L.eql rfl rfl rfl ?_ | refine L.eqlS rfl rfl rfl ?_ | refine L.eqlNil rfl rfl rfl ?_ | refine L.eqlB rfl rfl rfl rfl ?_) | (show L _ _ _ _ _ (⟨_, .binOp .neq _ _ _ _, _, _, _, none⟩ :: _) _ _; first | refine L.neq rfl rfl rfl ?_ | refine L.neqS rfl rfl rfl ?_ | refine L.neqNil rfl rfl rfl ?_ | refine L.neqB rfl rfl rfl rfl ?_) | (show L _ _ _ _ _ (⟨_, .binOp .lss _ _ _ _, _, _, _, none⟩ :: _) _ _; first | refine L.lss rfl rfl rfl ?_) | (show L _ _ _ _ _ (⟨_, .binOp .leq _ _ _ _, _, _, _, none⟩ :: _) _ _; first | refine L.leq rfl rfl rfl ?_) | (show L _ _ _ _ _ (⟨_, .binOp .gtr _ _ _ _, _, _, _, none⟩ :: _) _ _; first | refine L.gtr rfl rfl rfl ?_) | (show L _ _ _ _ _ (⟨_, .binOp .geq _ _ _ _, _, _, _, none⟩ :: _) _ _; first | refine L.geq rfl rfl rfl ?_))
      | (show L _ _ _ _ _ (⟨_, .call _, _, _, _, none⟩ :: _) _ _; first | refine L.len rfl rfl rfl ?_ | refine L.lenStr rfl rfl rfl ?_ | refine L.min rfl rfl rfl ?_ | refine L.max rfl rfl rfl ?_)
      | (show L _ _ _ _ _ (⟨_, _, _, _, _, none⟩ :: _) _ _; first | refine L.extract rfl rfl rfl ?_ | refine L.nilCheck rfl rfl ?_ | refine L.fieldAddr rfl rfl rfl rfl rfl ?_ | refine L.load rfl rfl rfl (by assumption) rfl ?_ | refine L.load rfl rfl rfl (Row.cell (by assumption) (by rfl)) rfl ?_ | refine L.pickT rfl rfl rfl ?_ | refine L.pickF rfl rfl rfl ?_ | refine L.notDec rfl rfl ?_ | refine L.not rfl rfl ?_ | refine L.convSame rfl rfl rfl (wrap_i64 (by omega)) rfl ?_)
      | (show L _ _ _ _ _ (⟨_, _, _, _, _, some _⟩ :: _) _ _; first | refine L.guard rfl rfl ?_ | refine L.guard_not rfl rfl rfl ?_)
      | refine L.nil ?_
      | (show N _ _ _ _ _; first | refine N.then_normal ?_ | refine N.wp ?_ | refine N.then_ret ?_ | refine N.block_normal ?_ | refine N.block_ret ?_ | refine N.then_exit ?_ | refine N.block_same ?_ | refine N.block_other rfl ?_)
      | (show C _ _ _ _ _ _ _; first | refine C.seq ?_ | refine C.region ?_ | refine C.skip ?_ | refine C.ret ?_ | refine C.block ?_ | refine C.exit ?_ | refine C.tt rfl ?_ | refine C.ff rfl ?_))
    refine C.quiet (_ = ·) rfl (by kernel_rfl) rfl ?_
    repeat (first
      | refine LQ.move rfl rfl ?_
      | refine LQ.assign rfl rfl ?_
      | (show LQ _ _ _ _ _ _ (⟨_, .binOp _ _ _ _ _, _, _, _, none⟩ :: _) _; first | (show LQ _ _ _ _ _ _ (⟨_, .binOp .add _ _ _ _, _, _, _, none⟩ :: _) _; first | refine LQ.addI rfl rfl (by omega) rfl ?_) | (show LQ _ _ _ _ _ _ (⟨_, .binOp .sub _ _ _ _, _, _, _, none⟩ :: _) _; first | refine LQ.subI rfl rfl (by omega) rfl ?_) | (show LQ _ _ _ _ _ _ (⟨_, .binOp .mul _ _ _ _, _, _, _, none⟩ :: _) _; first | refine LQ.mulI rfl rfl (by omega) rfl ?_) | (show LQ _ _ _ _ _ _ (⟨_, .binOp .eql _ _ _ _, _, _, _, none⟩ :: _) _; first | refine LQ.eql rfl rfl rfl ?_ | refine LQ.eqlS rfl rfl rfl ?_ | refine LQ.eqlNil rfl rfl rfl ?_ | refine LQ.eqlB rfl rfl rfl rfl ?_) | (show LQ _ _ _ _ _ _ (⟨_, .binOp .neq _ _ _ _, _, _, _, none⟩ :: _) _; first | refine LQ.neq rfl rfl rfl ?_ | refine LQ.neqS rfl rfl rfl ?_ | refine LQ.neqNil rfl rfl rfl ?_ | refine LQ.neqB rfl rfl rfl rfl ?_) | (show LQ _ _ _ _ _ _ (⟨_, .binOp .lss _ _ _ _, _, _, _, none⟩ :: _) _; first | refine LQ.lss rfl rfl rfl ?_) | (show LQ _ _ _ _ _ _ (⟨_, .binOp .leq _ _ _ _, _, _, _, none⟩ :: _) _; first | refine LQ.leq rfl rfl rfl ?_) | (show LQ _ _ _ _ _ _ (⟨_, .binOp .gtr _ _ _ _, _, _, _, none⟩ :: _) _; first | refine LQ.gtr rfl rfl rfl ?_) | (show LQ _ _ _ _ _ _ (⟨_, .binOp .geq _ _ _ _, _, _, _, none⟩ :: _) _; first | refine LQ.geq rfl rfl rfl ?_))
      | (show LQ _ _ _ _ _ _ (⟨_, .call _, _, _, _, none⟩ :: _) _; first | refine LQ.len rfl rfl rfl ?_ | refine LQ.lenStr rfl rfl rfl ?_ | refine LQ.min rfl rfl rfl ?_ | refine LQ.max rfl rfl rfl ?_)
      | (show LQ _ _ _ _ _ _ (⟨_, _, _, _, _, none⟩ :: _) _; first | refine LQ.extract rfl rfl rfl ?_ | refine LQ.nilCheck rfl rfl ?_ | refine LQ.fieldAddr rfl rfl rfl rfl rfl ?_ | refine LQ.pickT rfl rfl rfl ?_ | refine LQ.pickF rfl rfl rfl ?_ | refine LQ.notDec rfl rfl ?_ | refine LQ.not rfl rfl ?_ | refine LQ.convSame rfl rfl rfl (wrap_i64 (by omega)) rfl ?_ | refine LQ.pure (fun _ hK => by cases hK; first | exact Pu.load rfl rfl rfl (by assumption) | exact Pu.load rfl rfl rfl (Row.cell (by assumption) (by rfl)) | exact Pu.idx1 rfl rfl rfl rfl (by omega)) rfl ?_)
      | (show LQ _ _ _ _ _ _ (⟨_, _, _, _, _, some _⟩ :: _) _; first | refine LQ.guard rfl rfl ?_ | refine LQ.guard_not rfl rfl rfl ?_ | refine LQ.gdec rfl rfl (fun hg => ?_) (fun hg => ?_)))
    refine LQ.nil ?_
    rintro _ rfl
    repeat (first
      | refine L.move rfl rfl ?_
      | refine L.assign rfl rfl ?_
      | (show L _ _ _ _ _ (⟨_, .binOp _ _ _ _ _, _, _, _, none⟩ :: _) _ _; first | (show L _ _ _ _ _ (⟨_, .binOp .add _ _ _ _, _, _, _, none⟩ :: _) _ _; first | refine L.addI rfl rfl (by omega) rfl ?_) | (show L _ _ _ _ _ (⟨_, .binOp .sub _ _ _ _, _, _, _, none⟩ :: _) _ _; first | refine L.subI rfl rfl (by omega) rfl ?_) | (show L _ _ _ _ _ (⟨_, .binOp .mul _ _ _ _, _, _, _, none⟩ :: _) _ _; first | refine L.mulI rfl rfl (by omega) rfl ?_) | (show L _ _ _ _ _ (⟨_, .binOp .eql _ _ _ _, _, _, _, none⟩ :: _) _ _; first | refine L.eql rfl rfl rfl ?_ | refine L.eqlS rfl rfl rfl ?_ | refine L.eqlNil rfl rfl rfl ?_ | refine L.eqlB rfl rfl rfl rfl ?_) | (show L _ _ _ _ _ (⟨_, .binOp .neq _ _ _ _, _, _, _, none⟩ :: _) _ _; first | refine L.neq rfl rfl rfl ?_ | refine L.neqS rfl rfl rfl ?_ | refine L.neqNil rfl rfl rfl ?_ | refine L.neqB rfl rfl rfl rfl ?_) | (show L _ _ _ _ _ (⟨_, .binOp .lss _ _ _ _, _, _, _, none⟩ :: _) _ _; first | refine L.lss rfl rfl rfl ?_) | (show L _ _ _ _ _ (⟨_, .binOp .leq _ _ _ _, _, _, _, none⟩ :: _) _ _; first | refine L.leq rfl rfl rfl ?_) | (show L _ _ _ _ _ (⟨_, .binOp .gtr _ _ _ _, _, _, _, none⟩ :: _) _ _; first | refine L.gtr rfl rfl rfl ?_) | (show L _ _ _ _ _ (⟨_, .binOp .geq _ _ _ _, _, _, _, none⟩ :: _) _ _; first | refine L.geq rfl rfl rfl ?_))
      | (show L _ _ _ _ _ (⟨_, .call _, _, _, _, none⟩ :: _) _ _; first | refine L.len rfl rfl rfl ?_ | refine L.lenStr rfl rfl rfl ?_ | refine L.min rfl rfl rfl ?_ | refine L.max rfl rfl rfl ?_)
      | (show L _ _ _ _ _ (⟨_, _, _, _, _, none⟩ :: _) _ _; first | refine L.extract rfl rfl rfl ?_ | refine L.nilCheck rfl rfl ?_ | refine L.fieldAddr rfl rfl rfl rfl rfl ?_ | refine L.load rfl rfl rfl (by assumption) rfl ?_ | refine L.load rfl rfl rfl (Row.cell (by assumption) (by rfl)) rfl ?_ | refine L.pickT rfl rfl rfl ?_ | refine L.pickF rfl rfl rfl ?_ | refine L.notDec rfl rfl ?_ | refine L.not rfl rfl ?_ | refine L.convSame rfl rfl rfl (wrap_i64 (by omega)) rfl ?_)
      | (show L _ _ _ _ _ (⟨_, _, _, _, _, some _⟩ :: _) _ _; first | refine L.guard rfl rfl ?_ | refine L.guard_not rfl rfl rfl ?_)
      | refine L.nil ?_
      | (show N _ _ _ _ _; first | refine N.then_normal ?_ | refine N.wp ?_ | refine N.then_ret ?_ | refine N.block_normal ?_ | refine N.block_ret ?_ | refine N.then_exit ?_ | refine N.block_same ?_ | refine N.block_other rfl ?_)
      | (show C _ _ _ _ _ _ _; first | refine C.seq ?_ | refine C.region ?_ | refine C.skip ?_ | refine C.ret ?_ | refine C.block ?_ | refine C.exit ?_ | refine C.tt rfl ?_ | refine C.ff rfl ?_))
    exact N.ret2 rfl rfl rfl ⟨by rw [List.getElem?_eq_getElem hk], rfl⟩
theorem byte_spec (r : Nat) (v : Value) (l : List UInt8) (k : Nat) (h : Heap) (hr : Reader h r v l k) :
    Meets Try.prog 27 #[ptr r] h (fun u h' => match l[k]? with
      | none => u = .tuple #[.int .u8 0, .int .i64 10] ∧ h = h'
      | some c => u = .tuple #[u8 c, .int .i64 0] ∧ Reader h' r v l (k + 1) ∧ ExtX r h h' ∧ h'.size = h.size) := by
  have hr' := hr
  obtain ⟨row, data, le, ap⟩ := hr
  obtain ⟨a, c, hv, h1, h2⟩ := data.slice
  have hm := maxLen_le h2
  refine Meets.intro (n := _) Try.func27 rfl Try.ntmps27 rfl fun σ => ?_
  repeat (first
    | refine L.move rfl rfl ?_
    | refine L.assign rfl rfl ?_
    | (show L _ _ _ _ _ (⟨_, .binOp _ _ _ _ _, _, _, _, none⟩ :: _) _ _; first | (show L _ _ _ _ _ (⟨_, .binOp .add _ _ _ _, _, _, _, none⟩ :: _) _ _; first | refine L.addI rfl rfl (by omega) rfl ?_) | (show L _ _ _ _ _ (⟨_, .binOp .sub _ _ _ _, _, _, _, none⟩ :: _) _ _; first | refine L.subI rfl rfl (by omega) rfl ?_) | (show L _ _ _ _ _ (⟨_, .binOp .mul _ _ _ _, _, _, _, none⟩ :: _) _ _; first | refine L.mulI rfl rfl (by omega) rfl ?_) | (show L _ _ _ _ _ (⟨_, .binOp .eql _ _ _ _, _, _, _, none⟩ :: _) _ _; first | refine L.eql rfl rfl rfl ?_ | refine L.eqlS rfl rfl rfl ?_ | refine L.eqlNil rfl rfl rfl ?_ | refine L.eqlB rfl rfl rfl rfl ?_) | (show L _ _ _ _ _ (⟨_, .binOp .neq _ _ _ _, _, _, _, none⟩ :: _) _ _; first | refine L.neq rfl rfl rfl ?_ | refine L.neqS rfl rfl rfl ?_ | refine L.neqNil rfl rfl rfl ?_ | refine L.neqB rfl rfl rfl rfl ?_) | (show L _ _ _ _ _ (⟨_, .binOp .lss _ _ _ _, _, _, _, none⟩ :: _) _ _; first | refine L.lss rfl rfl rfl ?_) | (show L _ _ _ _ _ (⟨_, .binOp .leq _ _ _ _, _, _, _, none⟩ :: _) _ _; first | refine L.leq rfl rfl rfl ?_) | (show L _ _ _ _ _ (⟨_, .binOp .gtr _ _ _ _, _, _, _, none⟩ :: _) _ _; first | refine L.gtr rfl rfl rfl ?_) | (show L _ _ _ _ _ (⟨_, .binOp .geq _ _ _ _, _, _, _, none⟩ :: _) _ _; first | refine L.geq rfl rfl rfl ?_))
    | (show L _ _ _ _ _ (⟨_, .call _, _, _, _, none⟩ :: _) _ _; first | refine L.len rfl rfl rfl ?_ | refine L.lenStr rfl rfl rfl ?_ | refine L.min rfl rfl rfl ?_ | refine L.max rfl rfl rfl ?_)
    | (show L _ _ _ _ _ (⟨_, _, _, _, _, none⟩ :: _) _ _; first | refine L.extract rfl rfl rfl ?_ | refine L.nilCheck rfl rfl ?_ | refine L.fieldAddr rfl rfl rfl rfl rfl ?_ | refine L.load rfl rfl rfl (by assumption) rfl ?_ | refine L.load rfl rfl rfl (Row.cell (by assumption) (by rfl)) rfl ?_ | refine L.pickT rfl rfl rfl ?_ | refine L.pickF rfl rfl rfl ?_ | refine L.notDec rfl rfl ?_ | refine L.not rfl rfl ?_ | refine L.convSame rfl rfl rfl (wrap_i64 (by omega)) rfl ?_)
    | (show L _ _ _ _ _ (⟨_, _, _, _, _, some _⟩ :: _) _ _; first | refine L.guard rfl rfl ?_ | refine L.guard_not rfl rfl rfl ?_)
    | refine L.nil ?_
    | (show N _ _ _ _ _; first | refine N.then_normal ?_ | refine N.wp ?_ | refine N.then_ret ?_ | refine N.block_normal ?_ | refine N.block_ret ?_ | refine N.then_exit ?_ | refine N.block_same ?_ | refine N.block_other rfl ?_)
    | (show C _ _ _ _ _ _ _; first | refine C.seq ?_ | refine C.region ?_ | refine C.skip ?_ | refine C.ret ?_ | refine C.block ?_ | refine C.exit ?_ | refine C.tt rfl ?_ | refine C.ff rfl ?_))
  refine L.call (Enters.func rfl Try.call26) rfl (peek_spec _ _ _ _ _ hr') ?_
  rintro _ _ ⟨rfl, rfl⟩
  cases hx : l[k]? with
  | none =>
    repeat (first
      | refine L.move rfl rfl ?_
      | refine L.assign rfl rfl ?_
      | (show L _ _ _ _ _ (⟨_, .binOp _ _ _ _ _, _, _, _, none⟩ :: _) _ _; first | (show L _ _ _ _ _ (⟨_, .binOp .add _ _ _ _, _, _, _, none⟩ :: _) _ _; first | refine L.addI rfl rfl (by omega) rfl ?_) | (show L _ _ _ _ _ (⟨_, .binOp .sub _ _ _ _, _, _, _, none⟩ :: _) _ _; first | refine L.subI rfl rfl (by omega) rfl ?_) | (show L _ _ _ _ _ (⟨_, .binOp .mul _ _ _ _, _, _, _, none⟩ :: _) _ _; first | refine L.mulI rfl rfl (by omega) rfl ?_) | (show L _ _ _ _ _ (⟨_, .binOp .eql _ _ _ _, _, _, _, none⟩ :: _) _ _; first | refine L.eql rfl rfl rfl ?_ | refine L.eqlS rfl rfl rfl ?_ | refine L.eqlNil rfl rfl rfl ?_ | refine L.eqlB rfl rfl rfl rfl ?_) | (show L _ _ _ _ _ (⟨_, .binOp .neq _ _ _ _, _, _, _, none⟩ :: _) _ _; first | refine L.neq rfl rfl rfl ?_ | refine L.neqS rfl rfl rfl ?_ | refine L.neqNil rfl rfl rfl ?_ | refine L.neqB rfl rfl rfl rfl ?_) | (show L _ _ _ _ _ (⟨_, .binOp .lss _ _ _ _, _, _, _, none⟩ :: _) _ _; first | refine L.lss rfl rfl rfl ?_) | (show L _ _ _ _ _ (⟨_, .binOp .leq _ _ _ _, _, _, _, none⟩ :: _) _ _; first | refine L.leq rfl rfl rfl ?_) | (show L _ _ _ _ _ (⟨_, .binOp .gtr _ _ _ _, _, _, _, none⟩ :: _) _ _; first | refine L.gtr rfl rfl rfl ?_) | (show L _ _ _ _ _ (⟨_, .binOp .geq _ _ _ _, _, _, _, none⟩ :: _) _ _; first | refine L.geq rfl rfl rfl ?_))
      | (show L _ _ _ _ _ (⟨_, .call _, _, _, _, none⟩ :: _) _ _; first | refine L.len rfl rfl rfl ?_ | refine L.lenStr rfl rfl rfl ?_ | refine L.min rfl rfl rfl ?_ | refine L.max rfl rfl rfl ?_)
      | (show L _ _ _ _ _ (⟨_, _, _, _, _, none⟩ :: _) _ _; first | refine L.extract rfl rfl rfl ?_ | refine L.nilCheck rfl rfl ?_ | refine L.fieldAddr rfl rfl rfl rfl rfl ?_ | refine L.load rfl rfl rfl (by assumption) rfl ?_ | refine L.load rfl rfl rfl (Row.cell (by assumption) (by rfl)) rfl ?_ | refine L.pickT rfl rfl rfl ?_ | refine L.pickF rfl rfl rfl ?_ | refine L.notDec rfl rfl ?_ | refine L.not rfl rfl ?_ | refine L.convSame rfl rfl rfl (wrap_i64 (by omega)) rfl ?_)
      | (show L _ _ _ _ _ (⟨_, _, _, _, _, some _⟩ :: _) _ _; first | refine L.guard rfl rfl ?_ | refine L.guard_not rfl rfl rfl ?_)
      | refine L.nil ?_
      | (show N _ _ _ _ _; first | refine N.then_normal ?_ | refine N.wp ?_ | refine N.then_ret ?_ | refine N.block_normal ?_ | refine N.block_ret ?_ | refine N.then_exit ?_ | refine N.block_same ?_ | refine N.block_other rfl ?_)
      | (show C _ _ _ _ _ _ _; first | refine C.seq ?_ | refine C.region ?_ | refine C.skip ?_ | refine C.ret ?_ | refine C.block ?_ | refine C.exit ?_ | refine C.tt rfl ?_ | refine C.ff rfl ?_))
    exact N.ret2 rfl rfl rfl ⟨rfl, rfl⟩
  | some x =>
    have hk : k < l.length := (List.getElem?_eq_some_iff.1 hx).1
    repeat (first
      | refine L.move rfl rfl ?_
      | refine L.assign rfl rfl ?_
      | (show L _ _ _ _ _ (⟨_, .binOp _ _ _ _ _, _, _, _, none⟩ :: _) _ _; first | (show L _ _ _ _ _ (⟨_, .binOp .add _ _ _ _, _, _, _, none⟩ :: _) _ _; first | refine L.addI rfl rfl (by omega) rfl ?_) | (show L _ _ _ _ _ (⟨_, .binOp .sub _ _ _ _, _, _, _, none⟩ :: _) _ _; first | refine L.subI rfl rfl (by omega) rfl ?_) | (show L _ _ _ _ _ (⟨_, .binOp .mul _ _ _ _, _, _, _, none⟩ :: _) _ _; first | refine L.mulI rfl rfl (by omega) rfl ?_) | (show L _ _ _ _ _ (⟨_, .binOp .eql _ _ _ _, _, _, _, none⟩ :: _) _ _; first | refine L.eql rfl rfl rfl ?_ | refine L.eqlS rfl rfl rfl ?_ | refine L.eqlNil rfl rfl rfl ?_ | refine L.eqlB rfl rfl rfl rfl ?_) | (show L _ _ _ _ _ (⟨_, .binOp .neq _ _ _ _, _, _, _, none⟩ :: _) _ _; first | refine L.neq rfl rfl rfl ?_ | refine L.neqS rfl rfl rfl ?_ | refine L.neqNil rfl rfl rfl ?_ | refine L.neqB rfl rfl rfl rfl ?_) | (show L _ _ _ _ _ (⟨_, .binOp .lss _ _ _ _, _, _, _, none⟩ :: _) _ _; first | refine L.lss rfl rfl rfl ?_) | (show L _ _ _ _ _ (⟨_, .binOp .leq _ _ _ _, _, _, _, none⟩ :: _) _ _; first | refine L.leq rfl rfl rfl ?_) | (show L _ _ _ _ _ (⟨_, .binOp .gtr _ _ _ _, _, _, _, none⟩ :: _) _ _; first | refine L.gtr rfl rfl rfl ?_) | (show L _ _ _ _ _ (⟨_, .binOp .geq _ _ _ _, _, _, _, none⟩ :: _) _ _; first | refine L.geq rfl rfl rfl ?_))
      | (show L _ _ _ _ _ (⟨_, .call _, _, _, _, none⟩ :: _) _ _; first | refine L.len rfl rfl rfl ?_ | refine L.lenStr rfl rfl rfl ?_ | refine L.min rfl rfl rfl ?_ | refine L.max rfl rfl rfl ?_)
      | (show L _ _ _ _ _ (⟨_, _, _, _, _, none⟩ :: _) _ _; first | refine L.extract rfl rfl rfl ?_ | refine L.nilCheck rfl rfl ?_ | refine L.fieldAddr rfl rfl rfl rfl rfl ?_ | refine L.load rfl rfl rfl (by assumption) rfl ?_ | refine L.load rfl rfl rfl (Row.cell (by assumption) (by rfl)) rfl ?_ | refine L.pickT rfl rfl rfl ?_ | refine L.pickF rfl rfl rfl ?_ | refine L.notDec rfl rfl ?_ | refine L.not rfl rfl ?_ | refine L.convSame rfl rfl rfl (wrap_i64 (by omega)) rfl ?_)
      | (show L _ _ _ _ _ (⟨_, _, _, _, _, some _⟩ :: _) _ _; first | refine L.guard rfl rfl ?_ | refine L.guard_not rfl rfl rfl ?_)
      | refine L.nil ?_
      | (show N _ _ _ _ _; first | refine N.then_normal ?_ | refine N.wp ?_ | refine N.then_ret ?_ | refine N.block_normal ?_ | refine N.block_ret ?_ | refine N.then_exit ?_ | refine N.block_same ?_ | refine N.block_other rfl ?_)
      | (show C _ _ _ _ _ _ _; first | refine C.seq ?_ | refine C.region ?_ | refine C.skip ?_ | refine C.ret ?_ | refine C.block ?_ | refine C.exit ?_ | refine C.tt rfl ?_ | refine C.ff rfl ?_))
    refine L.eff0 (Eff.store rfl rfl rfl rfl row (by simp)) ?_
    rintro _ h3 ⟨e1, e2, e3⟩
    repeat (first
      | refine L.move rfl rfl ?_
      | refine L.assign rfl rfl ?_
      | (show L _ _ _ _ _ (⟨_, .binOp _ _ _ _ _, _, _, _, none⟩ :: _) _ _; first | (show L _ _ _ _ _ (⟨_, .binOp .add _ _ _ _, _, _, _, none⟩ :: _) _ _; first | refine L.addI rfl rfl (by omega) rfl ?_) | (show L _ _ _ _ _ (⟨_, .binOp .sub _ _ _ _, _, _, _, none⟩ :: _) _ _; first | refine L.subI rfl rfl (by omega) rfl ?_) | (show L _ _ _ _ _ (⟨_, .binOp .mul _ _ _ _, _, _, _, none⟩ :: _) _ _; first | refine L.mulI rfl rfl (by omega) rfl ?_) | (show L _ _ _ _ _ (⟨_, .binOp .eql _ _ _ _, _, _, _, none⟩ :: _) _ _; first | refine L.eql rfl rfl rfl ?_ | refine L.eqlS rfl rfl rfl ?_ | refine L.eqlNil rfl rfl rfl ?_ | refine L.eqlB rfl rfl rfl rfl ?_) | (show L _ _ _ _ _ (⟨_, .binOp .neq _ _ _ _, _, _, _, none⟩ :: _) _ _; first | refine L.neq rfl rfl rfl ?_ | refine L.neqS rfl rfl rfl ?_ | refine L.neqNil rfl rfl rfl ?_ | refine L.neqB rfl rfl rfl rfl ?_) | (show L _ _ _ _ _ (⟨_, .binOp .lss _ _ _ _, _, _, _, none⟩ :: _) _ _; first | refine L.lss rfl rfl rfl ?_) | (show L _ _ _ _ _ (⟨_, .binOp .leq _ _ _ _, _, _, _, none⟩ :: _) _ _; first | refine L.leq rfl rfl rfl ?_) | (show L _ _ _ _ _ (⟨_, .binOp .gtr _ _ _ _, _, _, _, none⟩ :: _) _ _; first | refine L.gtr rfl rfl rfl ?_) | (show L _ _ _ _ _ (⟨_, .binOp .geq _ _ _ _, _, _, _, none⟩ :: _) _ _; first | refine L.geq rfl rfl rfl ?_))
      | (show L _ _ _ _ _ (⟨_, .call _, _, _, _, none⟩ :: _) _ _; first | refine L.len rfl rfl rfl ?_ | refine L.lenStr rfl rfl rfl ?_ | refine L.min rfl rfl rfl ?_ | refine L.max rfl rfl rfl ?_)
      | (show L _ _ _ _ _ (⟨_, _, _, _, _, none⟩ :: _) _ _; first | refine L.extract rfl rfl rfl ?_ | refine L.nilCheck rfl rfl ?_ | refine L.fieldAddr rfl rfl rfl rfl rfl ?_ | refine L.load rfl rfl rfl (by assumption) rfl ?_ | refine L.load rfl rfl rfl (Row.cell (by assumption) (by rfl)) rfl ?_ | refine L.pickT rfl rfl rfl ?_ | refine L.pickF rfl rfl rfl ?_ | refine L.notDec rfl rfl ?_ | refine L.not rfl rfl ?_ | refine L.convSame rfl rfl rfl (wrap_i64 (by omega)) rfl ?_)
      | (show L _ _ _ _ _ (⟨_, _, _, _, _, some _⟩ :: _) _ _; first | refine L.guard rfl rfl ?_ | refine L.guard_not rfl rfl rfl ?_)
      | refine L.nil ?_
      | (show N _ _ _ _ _; first | refine N.then_normal ?_ | refine N.wp ?_ | refine N.then_ret ?_ | refine N.block_normal ?_ | refine N.block_ret ?_ | refine N.then_exit ?_ | refine N.block_same ?_ | refine N.block_other rfl ?_)
      | (show C _ _ _ _ _ _ _; first | refine C.seq ?_ | refine C.region ?_ | refine C.skip ?_ | refine C.ret ?_ | refine C.block ?_ | refine C.exit ?_ | refine C.tt rfl ?_ | refine C.ff rfl ?_))
    refine N.ret2 rfl rfl rfl ⟨rfl, ⟨e2, data.keep (by omega) (fun b hb hn _ => e3 b (fun e => ap (List.length_pos_iff.1 hn) (by rw [hb, e]))), by omega, ap⟩, ⟨by omega, fun j _ hj => e3 j hj⟩, e1⟩
end Go.Proofs.Ytpajhgnkagifbaa
