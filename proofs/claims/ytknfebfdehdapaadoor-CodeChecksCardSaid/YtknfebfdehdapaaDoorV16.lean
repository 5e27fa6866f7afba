/- Slices cut, read whatever they are. No program in sight. -/
import Derived.Test.YtknfebfdehdapaaDoorCB
namespace Go.E
open Go
set_option linter.unusedVariables false
theorem Rds.cutI {ro : Ro} {own : Chs} {a : Option Addr} {n c s : Nat} {cs : List Value} (hr : Rds ro own a n c s cs) {lo hi : Int} (h : 0 ≤ lo ∧ lo ≤ hi ∧ hi ≤ n) : Rds ro own (cutA a lo.toNat c s) (hi.toNat - lo.toNat) (c - lo.toNat) s ((cs.drop (lo.toNat * s)).take ((hi.toNat - lo.toNat) * s)) := by
  have hl := hr.len
  have h2 : hi.toNat * s ≤ n * s := Nat.mul_le_mul_right s (by omega)
  have h3 : (hi.toNat - lo.toNat) * s = hi.toNat * s - lo.toNat * s := Nat.sub_mul _ _ s
  refine ⟨fun h' hs => ?_, by rw [List.length_take, List.length_drop]; omega, by have := hr.le; omega, by have := hr.max; omega⟩
  have := (hr.run h' hs).cut (s := s) (l := lo.toNat) (m := hi.toNat) (by omega) (by omega)
  rw [sliced_eq] at this
  exact this
theorem LdN.atR {ro ro' : Ro} {own own' : Chs} {a : Option Addr} {n c s k z o : Nat} {cs vs : List Value} (hr : Rds ro own a n c s cs) (hd : (cs.drop k).take z = vs) (ho : o = ao a + k) [hl : Leq ro ro'] [hp : Suf own' own] : LdN ro' own' (ab a) o vs := by
  subst ho; subst hd; exact LdN.rds hr
theorem Ld.atR {ro ro' : Ro} {own own' : Chs} {a : Option Addr} {n c s k o : Nat} {cs : List Value} {v : Value} (hr : Rds ro own a n c s cs) (hv : cs[k]? = some v) (ho : o = ao a + k) [hl : Leq ro ro'] [hp : Suf own' own] : Ld ro' own' (ab a) o v := by
  subst ho; exact Ld.rds hr hv
end Go.E
