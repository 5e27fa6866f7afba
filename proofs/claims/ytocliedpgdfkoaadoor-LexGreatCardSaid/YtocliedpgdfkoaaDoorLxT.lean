/- strings.Repeat off the shelf. -/
import Derived.Test.YtocliedpgdfkoaaDoorT
import Derived.Test.YtocliedpgdfkoaaDoorV20
import Derived.Shelf.Strings.Repeat
import Derived.Shelf.Lay
import Derived.Ground.NamesProg
namespace Go.Proofs.YtocliedpgdfkoaaDoor
open Go.Shelf Go.RowKit
shelf_lay Lays.n105 Nm 105 at Tryd as Tryd.laysRepeat
theorem extraRepeat : Go.Proofs.Builder.Extra Tryd.prog Tryd.laysRepeat_ren where
  sizeBuilder := by kernel_rfl
  liesBuilder := by kernel_rfl
  t5 := Tryd.laysRepeat.t5
  a5 := Tryd.laysRepeat.a5
  z5 := Tryd.laysRepeat.z5
  v5 := Tryd.laysRepeat.v5
  infoByte := by kernel_rfl
  cellsByte := by kernel_rfl
  sizeByte := by kernel_rfl
  neB5 := by decide
open Go Go.E
theorem repeat_ok {ro : Ro} {own : Chs} {K : Value → Ro → Chs → Prop} {c : UInt8} {n : Nat} (hn : n ≤ 1000000) (hk : K (str (List.replicate n c)) ro own) : CallOk Tryd.prog 38 #[str [c], .int .i64 (n : Int)] ro own K := by
  refine CallOk.ofBelow Tryd.call38 (fun w => ?_) hk
  have h := Go.Proofs.Any.strings_Repeat Tryd.laysRepeat extraRepeat ⟨#[c]⟩ n w (by omega) (by show 1 * n ≤ _; omega)
  rw [show Tryd.laysRepeat_ren.f 105 = 38 by kernel_rfl] at h
  refine h.mono fun e w' ⟨he, hb⟩ => ⟨?_, hb⟩
  rw [he]
  have e2 : Lib.repeatL (ByteArray.mk #[c]).data.toList n = List.replicate n c := by
    have := Lib.repeatL_replicate c 1 n
    rw [Nat.mul_one] at this
    exact this
  rw [e2]
  rfl
end Go.Proofs.YtocliedpgdfkoaaDoor
