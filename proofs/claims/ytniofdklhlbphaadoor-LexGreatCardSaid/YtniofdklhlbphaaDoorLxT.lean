/- strings.Repeat off the shelf. -/
import Derived.Test.YtniofdklhlbphaaDoorT
import Derived.Test.YtniofdklhlbphaaDoorEn3
import Derived.Shelf.Strings.Repeat
import Derived.Ground.NamesProg
namespace Go.Proofs
open Go.Shelf
def Tryd.laysRepeat_ren : Go.Shelf.Ren := ⟨fun | 105 => 11 | 212 => 39 | 99 => 40 | 165 => 41 | 166 => 42 | 170 => 43 | 169 => 44 | 263 => 65 | 264 => 66 | 206 => 67 | 240 => 68 | 241 => 69 | 276 => 90 | 277 => 91 | n => n, fun | 9 => 9 | 3 => 3 | 4 => 4 | 20 => 20 | 0 => 0 | 46 => 80 | 109 => 81 | 5 => 5 | 72 => 87 | 76 => 91 | 51 => 114 | 146 => 115 | 53 => 38 | 148 => 117 | 70 => 84 | 37 => 85 | 75 => 90 | 127 => 119 | 164 => 129 | 80 => 93 | n => n, fun n => n⟩
theorem Tryd.laysRepeat : Go.Proofs.Lays.n105 Tryd.prog Tryd.laysRepeat_ren := {
  mixed := by kernel_rfl
  f99 := Tryd.func40.trans (congrArg some (by kernel_rfl))
  f105 := Tryd.func11.trans (congrArg some (by kernel_rfl))
  f165 := Tryd.func41.trans (congrArg some (by kernel_rfl))
  f166 := Tryd.func42.trans (congrArg some (by kernel_rfl))
  f169 := Tryd.func44.trans (congrArg some (by kernel_rfl))
  f170 := Tryd.func43.trans (congrArg some (by kernel_rfl))
  f206 := Tryd.func67.trans (congrArg some (by kernel_rfl))
  f212 := Tryd.func39.trans (congrArg some (by kernel_rfl))
  f240 := Tryd.func68.trans (congrArg some (by kernel_rfl))
  f241 := Tryd.func69.trans (congrArg some (by kernel_rfl))
  f263 := Tryd.func65.trans (congrArg some (by kernel_rfl))
  f264 := Tryd.func66.trans (congrArg some (by kernel_rfl))
  f276 := Tryd.func90.trans (congrArg some (by kernel_rfl))
  f277 := Tryd.func91.trans (congrArg some (by kernel_rfl))
  t0 := Tryd.underlying0
  a0 := Tryd.isAgg0
  z0 := Tryd.sizeOf0
  v0 := Tryd.zeroValue0
  t3 := Tryd.underlying3
  a3 := Tryd.isAgg3
  z3 := Tryd.sizeOf3
  v3 := Tryd.zeroValue3
  t4 := Tryd.underlying4
  a4 := Tryd.isAgg4
  z4 := Tryd.sizeOf4
  v4 := Tryd.zeroValue4
  t5 := Tryd.underlying5
  a5 := Tryd.isAgg5
  z5 := Tryd.sizeOf5
  v5 := Tryd.zeroValue5
  t9 := Tryd.underlying9
  a9 := Tryd.isAgg9
  z9 := Tryd.sizeOf9
  v9 := Tryd.zeroValue9
  t20 := Tryd.underlying20
  a20 := Tryd.isAgg20
  z20 := Tryd.sizeOf20
  v20 := Tryd.zeroValue20
  t37 := Tryd.underlying85
  a37 := Tryd.isAgg85
  z37 := Tryd.sizeOf85
  v37 := Tryd.zeroValue85
  t46 := Tryd.underlying80
  a46 := Tryd.isAgg80
  z46 := Tryd.sizeOf80
  v46 := Tryd.zeroValue80
  t51 := Tryd.underlying114
  a51 := Tryd.isAgg114
  z51 := Tryd.sizeOf114
  v51 := Tryd.zeroValue114
  t53 := Tryd.underlying38
  a53 := Tryd.isAgg38
  z53 := Tryd.sizeOf38
  v53 := Tryd.zeroValue38
  t70 := Tryd.underlying84
  a70 := Tryd.isAgg84
  z70 := Tryd.sizeOf84
  v70 := Tryd.zeroValue84
  t72 := Tryd.underlying87
  a72 := Tryd.isAgg87
  z72 := Tryd.sizeOf87
  v72 := Tryd.zeroValue87
  t75 := Tryd.underlying90
  a75 := Tryd.isAgg90
  z75 := Tryd.sizeOf90
  v75 := Tryd.zeroValue90
  t76 := Tryd.underlying91
  a76 := Tryd.isAgg91
  z76 := Tryd.sizeOf91
  v76 := Tryd.zeroValue91
  t109 := Tryd.underlying81
  a109 := Tryd.isAgg81
  z109 := Tryd.sizeOf81
  v109 := Tryd.zeroValue81
  t127 := Tryd.underlying119
  a127 := Tryd.isAgg119
  z127 := Tryd.sizeOf119
  v127 := Tryd.zeroValue119
  t146 := Tryd.underlying115
  a146 := Tryd.isAgg115
  z146 := Tryd.sizeOf115
  v146 := Tryd.zeroValue115
  t148 := Tryd.underlying117
  a148 := Tryd.isAgg117
  z148 := Tryd.sizeOf117
  v148 := Tryd.zeroValue117
  t164 := Tryd.underlying129
  a164 := Tryd.isAgg129
  z164 := Tryd.sizeOf129
  v164 := Tryd.zeroValue129 }
end Go.Proofs
namespace Go.Proofs.YtniofdklhlbphaaDoor
open Go.Shelf Go.RowKit
theorem extraRepeat : Go.Proofs.Builder.Extra Tryd.prog Tryd.laysRepeat_ren where
  sizeBuilder := by kernel_rfl
  liesBuilder := by kernel_rfl
  t5 := Tryd.laysRepeat.t5
  a5 := Tryd.laysRepeat.a5
  z5 := Tryd.laysRepeat.z5
  v5 := Tryd.laysRepeat.v5
  infoByte := by kernel_rfl
  cellsByte := by kernel_rfl
  sizeByte := by kernel_rfl
  neB5 := by decide
open Go Go.E
theorem repeat_ok {ro : Ro} {own : Chs} {K : Value → Ro → Chs → Prop} {c : UInt8} {n : Nat} (hn : n ≤ 1000000) (hk : K (str (List.replicate n c)) ro own) : CallOk Tryd.prog 11 #[str [c], .int .i64 (n : Int)] ro own K := by
  refine CallOk.ofBelow Tryd.call11 (fun w => ?_) hk
  have h := Go.Proofs.Any.strings_Repeat Tryd.laysRepeat extraRepeat ⟨#[c]⟩ n w (by omega) (by show 1 * n ≤ _; omega)
  rw [show Tryd.laysRepeat_ren.f 105 = 11 by kernel_rfl] at h
  refine h.mono fun e w' ⟨he, hb⟩ => ⟨?_, hb⟩
  rw [he]
  have e2 : Lib.repeatL (ByteArray.mk #[c]).data.toList n = List.replicate n c := by
    have := Lib.repeatL_replicate c 1 n
    rw [Nat.mul_one] at this
    exact this
  rw [e2]
  rfl
end Go.Proofs.YtniofdklhlbphaaDoor
