/- strings.Repeat of the shelf, laid at the Door's program, in plain words (written by the kit's tool lay-plain). -/
import Derived.Shelf.Strings.Repeat
import Derived.Ground.NamesProg
import Derived.Test.YtniijfcjdlhfcaaDoorProg
import Derived.Lib.Agree
import Derived.KernelRfl
set_option linter.all false
namespace Go.Proofs
open Go.Shelf
def Tryd.ownLaysRepeat_ren : Go.Shelf.Ren := ⟨fun | 105 => 46 | 212 => 70 | 99 => 66 | 165 => 71 | 166 => 62 | 170 => 63 | 169 => 64 | 263 => 88 | 264 => 89 | 206 => 84 | 240 => 77 | 241 => 90 | 276 => 99 | 277 => 112 | n => n, fun | 9 => 9 | 3 => 3 | 4 => 4 | 20 => 20 | 0 => 0 | 46 => 114 | 109 => 115 | 5 => 5 | 72 => 106 | 76 => 52 | 51 => 139 | 146 => 140 | 53 => 142 | 148 => 143 | 70 => 104 | 37 => 81 | 75 => 27 | 127 => 124 | 164 => 125 | 80 => 96 | n => n, fun | n => n⟩
theorem Tryd.ownLaysRepeat : Go.Proofs.Lays.n105 Tryd.prog Tryd.ownLaysRepeat_ren := {
  mixed := by kernel_rfl
  f99 := Tryd.func66.trans (congrArg some (by kernel_rfl))
  f105 := Tryd.func46.trans (congrArg some (by kernel_rfl))
  f165 := Tryd.func71.trans (congrArg some (by kernel_rfl))
  f166 := Tryd.func62.trans (congrArg some (by kernel_rfl))
  f169 := Tryd.func64.trans (congrArg some (by kernel_rfl))
  f170 := Tryd.func63.trans (congrArg some (by kernel_rfl))
  f206 := Tryd.func84.trans (congrArg some (by kernel_rfl))
  f212 := Tryd.func70.trans (congrArg some (by kernel_rfl))
  f240 := Tryd.func77.trans (congrArg some (by kernel_rfl))
  f241 := Tryd.func90.trans (congrArg some (by kernel_rfl))
  f263 := Tryd.func88.trans (congrArg some (by kernel_rfl))
  f264 := Tryd.func89.trans (congrArg some (by kernel_rfl))
  f276 := Tryd.func99.trans (congrArg some (by kernel_rfl))
  f277 := Tryd.func112.trans (congrArg some (by kernel_rfl))
  t0 := Tryd.underlying0
  a0 := Tryd.isAgg0
  z0 := Tryd.sizeOf0
  v0 := Tryd.zeroValue0
  t3 := Tryd.underlying3
  a3 := Tryd.isAgg3
  z3 := Tryd.sizeOf3
  v3 := Tryd.zeroValue3
  t4 := Tryd.underlying4
  a4 := Tryd.isAgg4
  z4 := Tryd.sizeOf4
  v4 := Tryd.zeroValue4
  t5 := Tryd.underlying5
  a5 := Tryd.isAgg5
  z5 := Tryd.sizeOf5
  v5 := Tryd.zeroValue5
  t9 := Tryd.underlying9
  a9 := Tryd.isAgg9
  z9 := Tryd.sizeOf9
  v9 := Tryd.zeroValue9
  t20 := Tryd.underlying20
  a20 := Tryd.isAgg20
  z20 := Tryd.sizeOf20
  v20 := Tryd.zeroValue20
  t37 := Tryd.underlying81
  a37 := Tryd.isAgg81
  z37 := Tryd.sizeOf81
  v37 := Tryd.zeroValue81
  t46 := Tryd.underlying114
  a46 := Tryd.isAgg114
  z46 := Tryd.sizeOf114
  v46 := Tryd.zeroValue114
  t51 := Tryd.underlying139
  a51 := Tryd.isAgg139
  z51 := Tryd.sizeOf139
  v51 := Tryd.zeroValue139
  t53 := Tryd.underlying142
  a53 := Tryd.isAgg142
  z53 := Tryd.sizeOf142
  v53 := Tryd.zeroValue142
  t70 := Tryd.underlying104
  a70 := Tryd.isAgg104
  z70 := Tryd.sizeOf104
  v70 := Tryd.zeroValue104
  t72 := Tryd.underlying106
  a72 := Tryd.isAgg106
  z72 := Tryd.sizeOf106
  v72 := Tryd.zeroValue106
  t75 := Tryd.underlying27
  a75 := Tryd.isAgg27
  z75 := Tryd.sizeOf27
  v75 := Tryd.zeroValue27
  t76 := Tryd.underlying52
  a76 := Tryd.isAgg52
  z76 := Tryd.sizeOf52
  v76 := Tryd.zeroValue52
  t109 := Tryd.underlying115
  a109 := Tryd.isAgg115
  z109 := Tryd.sizeOf115
  v109 := Tryd.zeroValue115
  t127 := Tryd.underlying124
  a127 := Tryd.isAgg124
  z127 := Tryd.sizeOf124
  v127 := Tryd.zeroValue124
  t146 := Tryd.underlying140
  a146 := Tryd.isAgg140
  z146 := Tryd.sizeOf140
  v146 := Tryd.zeroValue140
  t148 := Tryd.underlying143
  a148 := Tryd.isAgg143
  z148 := Tryd.sizeOf143
  v148 := Tryd.zeroValue143
  t164 := Tryd.underlying125
  a164 := Tryd.isAgg125
  z164 := Tryd.sizeOf125
  v164 := Tryd.zeroValue125 }
end Go.Proofs
