/- strings.Repeat of the shelf, laid at this program, in plain words (written by the kit's tool lay-plain). -/
import Derived.Shelf.Strings.Repeat
import Derived.Ground.NamesProg
import Derived.Test.YtniijfcjdlhfcaaProg
import Derived.Lib.Agree
import Derived.KernelRfl
set_option linter.all false
namespace Go.Proofs
open Go.Shelf
def Try.ownLaysRepeat_ren : Go.Shelf.Ren := ⟨fun | 105 => 23 | 212 => 33 | 99 => 34 | 165 => 35 | 166 => 36 | 170 => 37 | 169 => 38 | 263 => 41 | 264 => 42 | 206 => 43 | 240 => 44 | 241 => 45 | 276 => 48 | 277 => 49 | n => n, fun | 9 => 9 | 3 => 3 | 4 => 4 | 20 => 20 | 0 => 0 | 46 => 68 | 109 => 69 | 5 => 5 | 72 => 73 | 76 => 42 | 51 => 79 | 146 => 80 | 53 => 82 | 148 => 83 | 70 => 71 | 37 => 26 | 75 => 23 | 127 => 85 | 164 => 88 | 80 => 76 | n => n, fun | n => n⟩
theorem Try.ownLaysRepeat : Go.Proofs.Lays.n105 Try.prog Try.ownLaysRepeat_ren := {
  mixed := by kernel_rfl
  f99 := Try.func34.trans (congrArg some (by kernel_rfl))
  f105 := Try.func23.trans (congrArg some (by kernel_rfl))
  f165 := Try.func35.trans (congrArg some (by kernel_rfl))
  f166 := Try.func36.trans (congrArg some (by kernel_rfl))
  f169 := Try.func38.trans (congrArg some (by kernel_rfl))
  f170 := Try.func37.trans (congrArg some (by kernel_rfl))
  f206 := Try.func43.trans (congrArg some (by kernel_rfl))
  f212 := Try.func33.trans (congrArg some (by kernel_rfl))
  f240 := Try.func44.trans (congrArg some (by kernel_rfl))
  f241 := Try.func45.trans (congrArg some (by kernel_rfl))
  f263 := Try.func41.trans (congrArg some (by kernel_rfl))
  f264 := Try.func42.trans (congrArg some (by kernel_rfl))
  f276 := Try.func48.trans (congrArg some (by kernel_rfl))
  f277 := Try.func49.trans (congrArg some (by kernel_rfl))
  t0 := Try.underlying0
  a0 := Try.isAgg0
  z0 := Try.sizeOf0
  v0 := Try.zeroValue0
  t3 := Try.underlying3
  a3 := Try.isAgg3
  z3 := Try.sizeOf3
  v3 := Try.zeroValue3
  t4 := Try.underlying4
  a4 := Try.isAgg4
  z4 := Try.sizeOf4
  v4 := Try.zeroValue4
  t5 := Try.underlying5
  a5 := Try.isAgg5
  z5 := Try.sizeOf5
  v5 := Try.zeroValue5
  t9 := Try.underlying9
  a9 := Try.isAgg9
  z9 := Try.sizeOf9
  v9 := Try.zeroValue9
  t20 := Try.underlying20
  a20 := Try.isAgg20
  z20 := Try.sizeOf20
  v20 := Try.zeroValue20
  t37 := Try.underlying26
  a37 := Try.isAgg26
  z37 := Try.sizeOf26
  v37 := Try.zeroValue26
  t46 := Try.underlying68
  a46 := Try.isAgg68
  z46 := Try.sizeOf68
  v46 := Try.zeroValue68
  t51 := Try.underlying79
  a51 := Try.isAgg79
  z51 := Try.sizeOf79
  v51 := Try.zeroValue79
  t53 := Try.underlying82
  a53 := Try.isAgg82
  z53 := Try.sizeOf82
  v53 := Try.zeroValue82
  t70 := Try.underlying71
  a70 := Try.isAgg71
  z70 := Try.sizeOf71
  v70 := Try.zeroValue71
  t72 := Try.underlying73
  a72 := Try.isAgg73
  z72 := Try.sizeOf73
  v72 := Try.zeroValue73
  t75 := Try.underlying23
  a75 := Try.isAgg23
  z75 := Try.sizeOf23
  v75 := Try.zeroValue23
  t76 := Try.underlying42
  a76 := Try.isAgg42
  z76 := Try.sizeOf42
  v76 := Try.zeroValue42
  t109 := Try.underlying69
  a109 := Try.isAgg69
  z109 := Try.sizeOf69
  v109 := Try.zeroValue69
  t127 := Try.underlying85
  a127 := Try.isAgg85
  z127 := Try.sizeOf85
  v127 := Try.zeroValue85
  t146 := Try.underlying80
  a146 := Try.isAgg80
  z146 := Try.sizeOf80
  v146 := Try.zeroValue80
  t148 := Try.underlying83
  a148 := Try.isAgg83
  z148 := Try.sizeOf83
  v148 := Try.zeroValue83
  t164 := Try.underlying88
  a164 := Try.isAgg88
  z164 := Try.sizeOf88
  v164 := Try.zeroValue88 }
end Go.Proofs
