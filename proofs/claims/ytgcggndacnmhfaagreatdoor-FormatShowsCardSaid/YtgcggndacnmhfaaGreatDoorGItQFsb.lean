/- Several texts of mine in one (ItQ, Itd, Fct, Fsa, Fsb). Own work. -/
import Derived.Shelf.LaysM
import Derived.Ground.NamesProg
import Derived.Test.YtgcggndacnmhfaaGreatDoorProg
import Derived.Test.YtgcggndacnmhfaaGreatDoorGErrRt0
import Derived.Lib.ItoaNum
import Derived.Test.YtgcggndacnmhfaaGreatDoorToldQ
import Derived.Test.YtgcggndacnmhfaaGreatDoorGFs0Fs4
import Derived.Test.YtgcggndacnmhfaaGreatDoorGAm23Bc
import Derived.Shelf.Strconv.Itoa3
import Derived.Shelf.Strings.Repeat
import Derived.Shelf.Strings.Cut
import Derived.Shelf.Strings.Trim
import Derived.Lib.AppendIntMem
import Derived.Lib.Agree
import Derived.KernelRfl
set_option linter.all false
namespace Go.Proofs
open Go.Shelf
def Tryz.ownItoa_ren : Go.Shelf.Ren:=⟨fun | 171=>30 | 243=>47 | 246=>66 | 283=>48 | 284=>49 | 285=>50 | 286=>51 | 129=>68 | 317=>67 | 318=>69 | 319=>70 | 320=>71 | 337=>78 | 338=>79 | n=>n,fun | 3=>3 | 9=>9 | 2=>2 | 4=>4 | 171=>98 | 0=>0 | 53=>52 | 37=>73 | 5=>5 | 173=>101 | 212=>132 | 51=>80 | 20=>20 | 213=>133 | 46=>68 | 232=>146 | 233=>147 | n=>n,fun | 17=>2 | 18=>4 | 19=>5 | n=>n⟩
theorem Tryz.ownItoa : Go.Proofs.LaysM.n171 Tryz.prog Tryz.ownItoa_ren:={
 mixed:=by kernel_rfl
 f129:=Tryz.func68.trans (congrArg some (by kernel_rfl))
 f171:=Tryz.func30.trans (congrArg some (by kernel_rfl))
 f243:=Tryz.func47.trans (congrArg some (by kernel_rfl))
 f246:=Tryz.func66.trans (congrArg some (by kernel_rfl))
 f283:=Tryz.func48.trans (congrArg some (by kernel_rfl))
 f284:=Tryz.func49.trans (congrArg some (by kernel_rfl))
 f285:=Tryz.func50.trans (congrArg some (by kernel_rfl))
 f286:=Tryz.func51.trans (congrArg some (by kernel_rfl))
 f317:=Tryz.func67.trans (congrArg some (by kernel_rfl))
 f318:=Tryz.func69.trans (congrArg some (by kernel_rfl))
 f319:=Tryz.func70.trans (congrArg some (by kernel_rfl))
 f320:=Tryz.func71.trans (congrArg some (by kernel_rfl))
 f337:=Tryz.func78.trans (congrArg some (by kernel_rfl))
 f338:=Tryz.func79.trans (congrArg some (by kernel_rfl))
 t0:=Tryz.underlying0
 a0:=Tryz.isAgg0
 z0:=Tryz.sizeOf0
 v0:=Tryz.zeroValue0
 t2:=Tryz.underlying2
 a2:=Tryz.isAgg2
 z2:=Tryz.sizeOf2
 v2:=Tryz.zeroValue2
 t3:=Tryz.underlying3
 a3:=Tryz.isAgg3
 z3:=Tryz.sizeOf3
 v3:=Tryz.zeroValue3
 t4:=Tryz.underlying4
 a4:=Tryz.isAgg4
 z4:=Tryz.sizeOf4
 v4:=Tryz.zeroValue4
 t5:=Tryz.underlying5
 a5:=Tryz.isAgg5
 z5:=Tryz.sizeOf5
 v5:=Tryz.zeroValue5
 t9:=Tryz.underlying9
 a9:=Tryz.isAgg9
 z9:=Tryz.sizeOf9
 v9:=Tryz.zeroValue9
 t20:=Tryz.underlying20
 a20:=Tryz.isAgg20
 z20:=Tryz.sizeOf20
 v20:=Tryz.zeroValue20
 t37:=Tryz.underlying73
 a37:=Tryz.isAgg73
 z37:=Tryz.sizeOf73
 v37:=Tryz.zeroValue73
 t46:=Tryz.underlying68
 a46:=Tryz.isAgg68
 z46:=Tryz.sizeOf68
 v46:=Tryz.zeroValue68
 t51:=Tryz.underlying80
 a51:=Tryz.isAgg80
 z51:=Tryz.sizeOf80
 v51:=Tryz.zeroValue80
 t53:=Tryz.underlying52
 a53:=Tryz.isAgg52
 z53:=Tryz.sizeOf52
 v53:=Tryz.zeroValue52
 t171:=Tryz.underlying98
 a171:=Tryz.isAgg98
 z171:=Tryz.sizeOf98
 v171:=Tryz.zeroValue98
 t173:=Tryz.underlying101
 a173:=Tryz.isAgg101
 z173:=Tryz.sizeOf101
 v173:=Tryz.zeroValue101
 t212:=Tryz.underlying132
 a212:=Tryz.isAgg132
 z212:=Tryz.sizeOf132
 v212:=Tryz.zeroValue132
 t213:=Tryz.underlying133
 a213:=Tryz.isAgg133
 z213:=Tryz.sizeOf133
 t232:=Tryz.underlying146
 a232:=Tryz.isAgg146
 z232:=Tryz.sizeOf146
 v232:=Tryz.zeroValue146
 t233:=Tryz.underlying147
 a233:=Tryz.isAgg147
 z233:=Tryz.sizeOf147
 v233:=Tryz.zeroValue147
 g17:=by kernel_rfl
 g18:=by kernel_rfl
 g19:=by kernel_rfl
 i0:=by kernel_rfl
 i2:=by kernel_rfl
 i3:=by kernel_rfl
 i4:=by kernel_rfl
 i5:=by kernel_rfl
 i9:=by kernel_rfl
 i20:=by kernel_rfl
 i37:=by kernel_rfl
 i46:=by kernel_rfl
 i51:=by kernel_rfl
 i53:=by kernel_rfl
 i171:=by kernel_rfl
 i173:=by kernel_rfl
 i212:=by kernel_rfl
 i232:=by kernel_rfl
 i233:=by kernel_rfl
 m17:=by kernel_rfl
 m18:=by kernel_rfl
 m19:=by kernel_rfl }
def Tryz.ownRepeat_ren : Go.Shelf.Ren:=⟨fun | 105=>21 | 212=>32 | 99=>33 | 165=>34 | 166=>35 | 170=>36 | 169=>37 | 263=>52 | 264=>53 | 206=>54 | 240=>55 | 241=>56 | 276=>72 | 277=>73 | n=>n,fun | 9=>9 | 3=>3 | 4=>4 | 20=>20 | 0=>0 | 46=>68 | 109=>69 | 5=>5 | 72=>75 | 76=>77 | 51=>80 | 146=>103 | 53=>52 | 148=>105 | 70=>72 | 37=>73 | 75=>32 | 127=>107 | 164=>85 | 80=>45 | n=>n,fun | n=>n⟩
theorem Tryz.ownRepeat : Go.Proofs.Lays.n105 Tryz.prog Tryz.ownRepeat_ren:={
 mixed:=by kernel_rfl
 f99:=Tryz.func33.trans (congrArg some (by kernel_rfl))
 f105:=Tryz.func21.trans (congrArg some (by kernel_rfl))
 f165:=Tryz.func34.trans (congrArg some (by kernel_rfl))
 f166:=Tryz.func35.trans (congrArg some (by kernel_rfl))
 f169:=Tryz.func37.trans (congrArg some (by kernel_rfl))
 f170:=Tryz.func36.trans (congrArg some (by kernel_rfl))
 f206:=Tryz.func54.trans (congrArg some (by kernel_rfl))
 f212:=Tryz.func32.trans (congrArg some (by kernel_rfl))
 f240:=Tryz.func55.trans (congrArg some (by kernel_rfl))
 f241:=Tryz.func56.trans (congrArg some (by kernel_rfl))
 f263:=Tryz.func52.trans (congrArg some (by kernel_rfl))
 f264:=Tryz.func53.trans (congrArg some (by kernel_rfl))
 f276:=Tryz.func72.trans (congrArg some (by kernel_rfl))
 f277:=Tryz.func73.trans (congrArg some (by kernel_rfl))
 t0:=Tryz.underlying0
 a0:=Tryz.isAgg0
 z0:=Tryz.sizeOf0
 v0:=Tryz.zeroValue0
 t3:=Tryz.underlying3
 a3:=Tryz.isAgg3
 z3:=Tryz.sizeOf3
 v3:=Tryz.zeroValue3
 t4:=Tryz.underlying4
 a4:=Tryz.isAgg4
 z4:=Tryz.sizeOf4
 v4:=Tryz.zeroValue4
 t5:=Tryz.underlying5
 a5:=Tryz.isAgg5
 z5:=Tryz.sizeOf5
 v5:=Tryz.zeroValue5
 t9:=Tryz.underlying9
 a9:=Tryz.isAgg9
 z9:=Tryz.sizeOf9
 v9:=Tryz.zeroValue9
 t20:=Tryz.underlying20
 a20:=Tryz.isAgg20
 z20:=Tryz.sizeOf20
 v20:=Tryz.zeroValue20
 t37:=Tryz.underlying73
 a37:=Tryz.isAgg73
 z37:=Tryz.sizeOf73
 v37:=Tryz.zeroValue73
 t46:=Tryz.underlying68
 a46:=Tryz.isAgg68
 z46:=Tryz.sizeOf68
 v46:=Tryz.zeroValue68
 t51:=Tryz.underlying80
 a51:=Tryz.isAgg80
 z51:=Tryz.sizeOf80
 v51:=Tryz.zeroValue80
 t53:=Tryz.underlying52
 a53:=Tryz.isAgg52
 z53:=Tryz.sizeOf52
 v53:=Tryz.zeroValue52
 t70:=Tryz.underlying72
 a70:=Tryz.isAgg72
 z70:=Tryz.sizeOf72
 v70:=Tryz.zeroValue72
 t72:=Tryz.underlying75
 a72:=Tryz.isAgg75
 z72:=Tryz.sizeOf75
 v72:=Tryz.zeroValue75
 t75:=Tryz.underlying32
 a75:=Tryz.isAgg32
 z75:=Tryz.sizeOf32
 v75:=Tryz.zeroValue32
 t76:=Tryz.underlying77
 a76:=Tryz.isAgg77
 z76:=Tryz.sizeOf77
 v76:=Tryz.zeroValue77
 t109:=Tryz.underlying69
 a109:=Tryz.isAgg69
 z109:=Tryz.sizeOf69
 v109:=Tryz.zeroValue69
 t127:=Tryz.underlying107
 a127:=Tryz.isAgg107
 z127:=Tryz.sizeOf107
 v127:=Tryz.zeroValue107
 t146:=Tryz.underlying103
 a146:=Tryz.isAgg103
 z146:=Tryz.sizeOf103
 v146:=Tryz.zeroValue103
 t148:=Tryz.underlying105
 a148:=Tryz.isAgg105
 z148:=Tryz.sizeOf105
 v148:=Tryz.zeroValue105
 t164:=Tryz.underlying85
 a164:=Tryz.isAgg85
 z164:=Tryz.sizeOf85
 v164:=Tryz.zeroValue85 }
def Tryz.ownCut_ren : Go.Shelf.Ren:=⟨fun | 145=>40 | 220=>58 | 219=>74 | 217=>80 | 225=>81 | 224=>82 | 267=>83 | 266=>86 | 314=>87 | n=>n,fun | 9=>9 | 4=>4 | 59=>60 | 3=>3 | 5=>5 | 46=>68 | 146=>103 | 51=>80 | n=>n,fun | 1=>3 | n=>n⟩
theorem Tryz.ownCut : Go.Proofs.Lays.n145 Tryz.prog Tryz.ownCut_ren:={
 mixed:=by kernel_rfl
 f145:=Tryz.func40.trans (congrArg some (by kernel_rfl))
 f217:=Tryz.func80.trans (congrArg some (by kernel_rfl))
 f219:=Tryz.func74.trans (congrArg some (by kernel_rfl))
 f220:=Tryz.func58.trans (congrArg some (by kernel_rfl))
 f224:=Tryz.func82.trans (congrArg some (by kernel_rfl))
 f225:=Tryz.func81.trans (congrArg some (by kernel_rfl))
 f266:=Tryz.func86.trans (congrArg some (by kernel_rfl))
 f267:=Tryz.func83.trans (congrArg some (by kernel_rfl))
 f314:=Tryz.func87.trans (congrArg some (by kernel_rfl))
 t3:=Tryz.underlying3
 a3:=Tryz.isAgg3
 z3:=Tryz.sizeOf3
 v3:=Tryz.zeroValue3
 t4:=Tryz.underlying4
 a4:=Tryz.isAgg4
 z4:=Tryz.sizeOf4
 v4:=Tryz.zeroValue4
 t5:=Tryz.underlying5
 a5:=Tryz.isAgg5
 z5:=Tryz.sizeOf5
 v5:=Tryz.zeroValue5
 t9:=Tryz.underlying9
 a9:=Tryz.isAgg9
 z9:=Tryz.sizeOf9
 v9:=Tryz.zeroValue9
 t46:=Tryz.underlying68
 a46:=Tryz.isAgg68
 z46:=Tryz.sizeOf68
 v46:=Tryz.zeroValue68
 t51:=Tryz.underlying80
 a51:=Tryz.isAgg80
 z51:=Tryz.sizeOf80
 v51:=Tryz.zeroValue80
 t59:=Tryz.underlying60
 a59:=Tryz.isAgg60
 z59:=Tryz.sizeOf60
 v59:=Tryz.zeroValue60
 t146:=Tryz.underlying103
 a146:=Tryz.isAgg103
 z146:=Tryz.sizeOf103
 v146:=Tryz.zeroValue103
 g1:=by kernel_rfl }
def Tryz.ownTrim_ren : Go.Shelf.Ren:=⟨fun | 161=>42 | 231=>59 | 227=>60 | 233=>61 | 235=>62 | 228=>75 | 197=>76 | 151=>77 | 260=>84 | 152=>85 | 137=>88 | 119=>89 | 224=>82 | 225=>81 | 217=>80 | 266=>86 | n=>n,fun | 9=>9 | 4=>4 | 3=>3 | 5=>5 | 117=>111 | 116=>110 | 0=>0 | 124=>114 | 105=>140 | 21=>21 | 119=>149 | 46=>68 | 139=>152 | 138=>151 | n=>n,fun | 3=>6 | 4=>7 | n=>n⟩
theorem Tryz.ownTrim : Go.Proofs.Lays.n161 Tryz.prog Tryz.ownTrim_ren:={
 mixed:=by kernel_rfl
 f119:=Tryz.func89.trans (congrArg some (by kernel_rfl))
 f137:=Tryz.func88.trans (congrArg some (by kernel_rfl))
 f151:=Tryz.func77.trans (congrArg some (by kernel_rfl))
 f152:=Tryz.func85.trans (congrArg some (by kernel_rfl))
 f161:=Tryz.func42.trans (congrArg some (by kernel_rfl))
 f197:=Tryz.func76.trans (congrArg some (by kernel_rfl))
 f217:=Tryz.func80.trans (congrArg some (by kernel_rfl))
 f224:=Tryz.func82.trans (congrArg some (by kernel_rfl))
 f225:=Tryz.func81.trans (congrArg some (by kernel_rfl))
 f227:=Tryz.func60.trans (congrArg some (by kernel_rfl))
 f228:=Tryz.func75.trans (congrArg some (by kernel_rfl))
 f231:=Tryz.func59.trans (congrArg some (by kernel_rfl))
 f233:=Tryz.func61.trans (congrArg some (by kernel_rfl))
 f235:=Tryz.func62.trans (congrArg some (by kernel_rfl))
 f260:=Tryz.func84.trans (congrArg some (by kernel_rfl))
 f266:=Tryz.func86.trans (congrArg some (by kernel_rfl))
 t0:=Tryz.underlying0
 a0:=Tryz.isAgg0
 z0:=Tryz.sizeOf0
 v0:=Tryz.zeroValue0
 t3:=Tryz.underlying3
 a3:=Tryz.isAgg3
 z3:=Tryz.sizeOf3
 v3:=Tryz.zeroValue3
 t4:=Tryz.underlying4
 a4:=Tryz.isAgg4
 z4:=Tryz.sizeOf4
 v4:=Tryz.zeroValue4
 t5:=Tryz.underlying5
 a5:=Tryz.isAgg5
 z5:=Tryz.sizeOf5
 v5:=Tryz.zeroValue5
 t9:=Tryz.underlying9
 a9:=Tryz.isAgg9
 z9:=Tryz.sizeOf9
 v9:=Tryz.zeroValue9
 t21:=Tryz.underlying21
 a21:=Tryz.isAgg21
 z21:=Tryz.sizeOf21
 v21:=Tryz.zeroValue21
 t46:=Tryz.underlying68
 a46:=Tryz.isAgg68
 z46:=Tryz.sizeOf68
 v46:=Tryz.zeroValue68
 t105:=Tryz.underlying140
 a105:=Tryz.isAgg140
 z105:=Tryz.sizeOf140
 v105:=Tryz.zeroValue140
 t116:=Tryz.underlying110
 a116:=Tryz.isAgg110
 z116:=Tryz.sizeOf110
 t117:=Tryz.underlying111
 a117:=Tryz.isAgg111
 z117:=Tryz.sizeOf111
 v117:=Tryz.zeroValue111
 t119:=Tryz.underlying149
 a119:=Tryz.isAgg149
 z119:=Tryz.sizeOf149
 t124:=Tryz.underlying114
 a124:=Tryz.isAgg114
 z124:=Tryz.sizeOf114
 v124:=Tryz.zeroValue114
 t138:=Tryz.underlying151
 a138:=Tryz.isAgg151
 z138:=Tryz.sizeOf151
 v138:=Tryz.zeroValue151
 t139:=Tryz.underlying152
 a139:=Tryz.isAgg152
 z139:=Tryz.sizeOf152
 v139:=Tryz.zeroValue152
 g3:=by kernel_rfl
 g4:=by kernel_rfl }
end Go.Proofs
namespace Go.AM
theorem zDX : ∀ n : Nat,n ≠ 0 → Lib.decDigits n = (zIB n).reverse:=by
 intro n
 induction n using Nat.strongRecOn with
 | ind n ih=>
  intro h
  rw [zEL h,List.reverse_cons]
  by_cases h1 : n < 10
  ·have : n / 10 = 0:=by omega
   rw [Lib.decDigits,dif_pos h1,this,zDU]
   have : n % 10 = n:=by omega
   rw [this]; rfl
  ·rw [Lib.decDigits,dif_neg h1,ih (n / 10) tO tO]
theorem zMq (v : Int) : Lib.itoa v = zHB v:=by
 unfold Lib.itoa zHB signed
 by_cases h : v < 0
 ·rw [if_pos h,if_neg tO,if_pos h,List.reverse_append,zDX _ tO]; rfl
 ·rw [if_neg h]
  by_cases h0 : v = 0
  ·subst h0; rw [if_pos rfl]; exact (Lib.decDigits_one (i:=0) tO)
  ·rw [if_neg h0,if_neg h]
   have : v.toNat = v.natAbs:=by omega
   rw [this,zDX _ tO]
end Go.AM
set_option maxRecDepth 100000
namespace Go.Proofs
open Go.Shelf Go.RowKit Go.AM Go.Sort Go.Lib
theorem Tryz.small_number : Tryz.ownItoa_ren.f 283 = 48:=by kernel_rfl
theorem Tryz.digits_number : Tryz.ownItoa_ren.f 284 = 49:=by kernel_rfl
theorem Tryz.base_number : Tryz.ownItoa_ren.f 285 = 50:=by kernel_rfl
theorem Tryz.repeat_number : Tryz.ownRepeat_ren.f 105 = zAc:=by kernel_rfl
theorem Tryz.cut_number : Tryz.ownCut_ren.f 145 = zA9:=by kernel_rfl
theorem Tryz.trim_number : Tryz.ownTrim_ren.f 161 = zAI:=by kernel_rfl
theorem Tryz.max_number : Tryz.ownCut_ren.g 1 = 3:=by kernel_rfl
theorem Tryz.ownExtra : Builder.Extra Tryz.prog Tryz.ownRepeat_ren:={
 sizeBuilder:=by kernel_rfl
 liesBuilder:=by kernel_rfl
 t5:=Tryz.ownRepeat.t5
 a5:=Tryz.ownRepeat.a5
 z5:=Tryz.ownRepeat.z5
 v5:=Tryz.ownRepeat.v5
 infoByte:=by kernel_rfl
 cellsByte:=by kernel_rfl
 sizeByte:=by kernel_rfl
 neB5:=by decide }
set_option maxHeartbeats 6400000 in
theorem zKd (u : Nat) (hu64 : u < 18446744073709551616) (w : World) (htab : Lib.TabIs Tryz.prog w "internal/strconv.uint64pow10" .u64 Lib.pow10Tab) :
  Calls Tryz.prog 31 #[.int .u64 u,.int .i64 10] w fun e w'=>e = .returned (.string ⟨(Lib.decDigits u).toArray⟩) ∧ ∃ k os,w' = grow (w.drewN k) os:=by
 have e1 : ∀ args w,(callFunc 48 args).run Tryz.prog w = .ok (.enter 48 args) w:=enters_of Tryz.func48 (by kernel_rfl) rfl
 have e2 : ∀ args w,(callFunc 49 args).run Tryz.prog w = .ok (.enter 49 args) w:=enters_of Tryz.func49 (by kernel_rfl) rfl
 have e3 : ∀ args w,(callFunc 50 args).run Tryz.prog w = .ok (.enter 50 args) w:=enters_of Tryz.func50 (by kernel_rfl) rfl
 by_cases hs : u < 100
 ·have hsm:=fun w=>Any.internal_strconv_small (P:=Tryz.prog) (ρ:=Tryz.ownItoa_ren) { Tryz.ownItoa with } u hs w
  rw [Tryz.small_number] at hsm
  have iu : (u : Int) < 100:=by omega
  have hw : IntKind.i64.wrap (u : Int) = (u : Int):=by rw [IntKind.wrap_i64]; omega
  go_enter Tryz.func31,Tryz.ntmps31
  go_wp2_with (go_at_fn (48); refine (hsm _).mono ?_; rintro e w' ⟨rfl,rfl⟩)
  go_ret
  exact ⟨rfl,0,#[],by simp [World.drewN_zero]⟩
 ·have hu1 : 1 ≤ u:=by omega
  have hnd20 : Lib.nDigits u ≤ 20:=by have:=Lib.numDigits_eq u hu1 hu64; split at this <;> omega
  have hal : Tryz.prog.arrayLen 98 = 24:=by kernel_rfl
  have hsl : ∀ W,(Instr.sliceAt 98 (.pointer (some ⟨w.heap.size,0,none⟩)) none (some (.int .i64 (Lib.nDigits u : Int))) none).run Tryz.prog W = .ok (.slice (some ⟨w.heap.size,0,none⟩) (Lib.nDigits u) 24) W:=fun W=>by
   rw [run_sliceAt_array_h W 98 ⟨w.heap.size,0,none⟩ (by kernel_rfl) .i64 (Lib.nDigits u : Int) tO (by rw [hal]; omega)]
   go_simp
  have hnd:=fun W h=>Any.internal_strconv_numDigits (P:=Tryz.prog) (ρ:=Tryz.ownItoa_ren) { Tryz.ownItoa with } u hu1 hu64 W h
  rw [Tryz.digits_number] at hnd
  have hH0:=Lib.holds_zero0 w 98 (Lib.nDigits u) tO
  have hfmt:=Any.internal_strconv_formatBase10 (P:=Tryz.prog) (ρ:=Tryz.ownItoa_ren) { Tryz.ownItoa with } w.heap.size 0 24 u (Array.replicate (Lib.nDigits u) 0) (w.alloc (.cells Lib.zeros24 98)) hH0 (by rw [Array.size_replicate]; exact Lib.lt_pow_nDigits u) hu64 (by rw [Array.size_replicate]; omega)
  rw [Array.size_replicate,Tryz.base_number] at hfmt
  have HH0:=Lib.hid hH0
  have iu : (100 : Int) ≤ (u : Int):=by omega
  have ht:=Lib.tabIs_alloc htab (.cells Lib.zeros24 98)
  clear hH0 hal
  go_enter Tryz.func31,Tryz.ntmps31
  go_wp2_with (go_at_fn (49); refine (hnd _ ht).mono ?_; rintro e w' ⟨rfl,rfl⟩)
  go_at_fn (50)
  refine hfmt.mono ?_
  rintro e w' ⟨rfl,k,v',dk,rfl,hF⟩
  have hcv : (convert 73 9 (.slice (some ⟨w.heap.size,0,none⟩) (Lib.nDigits u) 24)).run Tryz.prog ((putRow (fun (b : UInt8)=>Value.int .u8 (b.toNat : Int)) (w.alloc (.cells Lib.zeros24 98)) w.heap.size 0 dk).drewN k) = .ok (.string ⟨(Lib.decDigits u).toArray⟩) ((putRow (fun (b : UInt8)=>Value.int .u8 (b.toNat : Int)) (w.alloc (.cells Lib.zeros24 98)) w.heap.size 0 dk).drewN k):=by
   have h:=run_convert_bytes_back (P:=Tryz.prog) ((putRow (fun (b : UInt8)=>Value.int .u8 (b.toNat : Int)) (w.alloc (.cells Lib.zeros24 98)) w.heap.size 0 dk).drewN k) 73 9 5 ⟨w.heap.size,0,none⟩ 24 (Lib.decDigits u) Tryz.underlying73 Tryz.underlying5 Tryz.underlying9 (fun j hj=>by
    rw [Lib.row_is_numeral hF j hj,Lib.add_plain,World.cell?_drewN]
    exact cell?_putRow (fun (b : UInt8)=>Value.int .u8 (b.toNat : Int)) _ w.heap.size 0 _ dk HH0.out (by rw [hF.size,Array.size_replicate]) j (by rw [hF.size]; rw [Lib.decDigits_length] at hj; exact hj))
   rw [Lib.decDigits_length] at h
   exact h
  go_wp2
  go_ret
  obtain ⟨os,eo⟩:=Lib.fin_at w (.cells Lib.zeros24 98) dk k 0
  exact ⟨rfl,k,os,eo⟩
set_option maxHeartbeats 1600000 in
theorem zKe (u : Nat) (hu64 : u < 18446744073709551616) (w : World) (htab : Lib.TabIs Tryz.prog w "internal/strconv.uint64pow10" .u64 Lib.pow10Tab) :
  Calls Tryz.prog 20 #[.int .u64 u,.int .i64 10] w fun e w'=>e = .returned (.string ⟨(Lib.decDigits u).toArray⟩) ∧ ∃ k os,w' = grow (w.drewN k) os:=by
 have e1 : ∀ args w,(callFunc 31 args).run Tryz.prog w = .ok (.enter 31 args) w:=enters_of Tryz.func31 (by kernel_rfl) rfl
 go_enter Tryz.func20,Tryz.ntmps20
 go_wp2_with (go_at_fn (31); refine (zKd u hu64 _ htab).mono ?_; rintro e w' ⟨rfl,k,os,rfl⟩)
 go_ret
 exact ⟨rfl,k,os,rfl⟩
section
variable {m : Int} {ev : Value}
theorem zNd {w : World} {M : AMap} {I : Nat → Prop} {H : Heap} (hS : Sim (gtQ m ev) w M I H) : w.cell? ⟨3,0,none⟩ = some (.int .i64 m):=by
 have h0:=hS.glob 3 (.int .i64 m) rfl
 cases h0 with
 | lref _ _ _ _ V hI hx hvv hr=>
  have h1:=hvv 0 (.int .i64 m) rfl
  have h2:=hr 0 (.int .i64 m) rfl
  rw [h1,zBw h2]
theorem zNe {w : World} {M : AMap} {I : Nat → Prop} {H : Heap} (hS : Sim (gtQ m ev) w M I H) : Lib.TabIs Tryz.prog w "internal/strconv.uint64pow10" .u64 Lib.pow10Tab:=by
 have h0:=hS.glob 2 zLl rfl
 obtain ⟨e,hs⟩:=hS.shp 2 zLl rfl
 have hlen : zLl.cells.length = 20:=by unfold zLl; simp [AV.cells,Lib.pow10Tab]
 rw [hlen] at hs
 have hcell : ∀ i : Nat,i < 20 → w.cell? ⟨2,i,none⟩ = some (.int .u64 (Lib.pow10Tab.getD i 0)):=fun i hi=>by
  have hc : zLl.cells[0 + i]? = some (.int .u64 (Lib.pow10Tab.getD i 0)):=by
   unfold zLl
   simp only [AV.cells,Nat.zero_add,List.getElem?_map]
   have : i < Lib.pow10Tab.length:=by rw [Lib.pow10Tab_length]; exact hi
   rw [List.getElem?_eq_getElem this,List.getD_eq_getElem?_getD,List.getElem?_eq_getElem this]; rfl
  cases h0 with
  | lref _ _ _ _ V hI hx hvv hr=>
   have h1:=hvv i _ hc
   have h2:=hr i _ hc
   rw [Nat.zero_add] at h1
   rw [h1,zBw h2]
 have hg : Tryz.prog.globalNamed "internal/strconv.uint64pow10" = some 2:=by kernel_rfl
 unfold Lib.TabIs World.var?
 rw [hg,Option.bind_some]
 unfold World.shape? at hs
 unfold World.cell? at hcell
 split at hs
 ·rename_i c el fz hheap
  simp only [Option.some.injEq,Prod.mk.injEq] at hs
  rw [hheap]
  simp only [Option.some.injEq]
  apply Array.ext'
  apply List.ext_getElem?
  intro i
  by_cases hi : i < 20
  ·have:=hcell i hi
   rw [hheap] at this
   simp only [Option.isSome_none,Bool.false_eq_true,if_false] at this
   have hp : i < Lib.pow10Tab.length:=by rw [Lib.pow10Tab_length]; exact hi
   rw [Array.getElem?_toList,this]
   simp [List.getD_eq_getElem?_getD,List.getElem?_eq_getElem hp]
  ·rw [List.getElem?_eq_none (by simp; omega),List.getElem?_eq_none (by simp [Lib.pow10Tab_length]; omega)]
 ·cases hs
theorem zLo (w : World) (k : Nat) (os : Array Obj) : RowKit.Below w.heap.size w (grow (w.drewN k) os):=by
 have hh : (w.drewN k).heap = w.heap:=rfl
 exact ⟨rfl,rfl,rfl,by simp [grow,hh],fun c hc=>by simp [grow,hh,Array.getElem?_append_left hc]⟩
theorem zI7 (w : World) (k : Nat) : RowKit.Below w.heap.size w (w.drewN k):=⟨rfl,rfl,rfl,Nat.le_refl _,fun c hc=>rfl⟩
theorem zL6 (n : Nat) : zHB (n : Int) = zBe n:=by
 unfold zHB zBe signed
 by_cases h : n = 0
 ·rw [if_pos h,if_pos tO]
 ·rw [if_neg h,if_neg tO,if_neg tO,Int.natAbs_natCast]
theorem dec_T (n : Nat) : Lib.decDigits n = zBe n:=by
 rw [← zL6,← zMq,Lib.itoa_nonneg]
theorem zE0 (n : Nat) (hn : n < 18446744073709551616) (H : Heap) : Go.AM.Good Tryz.prog (gtQ m ev) z7 [.int .u64 n,.int .i64 10] H (.str (zBe n)) H:=
 zA8 Tryz.func20 (by kernel_rfl) (by kernel_rfl) fun w M I cargs hS hA=>by
  obtain ⟨v,u,rfl,hv,hu⟩:=zDS hA
  obtain rfl:=zBw hv
  obtain rfl:=zBw hu
  refine (zKe n hn w (zNe hS)).mono ?_
  rintro e w' ⟨he,k,os,rfl⟩
  refine ⟨_,he,zLo w k os, ?_⟩
  rw [dec_T]
  exact .str _
theorem zHj (c : Nat) (hc : c ≤ 1000) (H : Heap) : Go.AM.Good Tryz.prog (gtQ m ev) zAc [.str [48],zu c] H (.str (List.replicate c 48)) H:=
 zA8 Tryz.func21 (by kernel_rfl) (by kernel_rfl) fun w M I cargs hS hA=>by
  obtain ⟨v,u,rfl,hv,hu⟩:=zDS hA
  obtain rfl:=zCa hv
  obtain rfl:=zBw hu
  have h:=Any.strings_Repeat Tryz.ownRepeat Tryz.ownExtra ⟨([48] : List UInt8).toArray⟩ c w tO (by
   show ([48] : List UInt8).toArray.size * c ≤ _
   rw [List.size_toArray]; show 1 * c ≤ _; omega)
  rw [Tryz.repeat_number] at h
  refine h.mono ?_
  rintro e w' ⟨he,hB⟩
  refine ⟨_,he,hB, ?_⟩
  show Rel _ _ _ _ _ (Value.string ⟨(Lib.repeatL [48] c).toArray⟩)
  rw [zNU]
  exact .str _
theorem zLp (s : List UInt8) (H : Heap) (hl : s.length ≤ 1000) : Go.AM.Good Tryz.prog (gtQ m ev) zA9 [.str s,.str [34]] H (.tup [.str (Lib.cut s [34]).1,.str (Lib.cut s [34]).2.1,.bool (Lib.cut s [34]).2.2]) H:=
 zA8 Tryz.func40 (by kernel_rfl) (by kernel_rfl) fun w M I cargs hS hA=>by
  obtain ⟨v,u,rfl,hv,hu⟩:=zDS hA
  obtain rfl:=zCa hv
  obtain rfl:=zCa hu
  have h:=Any.strings_Cut Tryz.ownCut ⟨s.toArray⟩ ⟨([34] : List UInt8).toArray⟩ m w (by show s.toArray.size < _; rw [List.size_toArray]; omega) (by rw [Tryz.max_number]; exact zNd hS)
  rw [Tryz.cut_number] at h
  refine h.mono ?_
  rintro e w' ⟨he,n,rfl⟩
  refine ⟨_,he,zI7 w n, ?_⟩
  refine .tup _ [_,_,_] rfl fun i c v h1 h2=>?_
  match i,h1,h2 with
  | 0,h1,h2=>cases h1; cases h2; exact .str _
  | 1,h1,h2=>cases h1; cases h2; exact .str _
  | 2,h1,h2=>cases h1; cases h2; exact .bool _
  | i + 3,h1,h2=>simp at h1
theorem zGI (s : List UInt8) (H : Heap) (hl : s.length ≤ 1000) : Go.AM.Good Tryz.prog (gtQ m ev) zAI [.str s,.str [48]] H (.str (Lib.trimLeftB s 48)) H:=
 zA8 Tryz.func42 (by kernel_rfl) (by kernel_rfl) fun w M I cargs hS hA=>by
  obtain ⟨v,u,rfl,hv,hu⟩:=zDS hA
  obtain rfl:=zCa hv
  obtain rfl:=zCa hu
  have h:=Any.strings_TrimLeft_one Tryz.ownTrim ⟨s.toArray⟩ 48 (by decide) w
  rw [Tryz.trim_number] at h
  refine h.mono ?_
  rintro e w' ⟨he,rfl⟩
  exact ⟨_,he,RowKit.Below.refl _ _,.str _⟩
end
end Go.Proofs
set_option maxRecDepth 20000
namespace Go.AM
theorem zGJ (s : Bs1) (a b : Nat) (h : a ≤ b) (hb : b ≤ s.length) : zf none (.str s) (some (.int .i64 (a : Int))) (some (.int .i64 (b : Int))) = some (.str ((s.drop a).take (b - a))):=by
 simp only [zf,zAv,aHi,aLo]
 have h1 : ¬ ((a : Int) < 0):=by omega
 have h2 : ¬ ((b : Int) < 0):=by omega
 have e1 : (a : Int).toNat = a:=Int.toNat_natCast a
 have e2 : (b : Int).toNat = b:=Int.toNat_natCast b
 simp [h1,h2,e1,e2,h,hb,List.drop_take]
def zCi (f : FormP) (s : Bs1) : FormP × Bool:=match s with
 | []=>(f,true)
 | c :: r=>if c :: r = [37] then ({ f with behind:=[37] },true) else if c = 34 then (match fcut r with
  | some (b,[])=>({ f with behind:=b },true)
  | _=>(f,false)) else (f,false)
theorem dropc {s r : Bs1} {i : Nat} {c : UInt8} (h : s.drop i = c :: r) : s[i]? = some c ∧ s.drop (i + 1) = r ∧ i < s.length:=by
 have h1 : s[i]? = some c:=by rw [← List.head?_drop,h]; rfl
 exact ⟨h1,by rw [← List.tail_drop,h]; rfl,(zg h1).1⟩
theorem zII {s r : Bs1} {a : Nat} (h : s.drop a = r) (ha : a ≤ s.length) : ∃ e,a ≤ e ∧ e ≤ s.length ∧ (∀ j,a ≤ j → j < e → ∃ c,s[j]? = some c ∧ c ≠ 34) ∧ ((fcut r = none ∧ e = s.length) ∨ ∃ b t,fcut r = some (b,t) ∧ s[e]? = some 34 ∧ e < s.length ∧ (s.drop a).take (e - a) = b ∧ s.drop (e + 1) = t ∧ e + 1 + t.length = s.length):=by
 have hl : r.length = s.length - a:=by rw [← h,List.length_drop]
 have hg : ∀ j,a ≤ j → s[j]? = r[j - a]?:=fun j hj=>by rw [← h,List.getElem?_drop]; congr 1; omega
 cases hf : fcut r with
 | none=>
  refine ⟨s.length,ha,Nat.le_refl _,fun j h1 h2=>?_,.inl ⟨rfl,rfl⟩⟩
  have hjr : j - a < r.length:=by omega
  refine ⟨r[j - a],by rw [hg j h1,List.getElem?_eq_getElem hjr],zKH hf _ (List.getElem_mem hjr)⟩
 | some p=>
  obtain ⟨b,t⟩:=p
  obtain ⟨h1,h2⟩:=zEw hf
  have hlr : r.length = b.length + 1 + t.length:=by rw [h1]; simp only [List.length_append,List.length_cons]; omega
  refine ⟨a + b.length,by omega,by omega,fun j k1 k2=>?_,.inr ⟨b,t,rfl, ?_,by omega, ?_, ?_,by omega⟩⟩
  ·have hjb : j - a < b.length:=by omega
   refine ⟨b[j - a], ?_,h2 _ (List.getElem_mem hjb)⟩
   rw [hg j k1,h1,List.getElem?_append_left hjb,List.getElem?_eq_getElem hjb]
  ·rw [hg _ tO,h1,show a + b.length - a = b.length by omega,List.getElem?_append_right (Nat.le_refl _),Nat.sub_self]; rfl
  ·rw [h,h1,show a + b.length - a = b.length by omega,List.take_left]
  ·rw [show a + b.length + 1 = a + (b.length + 1) by omega,← List.drop_drop,h,h1,show b.length + 1 = b.length + 1 from rfl,← List.drop_drop,List.drop_left]; rfl
section
variable {C : CSpec} {GT : Nat → Option AV}
set_option maxHeartbeats 8000000 in
theorem zNf {H H1 : Heap} {b2 b4 i : Nat} (hO : Old H H1) (l2 : H.length ≤ b2) (d : b2 ≠ b4) (f : FormP) (h2 : H1[b2]? = some (.box (zC ⟨[],[],false,0,0⟩).cells)) (h4 : H1[b4]? = some (.box (zC f).cells)) (l4 : H.length ≤ b4) (s c4 : Bs1) (hs : s.drop i = c4) (hi : i ≤ s.length) (hl : s.length ≤ 40) :
  EW C GT (zAF.behind 9) (zIu zp H (.tup [zC (zCi f c4).1,.bool (zCi f c4).2]) H) [(2,.ref b2 0 0 0),(4,.ref b4 0 0 0),(0,.str s),(5,zu i)] H1:=by
 have g2:=(zg h2).1
 have g4:=(zg h4).1
 cases c4 with
 | nil=>
  have hil : i = s.length:=by have:=congrArg List.length hs; rw [List.length_drop] at this; simp only [List.length_nil] at this; omega
  show EW C GT _ (zIu zp H (.tup [zC f,.bool true]) H) _ _
  refine zq tT <| zA (zC f) h4 rfl <| zJ (v:=zC f) (AV.cells (zC f)) h2 rfl rfl rfl rfl ?_
  exact zQ (o:=0) rfl rfl (zk (zH h2)) rfl rfl rfl rfl (hO.set tA _)
 | cons c r=>
  obtain ⟨hc,hr,hil⟩:=dropc hs
  have hsl : zf none (.str s) (some (zu i)) none = some (.str (c :: r)):=by rw [← hs]; exact zCb s i hi
  by_cases h37 : c :: r = [37]
  ·have e : zCi f (c :: r) = ({ f with behind:=[37] },true):=if_pos h37
   have hb : (c :: r == ([37] : Bs1)) = true:=tE h37
   have h4':=zH (x:=ABlk.box (zC { f with behind:=[37] }).cells) h4
   rw [e]
   refine zU tF <| za hsl <| zq tE <| zJ (v:=AV.str [37]) (zC { f with behind:=[37] }).cells h4 rfl rfl rfl rfl <| zA (zC { f with behind:=[37] }) h4' rfl <| zJ (v:=zC { ahead:=f.ahead,behind:=[37],group:=f.group,least:=f.least,point:=f.point }) (AV.cells (zC { ahead:=f.ahead,behind:=[37],group:=f.group,least:=f.least,point:=f.point })) (zI tA h2) rfl rfl rfl rfl ?_
   exact zQ (o:=0) rfl rfl (zk (zH (zI tA h2))) rfl rfl rfl rfl ((hO.set tA _).set tA _)
  ·have hb : (c :: r == ([37] : Bs1)) = false:=tN h37
   by_cases h34 : c = 34
   ·subst h34
    obtain ⟨e,e1,e2,e3,e4⟩:=zII hr tO
    have ec : ∀ g : FormP × Bool,(match fcut r with | some (b,[])=>({ f with behind:=b },true) | _=>(f,false) : FormP × Bool) = g → zCi f (34 :: r) = g:=fun g hg=>by
     simp only [zCi,if_neg h37,if_true]
     exact hg
    refine zU tF <| za hsl <| zU tN <| zEm rfl hc <| zU tN <| zAf (r:=i + 1) rfl tO ?_; refine zE6 (fun j : Nat=>[(5,zu j),(2,.ref b2 0 0 0),(4,.ref b4 0 0 0),(7,zu (i + 1)),(0,.str s)]) (fun j H'=>H' = H1 ∧ i + 1 ≤ j ∧ j ≤ e) (fun j=>e - j) (i + 1) rfl ⟨rfl,Nat.le_refl _,e1⟩ (fun j H2 hi2=>?_)
    obtain ⟨rfl,j1,j2⟩:=hi2
    by_cases hje : j < e
    ·obtain ⟨x,hx,hx34⟩:=e3 j j1 hje
     have hx34' : x.toNat ≠ 34:=fun h=>hx34 (UInt8.toNat_inj.1 h)
     have hxn : (((x.toNat : Nat) : Int) != 34) = true:=bne_iff_ne.2 tO
     refine zq tT <| zEm rfl hx <| zE <| zq hxn <| zAf (r:=j + 1) rfl tO ?_
     exact zEq (j + 1) rfl ⟨rfl,by omega,by omega⟩ tO
    ·obtain rfl : j = e:=by omega
     have w1 : IntKind.i64.wrap ((s.length : Int) - 1) = (s.length : Int) - 1:=by rw [IntKind.wrap_i64]; omega
     rcases e4 with ⟨hf,he⟩ | ⟨bb,t,hf,h34e,hel,hbb,htt,htl⟩
     ·rw [ec (f,false) (by rw [hf])]
      have hne : (((j : Nat) : Int) != (s.length : Int) - 1) = true:=bne_iff_ne.2 tO
      refine zU tF <| zU tN <| zU tN <| zC3 w1 <| zq hne <| zA (zC f) h4 rfl ?_; refine zJ (v:=zC f) (AV.cells (zC f)) h2 rfl rfl rfl rfl ?_
      exact zQ (o:=0) rfl rfl (zk (zH h2)) rfl rfl rfl rfl (hO.set tA _)
     ·cases t with
      | nil=>
       rw [ec ({ f with behind:=bb },true) (by rw [hf])]
       have hne : (((j : Nat) : Int) != (s.length : Int) - 1) = false:=bne_eq_false_iff_eq.2 (by simp only [List.length_nil] at htl; omega)
       have hsb : zf none (.str s) (some (zu (i + 1))) (some (zu j)) = some (.str bb):=by rw [← hbb]; exact zGJ s (i + 1) j j1 tO
       have h4':=zH (x:=ABlk.box (zC { f with behind:=bb }).cells) h4
       refine zq tT <| zEm rfl h34e <| zE <| zU tN <| zC3 w1 <| zU hne ?_; refine za hsb <| zJ (v:=AV.str bb) (zC { f with behind:=bb }).cells h4 rfl rfl rfl rfl <| zA (zC { f with behind:=bb }) h4' rfl <| zJ (v:=zC { ahead:=f.ahead,behind:=bb,group:=f.group,least:=f.least,point:=f.point }) (AV.cells (zC { ahead:=f.ahead,behind:=bb,group:=f.group,least:=f.least,point:=f.point })) (zI tA h2) rfl rfl rfl rfl ?_
       exact zQ (o:=0) rfl rfl (zk (zH (zI tA h2))) rfl rfl rfl rfl ((hO.set tA _).set tA _)
      | cons y t=>
       rw [ec (f,false) (by rw [hf])]
       have hne : (((j : Nat) : Int) != (s.length : Int) - 1) = true:=bne_iff_ne.2 (by simp only [List.length_cons] at htl; omega)
       refine zq tT <| zEm rfl h34e <| zE <| zU tN <| zC3 w1 <| zq hne ?_; refine zA (zC f) h4 rfl <| zJ (v:=zC f) (AV.cells (zC f)) h2 rfl rfl rfl rfl ?_
       exact zQ (o:=0) rfl rfl (zk (zH h2)) rfl rfl rfl rfl (hO.set tA _)
   ·have e : zCi f (c :: r) = (f,false):=(if_neg h37).trans (if_neg h34)
    have h34' : c.toNat ≠ 34:=fun h=>h34 (UInt8.toNat_inj.1 h)
    have hn : (((c.toNat : Nat) : Int) != 34) = true:=bne_iff_ne.2 tO
    rw [e]
    refine zU tF <| za hsl <| zU tN <| zEm rfl hc <| zq hn <| zA (zC f) h4 rfl ?_; refine zJ (v:=zC f) (AV.cells (zC f)) h2 rfl rfl rfl rfl ?_
    exact zQ (o:=0) rfl rfl (zk (zH h2)) rfl rfl rfl rfl (hO.set tA _)
end
end Go.AM
set_option maxRecDepth 20000
namespace Go.AM
def zD9 (f : FormP) (s : Bs1) : FormP × Bool:=match s with
 | []=>zCi f []
 | c :: r=>if c = 46 then (if zc r < 1 ∨ 6 < zc r then ({ f with point:=zc r },false) else zCi { f with point:=zc r } (r.drop (zc r))) else zCi f (c :: r)
section
variable {C : CSpec} {GT : Nat → Option AV}
set_option maxHeartbeats 8000000 in
theorem zNg {H H1 : Heap} {b2 b4 i : Nat} (hO : Old H H1) (l2 : H.length ≤ b2) (d : b2 ≠ b4) (f : FormP) (hp0 : f.point = 0) (h2 : H1[b2]? = some (.box (zC ⟨[],[],false,0,0⟩).cells)) (h4 : H1[b4]? = some (.box (zC f).cells)) (l4 : H.length ≤ b4) (s c3 : Bs1) (hs : s.drop i = c3) (hi : i ≤ s.length) (hl : s.length ≤ 40) :
  EW C GT (zAF.behind 8) (zIu zp H (.tup [zC (zD9 f c3).1,.bool (zD9 f c3).2]) H) [(2,.ref b2 0 0 0),(4,.ref b4 0 0 0),(0,.str s),(5,zu i)] H1:=by
 have g2:=(zg h2).1
 have g4:=(zg h4).1
 have key:=fun (H1 : Heap) (hO : Old H H1) f c i h2 h4 hs hi=>zNf (C:=C) (GT:=GT) (H:=H) (H1:=H1) (b2:=b2) (b4:=b4) (i:=i) hO l2 d f h2 h4 l4 s c hs hi hl
 cases c3 with
 | nil=>
  have hil : i = s.length:=by have:=congrArg List.length hs; rw [List.length_drop] at this; simp only [List.length_nil] at this; omega
  have key:=key H1 hO f [] i h2 h4 hs hi
  refine zU tF <| zD <| zD <| zAo rfl key ?_
  rfl
 | cons c r=>
  obtain ⟨hc,hr,hil⟩:=dropc hs
  by_cases h46 : c = 46
  ·subst h46
   have ec : zD9 f (46 :: r) = if zc r < 1 ∨ 6 < zc r then ({ f with point:=zc r },false) else zCi { f with point:=zc r } (r.drop (zc r)):=by simp only [zD9,if_true]
   rw [ec]
   have hz:=zGw r
   have hrl : r.length = s.length - (i + 1):=by rw [← hr,List.length_drop]
   have hg : ∀ j,s[i + 1 + j]? = r[j]?:=fun j=>by rw [← hr,List.getElem?_drop]
   have hdd : s.drop (i + 1 + zc r) = r.drop (zc r):=by rw [← hr,List.drop_drop]
   refine zq tT <| zEm rfl hc <| zE <| zE <| zAf (r:=i + 1) rfl tO ?_; refine zE6 (fun j : Nat=>[(5,zu (i + 1 + j)),(4,.ref b4 0 0 0),(2,.ref b2 0 0 0),(0,.str s)]) (fun j H'=>H' = H1.set b4 (.box (zC { f with point:=j }).cells) ∧ j ≤ zc r) (fun j=>zc r - j) 0 rfl ⟨by rw [show ({ f with point:=0 } : FormP) = f by rw [← hp0]]; exact (zIA h4).symm,Nat.zero_le _⟩ (fun j H2 hi2=>?_)
   obtain ⟨rfl,j2⟩:=hi2
   have h4j:=zH (x:=ABlk.box (zC { f with point:=j }).cells) h4
   have h2j:=zI (b:=b4) (x:=ABlk.box (zC { f with point:=j }).cells) (fun e=>d e.symm) h2
   by_cases hj : j < zc r
   ·have hx : s[i + 1 + j]? = some 48:=by rw [hg]; exact zKI hj
    have hj3:=(zg hx).1
    refine zq tT <| zEm rfl hx <| zE <| zE <| zA (zu j) h4j rfl <| zAf (r:=j + 1) rfl tO ?_; refine zJ (v:=zu (j + 1)) (zC { f with point:=j + 1 }).cells h4j rfl rfl rfl rfl <| zAf (r:=i + 1 + (j + 1)) tO tO ?_
    exact zEq (j + 1) rfl ⟨by rw [List.set_set],by omega⟩ tO
   ·obtain rfl : j = zc r:=by omega
    have hend : s[i + 1 + zc r]? ≠ some 48:=by rw [hg]; exact zKJ
    have keyz:=key _ (hO.set l4 _) { f with point:=zc r } (r.drop (zc r)) (i + 1 + zc r) h2j h4j hdd tO
    generalize hzz : zc r = p at *
    by_cases hp : p < 1 ∨ 6 < p
    ·rw [if_pos hp]
     rcases hp with hp | hp
     ·skip
      by_cases hlt : i + 1 + p < s.length
      ·obtain ⟨x,hx⟩ : ∃ x,s[i + 1 + p]? = some x:=⟨_,List.getElem?_eq_getElem hlt⟩
       have hx48 : x.toNat ≠ 48:=fun h=>hend (by rw [hx]; exact congrArg some (UInt8.toNat_inj.1 h))
       refine zq tT <| zEm rfl hx <| zE <| zU tF <| zA (zu p) h4j rfl ?_; refine zq tT <| zE <| zE <| zA (zC { f with point:=p }) h4j rfl <| zJ (v:=zC { ahead:=f.ahead,behind:=f.behind,group:=f.group,least:=f.least,point:=p }) (AV.cells (zC { ahead:=f.ahead,behind:=f.behind,group:=f.group,least:=f.least,point:=p })) (zI tA h2) rfl rfl rfl rfl ?_
       exact zQ (o:=0) rfl rfl (zk (zH (zI tA h2))) rfl rfl rfl rfl ((hO.set tA _).set tA _)
      ·refine zU tF <| zD <| zD <| zA (zu p) h4j rfl ?_; refine zq tT <| zE <| zE <| zA (zC { f with point:=p }) h4j rfl <| zJ (v:=zC { ahead:=f.ahead,behind:=f.behind,group:=f.group,least:=f.least,point:=p }) (AV.cells (zC { ahead:=f.ahead,behind:=f.behind,group:=f.group,least:=f.least,point:=p })) (zI tA h2) rfl rfl rfl rfl ?_
       exact zQ (o:=0) rfl rfl (zk (zH (zI tA h2))) rfl rfl rfl rfl ((hO.set tA _).set tA _)
     ·skip
      by_cases hlt : i + 1 + p < s.length
      ·obtain ⟨x,hx⟩ : ∃ x,s[i + 1 + p]? = some x:=⟨_,List.getElem?_eq_getElem hlt⟩
       have hx48 : x.toNat ≠ 48:=fun h=>hend (by rw [hx]; exact congrArg some (UInt8.toNat_inj.1 h))
       refine zq tT <| zEm rfl hx <| zE <| zU tF <| zA (zu p) h4j rfl <| zU tF ?_; refine zA (zu p) h4j rfl <| zD <| zq tT <| zA (zC { f with point:=p }) h4j rfl <| zJ (v:=zC { ahead:=f.ahead,behind:=f.behind,group:=f.group,least:=f.least,point:=p }) (AV.cells (zC { ahead:=f.ahead,behind:=f.behind,group:=f.group,least:=f.least,point:=p })) (zI tA h2) rfl rfl rfl rfl ?_
       exact zQ (o:=0) rfl rfl (zk (zH (zI tA h2))) rfl rfl rfl rfl ((hO.set tA _).set tA _)
      ·refine zU tF <| zD <| zD <| zA (zu p) h4j rfl <| zU tF <| zA (zu p) h4j rfl ?_; refine zD <| zq tT <| zA (zC { f with point:=p }) h4j rfl <| zJ (v:=zC { ahead:=f.ahead,behind:=f.behind,group:=f.group,least:=f.least,point:=p }) (AV.cells (zC { ahead:=f.ahead,behind:=f.behind,group:=f.group,least:=f.least,point:=p })) (zI tA h2) rfl rfl rfl rfl ?_
       exact zQ (o:=0) rfl rfl (zk (zH (zI tA h2))) rfl rfl rfl rfl ((hO.set tA _).set tA _)
    ·rw [if_neg hp]
     by_cases hlt : i + 1 + p < s.length
     ·obtain ⟨x,hx⟩ : ∃ x,s[i + 1 + p]? = some x:=⟨_,List.getElem?_eq_getElem hlt⟩
      have hx48 : x.toNat ≠ 48:=fun h=>hend (by rw [hx]; exact congrArg some (UInt8.toNat_inj.1 h))
      refine zq tT <| zEm rfl hx <| zE <| zU tF <| zA (zu p) h4j rfl <| zU tF ?_; refine zA (zu p) h4j rfl <| zD <| zU tF <| zAo rfl keyz ?_
      rfl
     ·refine zU tF <| zD <| zD <| zA (zu p) h4j rfl <| zU tF <| zA (zu p) h4j rfl ?_; refine zD <| zU tF <| zAo rfl keyz ?_
      rfl
  ·have e : zD9 f (c :: r) = zCi f (c :: r):=if_neg h46
   have h46' : c.toNat ≠ 46:=fun h=>h46 (UInt8.toNat_inj.1 h)
   have key:=key H1 hO f (c :: r) i h2 h4 hs hi
   rw [e]
   refine zq tT <| zEm rfl hc <| zE <| zU tN ?_
   exact zAo rfl key rfl
end
end Go.AM
