/- Several texts of mine in one (ItQ, Atp, Fnp, Itg, Lvs). Own work. -/
import Derived.Shelf.LaysC
import Derived.Shelf.LaysM
import Derived.Shelf.Strconv.AtoiAll
import Derived.Shelf.Strings.Shaped
import Derived.Shelf.Strings.Replace
import Derived.Ground.NamesProg
import Derived.Test.YtaohficjbicfgaaGreatDoorProg
import Derived.Test.YtaohficjbicfgaaGreatDoorGPreFr1
import Derived.Lib.AtoiAll
import Derived.Lib.Replace
import Derived.Test.YtaohficjbicfgaaGreatDoorGFr7Am24
import Derived.KernelRfl
set_option linter.all false
namespace Go.Proofs
open Go.Shelf
def Tryz.ownAtoi_ren : Go.Shelf.Ren:=⟨fun | 172=>142 | 244=>148 | 245=>149 | 247=>152 | 279=>153 | 280=>154 | 281=>155 | 282=>156 | 287=>159 | 316=>160 | 171=>162 | 205=>161 | 321=>163 | 322=>164 | 243=>165 | 246=>166 | 283=>167 | 284=>168 | 285=>169 | 286=>170 | 129=>172 | 317=>171 | 318=>173 | 319=>174 | 320=>175 | 337=>176 | 338=>177 | n=>n,fun | 9=>9 | 3=>3 | 75=>32 | 76=>113 | 4=>4 | 5=>5 | 167=>204 | 37=>29 | 0=>0 | 85=>205 | 2=>2 | 168=>207 | 53=>179 | 175=>211 | 46=>81 | 210=>215 | 127=>151 | 145=>220 | 143=>218 | 21=>21 | 171=>222 | 173=>225 | 212=>228 | 51=>94 | 20=>20 | 213=>229 | 232=>232 | 233=>233 | 80=>117 | n=>n,fun | 15=>6 | 16=>7 | 17=>8 | 18=>9 | 19=>10 | n=>n⟩
theorem Tryz.ownAtoi : Go.Proofs.LaysC.n172 Tryz.prog Tryz.ownAtoi_ren:={
 mixed:=by kernel_rfl
 f129:=Tryz.func172.trans (congrArg some (by kernel_rfl))
 f171:=Tryz.func162.trans (congrArg some (by kernel_rfl))
 f172:=Tryz.func142.trans (congrArg some (by kernel_rfl))
 f205:=Tryz.func161.trans (congrArg some (by kernel_rfl))
 f243:=Tryz.func165.trans (congrArg some (by kernel_rfl))
 f244:=Tryz.func148.trans (congrArg some (by kernel_rfl))
 f245:=Tryz.func149.trans (congrArg some (by kernel_rfl))
 f246:=Tryz.func166.trans (congrArg some (by kernel_rfl))
 f247:=Tryz.func152.trans (congrArg some (by kernel_rfl))
 f279:=Tryz.func153.trans (congrArg some (by kernel_rfl))
 f280:=Tryz.func154.trans (congrArg some (by kernel_rfl))
 f281:=Tryz.func155.trans (congrArg some (by kernel_rfl))
 f282:=Tryz.func156.trans (congrArg some (by kernel_rfl))
 f283:=Tryz.func167.trans (congrArg some (by kernel_rfl))
 f284:=Tryz.func168.trans (congrArg some (by kernel_rfl))
 f285:=Tryz.func169.trans (congrArg some (by kernel_rfl))
 f286:=Tryz.func170.trans (congrArg some (by kernel_rfl))
 f287:=Tryz.func159.trans (congrArg some (by kernel_rfl))
 f316:=Tryz.func160.trans (congrArg some (by kernel_rfl))
 f317:=Tryz.func171.trans (congrArg some (by kernel_rfl))
 f318:=Tryz.func173.trans (congrArg some (by kernel_rfl))
 f319:=Tryz.func174.trans (congrArg some (by kernel_rfl))
 f320:=Tryz.func175.trans (congrArg some (by kernel_rfl))
 f321:=Tryz.func163.trans (congrArg some (by kernel_rfl))
 f322:=Tryz.func164.trans (congrArg some (by kernel_rfl))
 f337:=Tryz.func176.trans (congrArg some (by kernel_rfl))
 f338:=Tryz.func177.trans (congrArg some (by kernel_rfl))
 t0:=Tryz.underlying0
 a0:=Tryz.isAgg0
 z0:=Tryz.sizeOf0
 v0:=Tryz.zeroValue0
 t2:=Tryz.underlying2
 a2:=Tryz.isAgg2
 z2:=Tryz.sizeOf2
 v2:=Tryz.zeroValue2
 t3:=Tryz.underlying3
 a3:=Tryz.isAgg3
 z3:=Tryz.sizeOf3
 v3:=Tryz.zeroValue3
 t4:=Tryz.underlying4
 a4:=Tryz.isAgg4
 z4:=Tryz.sizeOf4
 v4:=Tryz.zeroValue4
 t5:=Tryz.underlying5
 a5:=Tryz.isAgg5
 z5:=Tryz.sizeOf5
 v5:=Tryz.zeroValue5
 t9:=Tryz.underlying9
 a9:=Tryz.isAgg9
 z9:=Tryz.sizeOf9
 v9:=Tryz.zeroValue9
 t20:=Tryz.underlying20
 a20:=Tryz.isAgg20
 z20:=Tryz.sizeOf20
 v20:=Tryz.zeroValue20
 t21:=Tryz.underlying21
 a21:=Tryz.isAgg21
 z21:=Tryz.sizeOf21
 v21:=Tryz.zeroValue21
 t37:=Tryz.underlying29
 a37:=Tryz.isAgg29
 z37:=Tryz.sizeOf29
 v37:=Tryz.zeroValue29
 t46:=Tryz.underlying81
 a46:=Tryz.isAgg81
 z46:=Tryz.sizeOf81
 v46:=Tryz.zeroValue81
 t51:=Tryz.underlying94
 a51:=Tryz.isAgg94
 z51:=Tryz.sizeOf94
 v51:=Tryz.zeroValue94
 t53:=Tryz.underlying179
 a53:=Tryz.isAgg179
 z53:=Tryz.sizeOf179
 v53:=Tryz.zeroValue179
 t75:=Tryz.underlying32
 a75:=Tryz.isAgg32
 z75:=Tryz.sizeOf32
 v75:=Tryz.zeroValue32
 t76:=Tryz.underlying113
 a76:=Tryz.isAgg113
 z76:=Tryz.sizeOf113
 v76:=Tryz.zeroValue113
 t85:=Tryz.underlying205
 a85:=Tryz.isAgg205
 z85:=Tryz.sizeOf205
 v85:=Tryz.zeroValue205
 t127:=Tryz.underlying151
 a127:=Tryz.isAgg151
 z127:=Tryz.sizeOf151
 v127:=Tryz.zeroValue151
 t143:=Tryz.underlying218
 a143:=Tryz.isAgg218
 z143:=Tryz.sizeOf218
 v143:=Tryz.zeroValue218
 t145:=Tryz.underlying220
 a145:=Tryz.isAgg220
 z145:=Tryz.sizeOf220
 v145:=Tryz.zeroValue220
 t167:=Tryz.underlying204
 a167:=Tryz.isAgg204
 z167:=Tryz.sizeOf204
 v167:=Tryz.zeroValue204
 t168:=Tryz.underlying207
 a168:=Tryz.isAgg207
 z168:=Tryz.sizeOf207
 v168:=Tryz.zeroValue207
 t171:=Tryz.underlying222
 a171:=Tryz.isAgg222
 z171:=Tryz.sizeOf222
 v171:=Tryz.zeroValue222
 t173:=Tryz.underlying225
 a173:=Tryz.isAgg225
 z173:=Tryz.sizeOf225
 v173:=Tryz.zeroValue225
 t175:=Tryz.underlying211
 a175:=Tryz.isAgg211
 z175:=Tryz.sizeOf211
 v175:=Tryz.zeroValue211
 t210:=Tryz.underlying215
 a210:=Tryz.isAgg215
 z210:=Tryz.sizeOf215
 v210:=Tryz.zeroValue215
 t212:=Tryz.underlying228
 a212:=Tryz.isAgg228
 z212:=Tryz.sizeOf228
 v212:=Tryz.zeroValue228
 t213:=Tryz.underlying229
 a213:=Tryz.isAgg229
 z213:=Tryz.sizeOf229
 t232:=Tryz.underlying232
 a232:=Tryz.isAgg232
 z232:=Tryz.sizeOf232
 v232:=Tryz.zeroValue232
 t233:=Tryz.underlying233
 a233:=Tryz.isAgg233
 z233:=Tryz.sizeOf233
 v233:=Tryz.zeroValue233
 g15:=by kernel_rfl
 g16:=by kernel_rfl
 g17:=by kernel_rfl
 g18:=by kernel_rfl
 g19:=by kernel_rfl
 t80:=Tryz.underlying117
 a80:=Tryz.isAgg117
 z80:=Tryz.sizeOf117
 v80:=Tryz.zeroValue117
 i0:=by kernel_rfl
 i2:=by kernel_rfl
 i3:=by kernel_rfl
 i4:=by kernel_rfl
 i5:=by kernel_rfl
 i9:=by kernel_rfl
 i20:=by kernel_rfl
 i21:=by kernel_rfl
 i37:=by kernel_rfl
 i46:=by kernel_rfl
 i51:=by kernel_rfl
 i53:=by kernel_rfl
 i75:=by kernel_rfl
 i76:=by kernel_rfl
 i80:=by kernel_rfl
 i85:=by kernel_rfl
 i127:=by kernel_rfl
 i143:=by kernel_rfl
 i145:=by kernel_rfl
 i167:=by kernel_rfl
 i168:=by kernel_rfl
 i171:=by kernel_rfl
 i173:=by kernel_rfl
 i175:=by kernel_rfl
 i210:=by kernel_rfl
 i212:=by kernel_rfl
 i232:=by kernel_rfl
 i233:=by kernel_rfl
 m15:=by kernel_rfl
 m16:=by kernel_rfl
 m17:=by kernel_rfl
 m18:=by kernel_rfl
 m19:=by kernel_rfl
 c0:=by kernel_rfl
 c2:=by kernel_rfl
 c3:=by kernel_rfl
 c4:=by kernel_rfl
 c5:=by kernel_rfl
 c9:=by kernel_rfl
 c20:=by kernel_rfl
 c21:=by kernel_rfl
 c37:=by kernel_rfl
 c46:=by kernel_rfl
 c51:=by kernel_rfl
 c53:=by kernel_rfl
 c75:=by kernel_rfl
 c76:=by kernel_rfl
 c80:=by kernel_rfl
 c85:=by kernel_rfl
 c127:=by kernel_rfl
 c143:=by kernel_rfl
 c145:=by kernel_rfl
 c167:=by kernel_rfl
 c168:=by kernel_rfl
 c171:=by kernel_rfl
 c173:=by kernel_rfl
 c175:=by kernel_rfl
 c210:=by kernel_rfl
 c212:=by kernel_rfl
 c213:=by kernel_rfl
 c232:=by kernel_rfl
 c233:=by kernel_rfl }
def Tryz.ownContains_ren : Go.Shelf.Ren:=⟨fun | 144=>26 | 143=>38 | 219=>55 | 217=>77 | 225=>78 | 224=>79 | 267=>80 | 266=>96 | 314=>97 | n=>n,fun | 9=>9 | 4=>4 | 3=>3 | 5=>5 | 46=>81 | 146=>165 | 51=>94 | n=>n,fun | 1=>1 | n=>n⟩
theorem Tryz.ownContains : Go.Proofs.LaysM.n144 Tryz.prog Tryz.ownContains_ren:={
 mixed:=by kernel_rfl
 f143:=Tryz.func38.trans (congrArg some (by kernel_rfl))
 f144:=Tryz.func26.trans (congrArg some (by kernel_rfl))
 f217:=Tryz.func77.trans (congrArg some (by kernel_rfl))
 f219:=Tryz.func55.trans (congrArg some (by kernel_rfl))
 f224:=Tryz.func79.trans (congrArg some (by kernel_rfl))
 f225:=Tryz.func78.trans (congrArg some (by kernel_rfl))
 f266:=Tryz.func96.trans (congrArg some (by kernel_rfl))
 f267:=Tryz.func80.trans (congrArg some (by kernel_rfl))
 f314:=Tryz.func97.trans (congrArg some (by kernel_rfl))
 t3:=Tryz.underlying3
 a3:=Tryz.isAgg3
 z3:=Tryz.sizeOf3
 v3:=Tryz.zeroValue3
 t4:=Tryz.underlying4
 a4:=Tryz.isAgg4
 z4:=Tryz.sizeOf4
 v4:=Tryz.zeroValue4
 t5:=Tryz.underlying5
 a5:=Tryz.isAgg5
 z5:=Tryz.sizeOf5
 v5:=Tryz.zeroValue5
 t9:=Tryz.underlying9
 a9:=Tryz.isAgg9
 z9:=Tryz.sizeOf9
 v9:=Tryz.zeroValue9
 t46:=Tryz.underlying81
 a46:=Tryz.isAgg81
 z46:=Tryz.sizeOf81
 v46:=Tryz.zeroValue81
 t51:=Tryz.underlying94
 a51:=Tryz.isAgg94
 z51:=Tryz.sizeOf94
 v51:=Tryz.zeroValue94
 t146:=Tryz.underlying165
 a146:=Tryz.isAgg165
 z146:=Tryz.sizeOf165
 v146:=Tryz.zeroValue165
 g1:=by kernel_rfl
 i3:=by kernel_rfl
 i4:=by kernel_rfl
 i5:=by kernel_rfl
 i9:=by kernel_rfl
 i46:=by kernel_rfl
 i51:=by kernel_rfl
 i146:=by kernel_rfl
 m1:=by kernel_rfl
 s1_3:=fun w h=>Go.Proofs.cell_of_shapedOpen_int (zero:=#[.int .i64 0]) (t:=3) h (of_decide_eq_true (by kernel_rfl)) (by kernel_rfl) rfl (by kernel_rfl) (by kernel_rfl) Tryz.underlying3 }
def Tryz.ownCount_ren : Go.Shelf.Ren:=⟨fun | 138=>27 | 195=>39 | 218=>40 | 143=>38 | 219=>55 | 217=>77 | 225=>78 | 224=>79 | 267=>80 | 266=>96 | 314=>97 | n=>n,fun | 9=>9 | 3=>3 | 4=>4 | 5=>5 | 0=>0 | 46=>81 | 146=>165 | 51=>94 | n=>n,fun | 1=>1 | n=>n⟩
theorem Tryz.ownCount : Go.Proofs.LaysM.n138 Tryz.prog Tryz.ownCount_ren:={
 mixed:=by kernel_rfl
 f138:=Tryz.func27.trans (congrArg some (by kernel_rfl))
 f143:=Tryz.func38.trans (congrArg some (by kernel_rfl))
 f195:=Tryz.func39.trans (congrArg some (by kernel_rfl))
 f217:=Tryz.func77.trans (congrArg some (by kernel_rfl))
 f218:=Tryz.func40.trans (congrArg some (by kernel_rfl))
 f219:=Tryz.func55.trans (congrArg some (by kernel_rfl))
 f224:=Tryz.func79.trans (congrArg some (by kernel_rfl))
 f225:=Tryz.func78.trans (congrArg some (by kernel_rfl))
 f266:=Tryz.func96.trans (congrArg some (by kernel_rfl))
 f267:=Tryz.func80.trans (congrArg some (by kernel_rfl))
 f314:=Tryz.func97.trans (congrArg some (by kernel_rfl))
 t0:=Tryz.underlying0
 a0:=Tryz.isAgg0
 z0:=Tryz.sizeOf0
 v0:=Tryz.zeroValue0
 t3:=Tryz.underlying3
 a3:=Tryz.isAgg3
 z3:=Tryz.sizeOf3
 v3:=Tryz.zeroValue3
 t4:=Tryz.underlying4
 a4:=Tryz.isAgg4
 z4:=Tryz.sizeOf4
 v4:=Tryz.zeroValue4
 t5:=Tryz.underlying5
 a5:=Tryz.isAgg5
 z5:=Tryz.sizeOf5
 v5:=Tryz.zeroValue5
 t9:=Tryz.underlying9
 a9:=Tryz.isAgg9
 z9:=Tryz.sizeOf9
 v9:=Tryz.zeroValue9
 t46:=Tryz.underlying81
 a46:=Tryz.isAgg81
 z46:=Tryz.sizeOf81
 v46:=Tryz.zeroValue81
 t51:=Tryz.underlying94
 a51:=Tryz.isAgg94
 z51:=Tryz.sizeOf94
 v51:=Tryz.zeroValue94
 t146:=Tryz.underlying165
 a146:=Tryz.isAgg165
 z146:=Tryz.sizeOf165
 v146:=Tryz.zeroValue165
 g1:=by kernel_rfl
 i0:=by kernel_rfl
 i3:=by kernel_rfl
 i4:=by kernel_rfl
 i5:=by kernel_rfl
 i9:=by kernel_rfl
 i46:=by kernel_rfl
 i51:=by kernel_rfl
 i146:=by kernel_rfl
 m1:=by kernel_rfl
 s1_3:=fun w h=>Go.Proofs.cell_of_shapedOpen_int (zero:=#[.int .i64 0]) (t:=3) h (of_decide_eq_true (by kernel_rfl)) (by kernel_rfl) rfl (by kernel_rfl) (by kernel_rfl) Tryz.underlying3 }
def Tryz.ownReplace_ren : Go.Shelf.Ren:=⟨fun | 155=>28 | 154=>41 | 138=>27 | 165=>56 | 143=>38 | 166=>57 | 197=>58 | 169=>59 | 195=>39 | 218=>40 | 240=>81 | 241=>82 | 219=>55 | 260=>83 | 276=>98 | 277=>99 | 217=>77 | 225=>78 | 224=>79 | 267=>80 | 266=>96 | 314=>97 | n=>n,fun | 9=>9 | 3=>3 | 4=>4 | 72=>111 | 0=>0 | 76=>113 | 105=>115 | 21=>21 | 5=>5 | 70=>109 | 20=>20 | 37=>29 | 75=>32 | 127=>151 | 164=>95 | 46=>81 | 119=>169 | 139=>172 | 138=>171 | 146=>165 | 51=>94 | 80=>117 | n=>n,fun | 1=>1 | 3=>3 | 4=>4 | n=>n⟩
theorem Tryz.ownReplace : Go.Proofs.Lays.n155 Tryz.prog Tryz.ownReplace_ren:={
 mixed:=by kernel_rfl
 f138:=Tryz.func27.trans (congrArg some (by kernel_rfl))
 f143:=Tryz.func38.trans (congrArg some (by kernel_rfl))
 f154:=Tryz.func41.trans (congrArg some (by kernel_rfl))
 f155:=Tryz.func28.trans (congrArg some (by kernel_rfl))
 f165:=Tryz.func56.trans (congrArg some (by kernel_rfl))
 f166:=Tryz.func57.trans (congrArg some (by kernel_rfl))
 f169:=Tryz.func59.trans (congrArg some (by kernel_rfl))
 f195:=Tryz.func39.trans (congrArg some (by kernel_rfl))
 f197:=Tryz.func58.trans (congrArg some (by kernel_rfl))
 f217:=Tryz.func77.trans (congrArg some (by kernel_rfl))
 f218:=Tryz.func40.trans (congrArg some (by kernel_rfl))
 f219:=Tryz.func55.trans (congrArg some (by kernel_rfl))
 f224:=Tryz.func79.trans (congrArg some (by kernel_rfl))
 f225:=Tryz.func78.trans (congrArg some (by kernel_rfl))
 f240:=Tryz.func81.trans (congrArg some (by kernel_rfl))
 f241:=Tryz.func82.trans (congrArg some (by kernel_rfl))
 f260:=Tryz.func83.trans (congrArg some (by kernel_rfl))
 f266:=Tryz.func96.trans (congrArg some (by kernel_rfl))
 f267:=Tryz.func80.trans (congrArg some (by kernel_rfl))
 f276:=Tryz.func98.trans (congrArg some (by kernel_rfl))
 f277:=Tryz.func99.trans (congrArg some (by kernel_rfl))
 f314:=Tryz.func97.trans (congrArg some (by kernel_rfl))
 t0:=Tryz.underlying0
 a0:=Tryz.isAgg0
 z0:=Tryz.sizeOf0
 v0:=Tryz.zeroValue0
 t3:=Tryz.underlying3
 a3:=Tryz.isAgg3
 z3:=Tryz.sizeOf3
 v3:=Tryz.zeroValue3
 t4:=Tryz.underlying4
 a4:=Tryz.isAgg4
 z4:=Tryz.sizeOf4
 v4:=Tryz.zeroValue4
 t5:=Tryz.underlying5
 a5:=Tryz.isAgg5
 z5:=Tryz.sizeOf5
 v5:=Tryz.zeroValue5
 t9:=Tryz.underlying9
 a9:=Tryz.isAgg9
 z9:=Tryz.sizeOf9
 v9:=Tryz.zeroValue9
 t20:=Tryz.underlying20
 a20:=Tryz.isAgg20
 z20:=Tryz.sizeOf20
 v20:=Tryz.zeroValue20
 t21:=Tryz.underlying21
 a21:=Tryz.isAgg21
 z21:=Tryz.sizeOf21
 v21:=Tryz.zeroValue21
 t37:=Tryz.underlying29
 a37:=Tryz.isAgg29
 z37:=Tryz.sizeOf29
 v37:=Tryz.zeroValue29
 t46:=Tryz.underlying81
 a46:=Tryz.isAgg81
 z46:=Tryz.sizeOf81
 v46:=Tryz.zeroValue81
 t51:=Tryz.underlying94
 a51:=Tryz.isAgg94
 z51:=Tryz.sizeOf94
 v51:=Tryz.zeroValue94
 t70:=Tryz.underlying109
 a70:=Tryz.isAgg109
 z70:=Tryz.sizeOf109
 v70:=Tryz.zeroValue109
 t72:=Tryz.underlying111
 a72:=Tryz.isAgg111
 z72:=Tryz.sizeOf111
 v72:=Tryz.zeroValue111
 t75:=Tryz.underlying32
 a75:=Tryz.isAgg32
 z75:=Tryz.sizeOf32
 v75:=Tryz.zeroValue32
 t76:=Tryz.underlying113
 a76:=Tryz.isAgg113
 z76:=Tryz.sizeOf113
 v76:=Tryz.zeroValue113
 t105:=Tryz.underlying115
 a105:=Tryz.isAgg115
 z105:=Tryz.sizeOf115
 v105:=Tryz.zeroValue115
 t119:=Tryz.underlying169
 a119:=Tryz.isAgg169
 z119:=Tryz.sizeOf169
 t127:=Tryz.underlying151
 a127:=Tryz.isAgg151
 z127:=Tryz.sizeOf151
 v127:=Tryz.zeroValue151
 t138:=Tryz.underlying171
 a138:=Tryz.isAgg171
 z138:=Tryz.sizeOf171
 v138:=Tryz.zeroValue171
 t139:=Tryz.underlying172
 a139:=Tryz.isAgg172
 z139:=Tryz.sizeOf172
 v139:=Tryz.zeroValue172
 t146:=Tryz.underlying165
 a146:=Tryz.isAgg165
 z146:=Tryz.sizeOf165
 v146:=Tryz.zeroValue165
 t164:=Tryz.underlying95
 a164:=Tryz.isAgg95
 z164:=Tryz.sizeOf95
 v164:=Tryz.zeroValue95
 g1:=by kernel_rfl
 g3:=by kernel_rfl
 g4:=by kernel_rfl }
end Go.Proofs
namespace Go.AM
open Go
def fV (acc : Nat) : Bs → Nat
 | []=>acc
 | c :: r=>fV (acc * 10 + (c.toNat - 48)) r
theorem fV_fold (l : Bs) : ∀ acc,l.foldl (fun n c=>n * 10 + (c.toNat - 48)) acc = fV acc l:=by
 induction l with
 | nil=>exact fun _=>rfl
 | cons c r ih=>exact fun acc=>ih _
theorem fold_ge (l : Bs) : ∀ acc,acc ≤ fV acc l:=by
 induction l with
 | nil=>exact fun acc=>Nat.le_refl _
 | cons c r ih=>exact fun acc=>Nat.le_trans tO (ih (acc * 10 + (c.toNat - 48)))
theorem pu10 (l : Bs) : ∀ acc,l.all zHH = true → acc < 18446744073709551616 → Lib.parseUint10 acc l = if fV acc l < 18446744073709551616 then .ok (fV acc l) else .range:=by
 induction l with
 | nil=>
  intro acc _ h
  show Lib.NumEnd.ok acc = if acc < 18446744073709551616 then .ok acc else .range
  rw [if_pos h]
 | cons c r ih=>
  intro acc ha h
  simp only [List.all_cons,Bool.and_eq_true] at ha
  obtain ⟨hc,hr⟩:=ha
  have hd : 48 ≤ c.toNat ∧ c.toNat ≤ 57:=by simpa [zHH,Bool.and_eq_true] using hc
  have hge:=fold_ge r (acc * 10 + (c.toNat - 48))
  show Lib.parseUint10 acc (c :: r) = if fV (acc * 10 + (c.toNat - 48)) r < 18446744073709551616 then .ok (fV (acc * 10 + (c.toNat - 48)) r) else .range
  unfold Lib.parseUint10
  rw [if_pos hd]
  by_cases h1 : 1844674407370955162 ≤ acc
  ·rw [if_pos h1,if_neg tO]
  ·rw [if_neg h1]
   by_cases h2 : 18446744073709551616 ≤ acc * 10 + (c.toNat - 48)
   ·rw [if_pos h2,if_neg tO]
   ·rw [if_neg h2]
    exact ih _ hr tO
theorem pmag {l : Bs} (h0 : l ≠ []) (h : l.all zHH = true) : Lib.parseMag l = if zCZ l < 18446744073709551616 then .ok (zCZ l) else .range:=by
 unfold Lib.parseMag
 rw [if_neg h0]
 have e : zCZ l = fV 0 l:=fV_fold l 0
 rw [e]
 exact pu10 l 0 h (by decide)
theorem atoi_form {s : Bs} (h : zCs s) : Lib.atoiAll s = if zCz (zJz s) then .ok (zJz s) else .range:=by
 obtain ⟨h1,h2,h3⟩:=h
 cases s with
 | nil=>exact absurd rfl h1
 | cons c r=>
  by_cases hc : c = 45
  ·subst hc
   have hm : zCV (45 :: r) = (true,r):=rfl
   rw [hm] at h1 h3
   have hv : zJz (45 :: r) = -(zCZ r : Int):=by unfold zJz; rw [hm]; rfl
   rw [hv]
   unfold Lib.atoiAll
   have e : (45 : UInt8).toNat = 45:=rfl
   simp only [e,or_true,if_true]
   rw [pmag h1 h3]
   by_cases hb : zCZ r < 18446744073709551616
   ·rw [if_pos hb]
    simp only [not_true,false_and,if_false,true_and]
    by_cases hl : 9223372036854775808 < zCZ r
    ·rw [if_pos hl,if_neg (fun h=>by have:=h.1; omega)]
    ·rw [if_neg hl,if_pos ⟨by omega,by omega⟩]
   ·rw [if_neg hb,if_neg (fun h=>by have:=h.1; omega)]
  ·have hm : zCV (c :: r) = (false,c :: r):=zJI (fun h=>hc (Option.some.inj h))
   rw [hm] at h1 h3
   have hv : zJz (c :: r) = (zCZ (c :: r) : Int):=by unfold zJz; rw [hm]; rfl
   rw [hv]
   have hd : 48 ≤ c.toNat ∧ c.toNat ≤ 57:=by
    have h3' : (c :: r).all zHH = true:=h3
    simp only [List.all_cons,Bool.and_eq_true] at h3'
    simpa [zHH,Bool.and_eq_true] using h3'.1
   have n1 : ¬ c.toNat = 43:=by omega
   have n2 : ¬ c.toNat = 45:=by omega
   have h4:=pmag (l:=c :: r) h1 h3
   unfold Lib.atoiAll
   simp only [n1,n2,or_false,if_false]
   rw [h4]
   by_cases hb : zCZ (c :: r) < 18446744073709551616
   ·rw [if_pos hb]
    simp only [not_false_eq_true,true_and,false_and,if_false]
    by_cases hl : 9223372036854775808 ≤ zCZ (c :: r)
    ·rw [if_pos hl,if_neg (fun h=>by have:=h.2; omega)]
    ·rw [if_neg hl,if_pos ⟨by omega,by omega⟩]
   ·rw [if_neg hb,if_neg (fun h=>by have:=h.2; omega)]
end Go.AM
namespace Go.AM
open Go
def cntF (part new : List UInt8) : Nat → List UInt8 → Nat × List UInt8
 | 0,_=>(0,[])
 | _ + 1,[]=>(0,[])
 | k + 1,c :: r=>if part.isPrefixOf (c :: r) = true then ((cntF part new k ((c :: r).drop part.length)).1 + 1,new ++ (cntF part new k ((c :: r).drop part.length)).2) else ((cntF part new k r).1,c :: (cntF part new k r).2)
def zDJ (part new s : List UInt8) : Nat × List UInt8:=cntF part new s.length s
theorem cntF_stay (part new : List UInt8) (hp : 1 ≤ part.length) : ∀ (k m : Nat) (s : List UInt8),s.length ≤ k → s.length ≤ m → cntF part new k s = cntF part new m s:=by
 intro k
 induction k with
 | zero=>
  intro m s h1 _
  obtain rfl : s = []:=List.length_eq_zero_iff.1 tO
  cases m <;> rfl
 | succ k ih=>
  intro m s h1 h2
  cases s with
  | nil=>cases m <;> rfl
  | cons c r=>
   cases m with
   | zero=>simp at h2
   | succ m=>
    simp only [List.length_cons] at h1 h2
    unfold cntF
    rw [ih m r tO tO,ih m ((c :: r).drop part.length) (by simp only [List.length_drop,List.length_cons]; omega) (by simp only [List.length_drop,List.length_cons]; omega)]
theorem cntS_nil (part new : List UInt8) : zDJ part new [] = (0,[]):=rfl
theorem zIl (part new : List UInt8) (hp : 1 ≤ part.length) (s : List UInt8) (h : part.isPrefixOf s = true) : zDJ part new s = ((zDJ part new (s.drop part.length)).1 + 1,new ++ (zDJ part new (s.drop part.length)).2):=by
 cases s with
 | nil=>cases part with
  | nil=>simp at hp
  | cons a t=>simp at h
 | cons c r=>
  have e : zDJ part new ((c :: r).drop part.length) = cntF part new r.length ((c :: r).drop part.length):=by
   unfold zDJ
   exact cntF_stay part new hp _ _ _ (Nat.le_refl _) (by simp only [List.length_drop,List.length_cons]; omega)
  rw [e]
  unfold zDJ
  show cntF part new (r.length + 1) (c :: r) = _
  conv=>lhs; unfold cntF
  rw [if_pos h]
theorem zIm (part new : List UInt8) (c : UInt8) (r : List UInt8) (h : part.isPrefixOf (c :: r) = false) : zDJ part new (c :: r) = ((zDJ part new r).1,c :: (zDJ part new r).2):=by
 unfold zDJ
 show cntF part new (r.length + 1) (c :: r) = _
 conv=>lhs; unfold cntF
 rw [if_neg (by rw [h]; simp)]
theorem pre_app {part s : List UInt8} (h : part.isPrefixOf s = true) : s = part ++ s.drop part.length:=by
 obtain ⟨t,rfl⟩:=List.isPrefixOf_iff_prefix.1 h
 simp
theorem cntS_same (part : List UInt8) (hp : 1 ≤ part.length) : ∀ (k : Nat) (s : List UInt8),s.length ≤ k → (zDJ part part s).2 = s:=by
 intro k
 induction k with
 | zero=>
  intro s h
  obtain rfl : s = []:=List.length_eq_zero_iff.1 tO
  rfl
 | succ k ih=>
  intro s h
  cases s with
  | nil=>rfl
  | cons c r=>
   cases hb : part.isPrefixOf (c :: r) with
   | true=>
    rw [zIl part part hp _ hb]
    show part ++ (zDJ part part ((c :: r).drop part.length)).2 = c :: r
    rw [ih _ (by simp only [List.length_drop,List.length_cons] at *; omega)]
    exact (pre_app hb).symm
   | false=>
    rw [zIm part part c r hb]
    show c :: (zDJ part part r).2 = c :: r
    rw [ih r (by simp only [List.length_cons] at h; omega)]
theorem index_nil (part : List UInt8) (hp : 1 ≤ part.length) : Lib.index [] part = -1:=by
 unfold Lib.index
 cases part with
 | nil=>simp at hp
 | cons a t=>rfl
theorem index_pre {part s : List UInt8} (h : part.isPrefixOf s = true) : Lib.index s part = 0:=by
 cases s with
 | nil=>unfold Lib.index; cases part with
  | nil=>rfl
  | cons a t=>simp at h
 | cons c r=>unfold Lib.index; rw [if_pos h]
theorem index_skip (part : List UInt8) (c : UInt8) (r : List UInt8) (h : part.isPrefixOf (c :: r) = false) : Lib.index (c :: r) part = if Lib.index r part = -1 then -1 else Lib.index r part + 1:=by
 conv=>lhs; unfold Lib.index
 rw [h]
 simp only [Bool.false_eq_true,if_false,beq_iff_eq]
theorem zHU (part : List UInt8) (hp : 1 ≤ part.length) : ∀ (k m : Nat) (s : List UInt8),s.length < k → s.length < m → Lib.countFrom part k s = Lib.countFrom part m s:=by
 intro k
 induction k with
 | zero=>intro m s h _; omega
 | succ k ih=>
  intro m s h1 h2
  cases m with
  | zero=>omega
  | succ m=>
   unfold Lib.countFrom
   by_cases hi : (Lib.index s part == -1) = true
   ·rw [if_pos hi,if_pos hi]
   ·rw [if_neg hi,if_neg hi]
    have hge:=Lib.index_ge s part
    have hne : Lib.index s part ≠ -1:=fun e=>hi (tE e)
    have hr:=Lib.index_room s part tO
    rw [ih m (s.drop ((Lib.index s part).toNat + part.length)) (by rw [List.length_drop]; omega) (by rw [List.length_drop]; omega)]
theorem lcount_hit (part : List UInt8) (hp : 1 ≤ part.length) (s : List UInt8) (h : part.isPrefixOf s = true) : Lib.count s part = 1 + Lib.count (s.drop part.length) part:=by
 have hi:=index_pre h
 have hr:=Lib.index_room s part tO
 unfold Lib.count
 conv=>lhs; unfold Lib.countFrom
 rw [if_neg (by rw [hi]; simp),hi]
 show 1 + Lib.countFrom part s.length (s.drop (0 + part.length)) = _
 rw [Nat.zero_add,zHU part hp s.length ((s.drop part.length).length + 1) _ (by rw [List.length_drop]; omega) tO]
theorem lcount_miss (part : List UInt8) (hp : 1 ≤ part.length) (c : UInt8) (r : List UInt8) (h : part.isPrefixOf (c :: r) = false) : Lib.count (c :: r) part = Lib.count r part:=by
 have hi:=index_skip part c r h
 unfold Lib.count
 conv=>lhs; unfold Lib.countFrom
 conv=>rhs; unfold Lib.countFrom
 by_cases h1 : Lib.index r part = -1
 ·rw [if_pos h1] at hi
  rw [hi,h1]; rfl
 ·rw [if_neg h1] at hi
  have hge:=Lib.index_ge r part
  have hr:=Lib.index_room r part tO
  have n1 : ¬ ((Lib.index (c :: r) part == -1) = true):=fun e=>by have:=beq_iff_eq.1 e; omega
  have n2 : ¬ ((Lib.index r part == -1) = true):=fun e=>by have:=beq_iff_eq.1 e; omega
  rw [if_neg n1,if_neg n2,hi]
  have e : (Lib.index r part + 1).toNat + part.length = ((Lib.index r part).toNat + part.length) + 1:=by omega
  rw [e,List.drop_succ_cons]
  rw [zHU part hp (c :: r).length r.length _ (by simp only [List.length_drop,List.length_cons]; omega) (by rw [List.length_drop]; omega)]
theorem lrep_miss (part new : List UInt8) (c : UInt8) (r : List UInt8) (h : part.isPrefixOf (c :: r) = false) (k : Nat) : Lib.replaceK part new k (c :: r) = c :: Lib.replaceK part new k r:=by
 cases k with
 | zero=>rfl
 | succ k=>
  have hi:=index_skip part c r h
  unfold Lib.replaceK
  by_cases h1 : Lib.index r part = -1
  ·rw [if_pos h1] at hi
   rw [hi,h1]; rfl
  ·rw [if_neg h1] at hi
   have hge:=Lib.index_ge r part
   have n1 : ¬ ((Lib.index (c :: r) part == -1) = true):=fun e=>by have:=beq_iff_eq.1 e; omega
   have n2 : ¬ ((Lib.index r part == -1) = true):=fun e=>by have:=beq_iff_eq.1 e; omega
   rw [if_neg n1,if_neg n2,hi]
   have e : (Lib.index r part + 1).toNat = (Lib.index r part).toNat + 1:=by omega
   rw [e,List.take_succ_cons,show (Lib.index r part).toNat + 1 + part.length = ((Lib.index r part).toNat + part.length) + 1 from by omega,List.drop_succ_cons]
   rfl
theorem lrep_hit (part new : List UInt8) (s : List UInt8) (h : part.isPrefixOf s = true) (k : Nat) : Lib.replaceK part new (k + 1) s = new ++ Lib.replaceK part new k (s.drop part.length):=by
 have hi:=index_pre h
 rw [Lib.replaceK_hit part new k s 0 hi]
 simp
theorem cntS_is (part new : List UInt8) (hp : 1 ≤ part.length) : ∀ (k : Nat) (s : List UInt8),s.length ≤ k → (zDJ part new s).1 = Lib.count s part ∧ (zDJ part new s).2 = Lib.replaceK part new (Lib.count s part) s:=by
 intro k
 induction k with
 | zero=>
  intro s h
  obtain rfl : s = []:=List.length_eq_zero_iff.1 tO
  have hc : Lib.count [] part = 0:=by
   unfold Lib.count Lib.countFrom
   rw [index_nil part hp]; rfl
  rw [hc]
  exact ⟨rfl,rfl⟩
 | succ k ih=>
  intro s h
  cases s with
  | nil=>
   have hc : Lib.count [] part = 0:=by
    unfold Lib.count Lib.countFrom
    rw [index_nil part hp]; rfl
   rw [hc]
   exact ⟨rfl,rfl⟩
  | cons c r=>
   cases hb : part.isPrefixOf (c :: r) with
   | true=>
    obtain ⟨h1,h2⟩:=ih ((c :: r).drop part.length) (by simp only [List.length_drop,List.length_cons] at *; omega)
    rw [zIl part new hp _ hb,lcount_hit part hp _ hb,Nat.add_comm 1,lrep_hit part new _ hb]
    exact ⟨by rw [h1],by rw [h2]⟩
   | false=>
    obtain ⟨h1,h2⟩:=ih r (by simp only [List.length_cons] at h; omega)
    rw [zIm part new c r hb,lcount_miss part hp c r hb,lrep_miss part new c r hb]
    exact ⟨h1,by rw [h2]⟩
theorem cnt_count (part new s : List UInt8) (hp : 1 ≤ part.length) : (zDJ part new s).1 = Lib.count s part:=(cntS_is part new hp s.length s (Nat.le_refl _)).1
theorem cnt_rep (part new s : List UInt8) (hp : 1 ≤ part.length) : (zDJ part new s).2 = Lib.replaceAll s part new:=by
 unfold Lib.replaceAll Lib.replace
 by_cases he : (part == new) = true
 ·rw [if_pos he]
  obtain rfl:=beq_iff_eq.1 he
  exact cntS_same part hp s.length s (Nat.le_refl _)
 ·rw [if_neg he,(cntS_is part new hp s.length s (Nat.le_refl _)).2]
  unfold Lib.replaceNum
  rw [if_pos (.inl (by decide))]
theorem zKC (part new : List UInt8) (hp : 1 ≤ part.length) : zDJ part new part = (1,new):=by
 have h : part.isPrefixOf part = true:=List.isPrefixOf_iff_prefix.2 (List.prefix_refl _)
 rw [zIl part new hp part h,List.drop_length,cntS_nil]
 simp
end Go.AM
set_option maxRecDepth 100000
namespace Go.Proofs
open Go.Shelf Go.RowKit Go.AM
theorem Tryz.atoi_number : Tryz.ownAtoi_ren.f 172 = zAq:=by kernel_rfl
theorem Tryz.count_number : Tryz.ownCount_ren.f 138 = zC5:=by kernel_rfl
theorem Tryz.replace_number : Tryz.ownReplace_ren.f 155 = zBZ:=by kernel_rfl
theorem Tryz.extraReplace : Builder.Extra Tryz.prog Tryz.ownReplace_ren:={
 sizeBuilder:=by kernel_rfl
 liesBuilder:=by kernel_rfl
 t5:=Tryz.ownReplace.t5
 a5:=Tryz.ownReplace.a5
 z5:=Tryz.ownReplace.z5
 v5:=Tryz.ownReplace.v5
 infoByte:=by kernel_rfl
 cellsByte:=by kernel_rfl
 sizeByte:=by kernel_rfl
 neB5:=by decide }
section
variable {m : Int} {ev : Value}
theorem max_at {w : World} {M : AMap} {I : Nat → Prop} {H : Heap} (hS : Sim (gtQ m ev) w M I H) : w.cell? ⟨1,0,none⟩ = some (.int .i64 m):=by
 have h0:=hS.glob 1 (.int .i64 m) rfl
 cases h0 with
 | lref _ _ _ _ V hI hx hvv hr=>
  have h1:=hvv 0 (.int .i64 m) rfl
  have h2:=hr 0 (.int .i64 m) rfl
  rw [h1,rel_int' h2]
theorem range_at {w : World} {M : AMap} {I : Nat → Prop} {H : Heap} (hS : Sim (gtQ m ev) w M I H) : w.cell? ⟨7,0,none⟩ = some ev:=by
 have h0:=hS.glob 7 (.raw ev) rfl
 cases h0 with
 | lref _ _ _ _ V hI hx hvv hr=>
  have h1:=hvv 0 (.raw ev) rfl
  have h2:=hr 0 (.raw ev) rfl
  rw [h1,rel_raw' h2]
theorem relL_three {w : World} {M : AMap} {I : Nat → Prop} {n : Nat} {x y z : AV} {vs : List Value} (h : zCx w M I n [x,y,z] vs) : ∃ v u t,vs = [v,u,t] ∧ Rel w M I n x v ∧ Rel w M I n y u ∧ Rel w M I n z t:=by
 obtain ⟨hl,h⟩:=h
 match vs,hl with
 | [v,u,t],_=>exact ⟨v,u,t,rfl,h 0 x v rfl rfl,h 1 y u rfl rfl,h 2 z t rfl rfl⟩
theorem zDX (s : Bs) : (⟨s.toArray⟩ : ByteArray).size = s.length:=by simp [ByteArray.size]
theorem zIn (s : Bs) : (⟨s.toArray⟩ : ByteArray).data.toList = s:=rfl
theorem atoi_ok (s : Bs) (H : Heap) (hf : zCs s) (hi : zCz (zJz s)) (hl : s.length ≤ 1000) : Go.AM.Good Tryz.prog (gtQ m ev) zAq [.str s] H (.tup [zK (zJz s),.nili]) H:=
 zDu Tryz.func142 (by kernel_rfl) (by kernel_rfl) fun w M I cargs hS hA=>by
  obtain ⟨v,rfl,hv⟩:=relL_one hA
  obtain rfl:=zEe hv
  have ha : Lib.atoiAll (⟨s.toArray⟩ : ByteArray).data.toList = .ok (zJz s):=by rw [zIn,atoi_form hf,if_pos hi]
  have h:=Any.strconv_Atoi_ok Tryz.ownAtoi ⟨s.toArray⟩ (by rw [zDX]; omega) _ ha w
  rw [Tryz.atoi_number] at h
  refine h.mono ?_
  rintro e w' ⟨he,hw⟩
  refine ⟨_,he, ?_, ?_⟩
  ·rcases hw with rfl | ⟨t,rfl⟩
   ·exact RowKit.Below.refl _ _
   ·exact Lib.bytesWorld_below _ _ _
  ·refine .tup _ [_,_] rfl fun i c v h1 h2=>?_
   match i,h1,h2 with
   | 0,h1,h2=>
    cases h1; cases h2; exact .int _ _
   | 1,h1,h2=>
    cases h1; cases h2; exact .nili
   | i + 2,h1,h2=>simp at h1
theorem atoi_bad (hev : ∃ te pe,ev = .iface te pe) (s : Bs) (H : Heap) (hf : zCs s) (hi : ¬ zCz (zJz s)) (hl : s.length ≤ 1000) : ∃ n t,Go.AM.Good Tryz.prog (gtQ m ev) zAq [.str s] H (.tup [zK n,.iface t .undef]) H:=
 ⟨Lib.atoiSat s,Tryz.ownAtoi_ren.t 168,zDu Tryz.func142 (by kernel_rfl) (by kernel_rfl) fun w M I cargs hS hA=>by
  obtain ⟨v,rfl,hv⟩:=relL_one hA
  obtain rfl:=zEe hv
  have ha : Lib.atoiAll (⟨s.toArray⟩ : ByteArray).data.toList = .range:=by rw [zIn,atoi_form hf,if_neg hi]
  have h:=Any.strconv_Atoi_range Tryz.ownAtoi ⟨s.toArray⟩ (by rw [zDX]; omega) ha ev w (range_at hS) (.inr hev)
  rw [Tryz.atoi_number] at h
  refine h.mono ?_
  rintro e w' ⟨N,he,_,_,hB⟩
  refine ⟨_,he,hB, ?_⟩
  refine .tup _ [_,_] rfl fun i c v h1 h2=>?_
  match i,h1,h2 with
  | 0,h1,h2=>
   cases h1; cases h2; exact .int _ _
  | 1,h1,h2=>
   cases h1; cases h2; exact .iface _ _ _ (.undef _)
  | i + 2,h1,h2=>simp at h1⟩
theorem count_good (s part new : Bs) (H : Heap) (hp : 1 ≤ part.length) (hl : s.length ≤ 1000) : Go.AM.Good Tryz.prog (gtQ m ev) zC5 [.str s,.str part] H (zJ (zDJ part new s).1) H:=
 zDu Tryz.func27 (by kernel_rfl) (by kernel_rfl) fun w M I cargs hS hA=>by
  obtain ⟨v,u,rfl,hv,hu⟩:=relL_two hA
  obtain rfl:=zEe hv
  obtain rfl:=zEe hu
  have h:=Any.strings_Count_any { Tryz.ownCount with } ⟨s.toArray⟩ ⟨part.toArray⟩ m w (by rw [zDX]; omega) (max_at hS) (by rw [zDX]; exact hp)
  have e1 : Lib.countB ⟨s.toArray⟩ ⟨part.toArray⟩ = (zDJ part new s).1:=(cnt_count part new s hp).symm
  rw [Tryz.count_number,e1] at h
  refine h.mono ?_
  rintro e w' ⟨he,rfl⟩
  exact ⟨_,he,RowKit.Below.refl _ _,.int _ _⟩
theorem replace_good (s part new : Bs) (H : Heap) (hp : 1 ≤ part.length) (hl : s.length ≤ 1000) (hn : new.length ≤ 1000) : Go.AM.Good Tryz.prog (gtQ m ev) zBZ [.str s,.str part,.str new] H (.str (zDJ part new s).2) H:=
 zDu Tryz.func28 (by kernel_rfl) (by kernel_rfl) fun w M I cargs hS hA=>by
  obtain ⟨v,u,x,rfl,hv,hu,hx⟩:=relL_three hA
  obtain rfl:=zEe hv
  obtain rfl:=zEe hu
  obtain rfl:=zEe hx
  have hc : Lib.countB ⟨s.toArray⟩ ⟨part.toArray⟩ ≤ 1000:=by
   have:=Lib.countB_le ⟨part.toArray⟩ (by rw [zDX]; exact hp) _ ⟨s.toArray⟩ (Nat.le_refl _)
   rw [zDX] at this
   omega
  have hm : Lib.countB ⟨s.toArray⟩ ⟨part.toArray⟩ * new.length ≤ 1000 * 1000:=Nat.mul_le_mul hc hn
  have h:=Any.strings_ReplaceAll Tryz.ownReplace Tryz.extraReplace ⟨s.toArray⟩ ⟨part.toArray⟩ ⟨new.toArray⟩ m w (by rw [zDX]; omega) (max_at hS) (by rw [zDX]; exact hp) (by rw [zDX,zDX]; omega)
  rw [Tryz.replace_number,zIn,zIn,zIn,← cnt_rep part new s hp] at h
  refine h.mono ?_
  rintro e w' ⟨he,hB⟩
  exact ⟨_,he,hB,.str _⟩
end
end Go.Proofs
set_option maxRecDepth 20000
namespace Go.AM
open Go Go.RowKit
section
variable {H : Type} {enc : TypeId × Value → H} {P : Program} {w : World} {held : Bool}
theorem laid_str {fuel : Nat} {t : TypeId} {cs : List Value} {l : List UInt8} {ps : List MemPlace} (hu : P.underlying t = some .string) (h : DataW.trod enc P w 0 (fun _=>true) held fuel t cs = some (.lit (.string l),ps)) : ∃ s : ByteArray,cs = [.string s] ∧ s.data.toList = l:=by
 cases fuel with
 | zero=>simp [DataW.trod] at h
 | succ fuel=>
  rcases cs with _ | ⟨c,_ | ⟨c',cs⟩⟩
  ·simp [DataW.trod,hu] at h
  ·cases c <;> simp [DataW.trod,hu] at h
   rename_i s
   exact ⟨s,rfl,h.2.1⟩
  ·simp [DataW.trod,hu] at h
theorem laid_arr {fuel n : Nat} {t e : TypeId} {cs : List Value} {ds : List (DataW H)} {ps : List MemPlace} (hu : P.underlying t = some (.array n e)) (hc : P.cellsOf e = 1) (hn : P.cellsOf t = n) (h : DataW.trod enc P w 0 (fun _=>true) held fuel t cs = some (.agg ds,ps)) :
  cs.length = n ∧ ds.length = n ∧ ∃ fuel',∀ (i : Nat) (c : Value) (d : DataW H),cs[i]? = some c → ds[i]? = some d → ∃ p,DataW.trod enc P w 0 (fun _=>true) held fuel' e [c] = some (d,p):=by
 cases fuel with
 | zero=>simp [DataW.trod] at h
 | succ fuel=>
  simp only [DataW.trod,hu] at h
  split at h
  case isFalse=>cases h
  rename_i hl
  rw [hn] at hl
  obtain ⟨r,hr,he⟩:=Option.map_eq_some_iff.1 h
  simp only [Prod.mk.injEq,DataW.agg.injEq] at he
  obtain ⟨rfl,_⟩:=he
  obtain ⟨l1,l2⟩:=zFV hr
  rw [List.length_range] at l1
  refine ⟨hl,by rw [List.length_map,l1],fuel,fun i c d h1 h2=>?_⟩
  have hi : i < n:=by rw [← hl]; exact (zg h1).1
  obtain ⟨y,e1,e2⟩:=l2 i i (by rw [List.getElem?_range hi])
  rw [List.getElem?_map,e1] at h2
  obtain rfl:=Option.some.inj h2
  rw [hc,Nat.mul_one] at e2
  have e3 : (cs.drop i).take 1 = [c]:=by
   have hlt:=(zg h1).1
   rw [List.drop_eq_getElem_cons hlt,(zg h1).2]
   rfl
  rw [e3] at e2
  exact ⟨_,e2⟩
theorem laid_strs {fuel : Nat} {t e : TypeId} {c : Value} {ls : List (List UInt8)} {rest : List (DataW H)} {ps : List MemPlace} (hu : P.underlying t = some (.slice e)) (hs : P.underlying e = some .string) (hc : P.cellsOf e = 1)
  (h : DataW.trod enc P w 0 (fun _=>true) held fuel t [c] = some (.slice (ls.map fun l=>.lit (.string l)) rest,ps)) (hne : ls ≠ []) : Rel w (fun _=>none) (zEd w) 0 (.lst (some false) 1 (ls.map AV.str)) c:=by
 cases fuel with
 | zero=>simp [DataW.trod] at h
 | succ fuel=>
  cases c
  case slice a len cap=>
   cases a with
   | none=>cases len <;> cases cap <;> simp [DataW.trod,hu] at h
   | some a=>
    simp only [DataW.trod,hu] at h
    split at h
    case isFalse=>cases h
    rename_i hb
    obtain ⟨elems,h1,h⟩:=Option.bind_eq_some_iff.1 h
    obtain ⟨rs,h2,he⟩:=Option.map_eq_some_iff.1 h
    simp only [Prod.mk.injEq,DataW.slice.injEq] at he
    obtain ⟨⟨he,_⟩,_⟩:=he
    obtain ⟨l1,l2⟩:=zFV h1
    rw [List.length_range] at l1
    have hll : ls.length = len:=by
     have:=congrArg List.length he
     rw [List.length_map,List.length_map] at this
     omega
    have cell : ∀ (i : Nat) (l : List UInt8),ls[i]? = some l → ∃ s : ByteArray,w.cell? (a.add i) = some (.string s) ∧ s.data.toList = l:=by
     intro i l hl
     have hi : i < len:=by rw [← hll]; exact (zg hl).1
     obtain ⟨y,e1,e2⟩:=l2 i i (by rw [List.getElem?_range hi])
     obtain ⟨ci,e3,e4⟩:=Option.bind_eq_some_iff.1 e2
     obtain ⟨e5,e6⟩:=cells_spec e3
     have hy : y.1 = .lit (.string l):=by
      have h3:=congrArg (fun x : List (DataW H)=>x[i]?) he
      simp only [List.getElem?_map,e1,hl,Option.map_some,Option.some.injEq] at h3
      exact h3
     have e4 : DataW.trod enc P w 0 (fun _=>true) held fuel e ci = some (.lit (.string l),y.2):=by rw [← hy]; exact e4
     obtain ⟨s,rfl,hsl⟩:=laid_str hs e4
     have h6:=e6 0 (.string s) rfl
     rw [hc,Nat.mul_one] at h6
     refine ⟨s, ?_,hsl⟩
     have : (a.add i).add 0 = a.add i:=by
      cases a; simp [Addr.add]
     rw [this] at h6
     exact h6
    have h0 : 0 < ls.length:=List.length_pos_iff.2 hne
    obtain ⟨s0,hs0,_⟩:=cell 0 _ (List.getElem?_eq_getElem h0)
    have hs0 : w.cell? a = some (.string s0):=by simpa [Addr.add] using hs0
    obtain ⟨g1,g2⟩:=zHp hs0
    obtain ⟨ab,ao,asp⟩:=a
    simp only at g1 g2
    subst g2
    have hlm : (ls.map AV.str).length = len:=by rw [List.length_map,hll]
    rw [← hlm]
    refine Rel.mk_lst (by simp) tO hb.2.2 g1 (fun x hx=>?_) (fun i j x c hi hj=>?_)
    ·obtain ⟨l,_,rfl⟩:=List.mem_map.1 hx
     exact rfl
    ·rw [List.getElem?_map] at hi
     obtain ⟨l,hl,rfl⟩:=Option.map_eq_some_iff.1 hi
     cases j with
     | zero=>
      have : c = .str l:=by simpa [AV.cells] using hj.symm
      subst this
      obtain ⟨s,e1,e2⟩:=cell i l hl
      refine ⟨.string s, ?_, ?_⟩
      ·simp only [Addr.add_lit] at e1
       simpa using e1
      ·rw [← e2]; exact rel_str _ _ _ _ s
     | succ j=>simp [AV.cells] at hj
  all_goals (simp [DataW.trod,hu] at h)
theorem laid_iface {fuel : Nat} {t : TypeId} {ms : Array (String × TypeId)} {cs : List Value} {nm : String} {d : DataW H} {ps : List MemPlace} (hu : P.underlying t = some (.interface ms)) (h : DataW.trod enc P w 0 (fun _=>true) held fuel t cs = some (.iface nm d,ps)) : ∃ u v,cs = [.iface u v]:=by
 cases fuel with
 | zero=>simp [DataW.trod] at h
 | succ fuel=>
  rcases cs with _ | ⟨c,_ | ⟨c',cs⟩⟩
  ·simp [DataW.trod,hu] at h
  ·cases c <;> simp [DataW.trod,hu] at h
   exact ⟨_,_,rfl⟩
  ·simp [DataW.trod,hu] at h
theorem glob_strs {fuel n g : Nat} {t e : TypeId} {cs : Array Value} {ls : List (List UInt8)} {ps : List MemPlace} (hcell : ∀ j : Nat,w.cell? ⟨g,j,none⟩ = cs[j]?) (hu : P.underlying t = some (.array n e)) (hs : P.underlying e = some .string) (hc : P.cellsOf e = 1) (hn : P.cellsOf t = n) (h0 : 0 < n)
  (h : DataW.trod enc P w 0 (fun _=>true) held fuel t cs.toList = some (.agg (ls.map fun l=>.lit (.string l)),ps)) : Rel w (fun _=>none) (zEd w) 0 (.lref (.agg (ls.map AV.str)) 0) (.pointer (some ⟨g,0,none⟩)) ∧ cs.size = ls.length:=by
 obtain ⟨h1,h2,fuel',h3⟩:=laid_arr hu hc hn h
 rw [List.length_map] at h2
 have h1' : cs.size = n:=by simpa using h1
 have hat : ∀ (j : Nat) (l : List UInt8),ls[j]? = some l → ∃ s : ByteArray,w.cell? ⟨g,j,none⟩ = some (.string s) ∧ s.data.toList = l:=fun j l hl=>by
  have hj : j < cs.size:=by rw [h1',← h2]; exact (zg hl).1
  obtain ⟨p,hp⟩:=h3 j cs[j] (.lit (.string l)) (by simp [hj]) (by rw [List.getElem?_map,hl]; rfl)
  obtain ⟨s,e1,e2⟩:=laid_str hs hp
  refine ⟨s, ?_,e2⟩
  rw [hcell j,Array.getElem?_eq_getElem hj]
  simpa using e1
 refine ⟨?_,by omega⟩
 obtain ⟨l0,hl0⟩ : ∃ l,ls[0]? = some l:=⟨_,List.getElem?_eq_getElem tO⟩
 obtain ⟨s0,hs0,_⟩:=hat 0 l0 hl0
 refine Rel.mk_lref (zHp hs0).1 ?_ fun j c hj=>?_
 ·show (AV.agg (ls.map AV.str)).bel 0 = true
  simp only [AV.bel,AV.belL_iff]
  intro x hx
  obtain ⟨l,_,rfl⟩:=List.mem_map.1 hx
  rfl
 ·rw [Nat.zero_add] at hj ⊢
  have hj : (ls.map AV.str)[j]? = some c:=hj
  rw [List.getElem?_map] at hj
  obtain ⟨l,hl,rfl⟩:=Option.map_eq_some_iff.1 hj
  obtain ⟨s,e1,e2⟩:=hat j l hl
  exact ⟨_,e1,by rw [← e2]; exact rel_str _ _ _ _ s⟩
theorem glob_strss {fuel n g : Nat} {t u e : TypeId} {cs : Array Value} {lss : List (List (List UInt8))} {ps : List MemPlace} (hcell : ∀ j : Nat,w.cell? ⟨g,j,none⟩ = cs[j]?) (hu : P.underlying t = some (.array n u)) (hu2 : P.underlying u = some (.slice e)) (hs : P.underlying e = some .string) (hc2 : P.cellsOf u = 1) (hc : P.cellsOf e = 1) (hn : P.cellsOf t = n) (h0 : 0 < n)
  (hne : ∀ ls ∈ lss,ls ≠ []) (h : DataW.trod enc P w 0 (fun _=>true) held fuel t cs.toList = some (.agg (lss.map fun ls=>.slice (ls.map fun l=>.lit (.string l)) []),ps)) : Rel w (fun _=>none) (zEd w) 0 (.lref (.agg (lss.map fun ls=>.lst (some false) 1 (ls.map AV.str))) 0) (.pointer (some ⟨g,0,none⟩)) ∧ cs.size = lss.length:=by
 obtain ⟨h1,h2,fuel',h3⟩:=laid_arr hu hc2 hn h
 rw [List.length_map] at h2
 have h1' : cs.size = n:=by simpa using h1
 have hat : ∀ (j : Nat) (ls : List (List UInt8)),lss[j]? = some ls → ∃ v : Value,w.cell? ⟨g,j,none⟩ = some v ∧ Rel w (fun _=>none) (zEd w) 0 (.lst (some false) 1 (ls.map AV.str)) v:=fun j ls hl=>by
  have hj : j < cs.size:=by rw [h1',← h2]; exact (zg hl).1
  obtain ⟨p,hp⟩:=h3 j cs[j] (.slice (ls.map fun l=>.lit (.string l)) []) (by simp [hj]) (by rw [List.getElem?_map,hl]; rfl)
  exact ⟨cs[j],by rw [hcell j,Array.getElem?_eq_getElem hj],laid_strs hu2 hs hc hp (hne ls (List.mem_of_getElem? hl))⟩
 refine ⟨?_,by omega⟩
 obtain ⟨l0,hl0⟩ : ∃ l,lss[0]? = some l:=⟨_,List.getElem?_eq_getElem tO⟩
 obtain ⟨s0,hs0,_⟩:=hat 0 l0 hl0
 refine Rel.mk_lref (zHp hs0).1 ?_ fun j c hj=>?_
 ·show (AV.agg (lss.map fun ls=>.lst (some false) 1 (ls.map AV.str))).bel 0 = true
  simp only [AV.bel,AV.belL_iff]
  intro x hx
  obtain ⟨l,_,rfl⟩:=List.mem_map.1 hx
  rfl
 ·rw [Nat.zero_add] at hj ⊢
  have hj : (lss.map fun ls=>AV.lst (some false) 1 (ls.map AV.str))[j]? = some c:=hj
  rw [List.getElem?_map] at hj
  obtain ⟨l,hl,rfl⟩:=Option.map_eq_some_iff.1 hj
  exact hat j l hl
end
end Go.AM
