/- Several texts of mine in one (ItQ, Am25, Am27, Am29, Fp0). Own work. -/
import Derived.Shelf.LaysC
import Derived.Shelf.LaysM
import Derived.Ground.NamesProg
import Derived.Test.YtgcggndacnmhfaaDoorProg
import Derived.Test.YtgcggndacnmhfaaDoorGAm22Cc
set_option linter.all false
namespace Go.Proofs
open Go.Shelf
def Tryd.ownItoa_ren : Go.Shelf.Ren:=⟨fun | 171=>19 | 243=>34 | 246=>55 | 283=>35 | 284=>36 | 285=>37 | 286=>38 | 129=>57 | 317=>56 | 318=>58 | 319=>59 | 320=>60 | 337=>73 | 338=>74 | n=>n,fun | 3=>3 | 9=>9 | 2=>2 | 4=>4 | 171=>67 | 0=>0 | 53=>38 | 37=>29 | 5=>5 | 173=>70 | 212=>89 | 51=>72 | 20=>20 | 213=>90 | 46=>52 | 232=>116 | 233=>117 | n=>n,fun | 17=>1 | 18=>5 | 19=>6 | n=>n⟩
theorem Tryd.ownItoa : Go.Proofs.LaysM.n171 Tryd.prog Tryd.ownItoa_ren:={
 mixed:=by kernel_rfl
 f129:=Tryd.func57.trans (congrArg some (by kernel_rfl))
 f171:=Tryd.func19.trans (congrArg some (by kernel_rfl))
 f243:=Tryd.func34.trans (congrArg some (by kernel_rfl))
 f246:=Tryd.func55.trans (congrArg some (by kernel_rfl))
 f283:=Tryd.func35.trans (congrArg some (by kernel_rfl))
 f284:=Tryd.func36.trans (congrArg some (by kernel_rfl))
 f285:=Tryd.func37.trans (congrArg some (by kernel_rfl))
 f286:=Tryd.func38.trans (congrArg some (by kernel_rfl))
 f317:=Tryd.func56.trans (congrArg some (by kernel_rfl))
 f318:=Tryd.func58.trans (congrArg some (by kernel_rfl))
 f319:=Tryd.func59.trans (congrArg some (by kernel_rfl))
 f320:=Tryd.func60.trans (congrArg some (by kernel_rfl))
 f337:=Tryd.func73.trans (congrArg some (by kernel_rfl))
 f338:=Tryd.func74.trans (congrArg some (by kernel_rfl))
 t0:=Tryd.underlying0
 a0:=Tryd.isAgg0
 z0:=Tryd.sizeOf0
 v0:=Tryd.zeroValue0
 t2:=Tryd.underlying2
 a2:=Tryd.isAgg2
 z2:=Tryd.sizeOf2
 v2:=Tryd.zeroValue2
 t3:=Tryd.underlying3
 a3:=Tryd.isAgg3
 z3:=Tryd.sizeOf3
 v3:=Tryd.zeroValue3
 t4:=Tryd.underlying4
 a4:=Tryd.isAgg4
 z4:=Tryd.sizeOf4
 v4:=Tryd.zeroValue4
 t5:=Tryd.underlying5
 a5:=Tryd.isAgg5
 z5:=Tryd.sizeOf5
 v5:=Tryd.zeroValue5
 t9:=Tryd.underlying9
 a9:=Tryd.isAgg9
 z9:=Tryd.sizeOf9
 v9:=Tryd.zeroValue9
 t20:=Tryd.underlying20
 a20:=Tryd.isAgg20
 z20:=Tryd.sizeOf20
 v20:=Tryd.zeroValue20
 t37:=Tryd.underlying29
 a37:=Tryd.isAgg29
 z37:=Tryd.sizeOf29
 v37:=Tryd.zeroValue29
 t46:=Tryd.underlying52
 a46:=Tryd.isAgg52
 z46:=Tryd.sizeOf52
 v46:=Tryd.zeroValue52
 t51:=Tryd.underlying72
 a51:=Tryd.isAgg72
 z51:=Tryd.sizeOf72
 v51:=Tryd.zeroValue72
 t53:=Tryd.underlying38
 a53:=Tryd.isAgg38
 z53:=Tryd.sizeOf38
 v53:=Tryd.zeroValue38
 t171:=Tryd.underlying67
 a171:=Tryd.isAgg67
 z171:=Tryd.sizeOf67
 v171:=Tryd.zeroValue67
 t173:=Tryd.underlying70
 a173:=Tryd.isAgg70
 z173:=Tryd.sizeOf70
 v173:=Tryd.zeroValue70
 t212:=Tryd.underlying89
 a212:=Tryd.isAgg89
 z212:=Tryd.sizeOf89
 v212:=Tryd.zeroValue89
 t213:=Tryd.underlying90
 a213:=Tryd.isAgg90
 z213:=Tryd.sizeOf90
 t232:=Tryd.underlying116
 a232:=Tryd.isAgg116
 z232:=Tryd.sizeOf116
 v232:=Tryd.zeroValue116
 t233:=Tryd.underlying117
 a233:=Tryd.isAgg117
 z233:=Tryd.sizeOf117
 v233:=Tryd.zeroValue117
 g17:=by kernel_rfl
 g18:=by kernel_rfl
 g19:=by kernel_rfl
 i0:=by kernel_rfl
 i2:=by kernel_rfl
 i3:=by kernel_rfl
 i4:=by kernel_rfl
 i5:=by kernel_rfl
 i9:=by kernel_rfl
 i20:=by kernel_rfl
 i37:=by kernel_rfl
 i46:=by kernel_rfl
 i51:=by kernel_rfl
 i53:=by kernel_rfl
 i171:=by kernel_rfl
 i173:=by kernel_rfl
 i212:=by kernel_rfl
 i232:=by kernel_rfl
 i233:=by kernel_rfl
 m17:=by kernel_rfl
 m18:=by kernel_rfl
 m19:=by kernel_rfl }
def Tryd.ownRepeat_ren : Go.Shelf.Ren:=⟨fun | 105=>10 | 212=>21 | 99=>22 | 165=>23 | 166=>24 | 170=>25 | 169=>26 | 263=>39 | 264=>40 | 206=>41 | 240=>42 | 241=>43 | 276=>61 | 277=>62 | n=>n,fun | 9=>9 | 3=>3 | 4=>4 | 20=>20 | 0=>0 | 46=>52 | 109=>53 | 5=>5 | 72=>58 | 76=>60 | 51=>72 | 146=>73 | 53=>38 | 148=>75 | 70=>56 | 37=>29 | 75=>23 | 127=>77 | 164=>93 | 80=>63 | n=>n,fun | n=>n⟩
theorem Tryd.ownRepeat : Go.Proofs.Lays.n105 Tryd.prog Tryd.ownRepeat_ren:={
 mixed:=by kernel_rfl
 f99:=Tryd.func22.trans (congrArg some (by kernel_rfl))
 f105:=Tryd.func10.trans (congrArg some (by kernel_rfl))
 f165:=Tryd.func23.trans (congrArg some (by kernel_rfl))
 f166:=Tryd.func24.trans (congrArg some (by kernel_rfl))
 f169:=Tryd.func26.trans (congrArg some (by kernel_rfl))
 f170:=Tryd.func25.trans (congrArg some (by kernel_rfl))
 f206:=Tryd.func41.trans (congrArg some (by kernel_rfl))
 f212:=Tryd.func21.trans (congrArg some (by kernel_rfl))
 f240:=Tryd.func42.trans (congrArg some (by kernel_rfl))
 f241:=Tryd.func43.trans (congrArg some (by kernel_rfl))
 f263:=Tryd.func39.trans (congrArg some (by kernel_rfl))
 f264:=Tryd.func40.trans (congrArg some (by kernel_rfl))
 f276:=Tryd.func61.trans (congrArg some (by kernel_rfl))
 f277:=Tryd.func62.trans (congrArg some (by kernel_rfl))
 t0:=Tryd.underlying0
 a0:=Tryd.isAgg0
 z0:=Tryd.sizeOf0
 v0:=Tryd.zeroValue0
 t3:=Tryd.underlying3
 a3:=Tryd.isAgg3
 z3:=Tryd.sizeOf3
 v3:=Tryd.zeroValue3
 t4:=Tryd.underlying4
 a4:=Tryd.isAgg4
 z4:=Tryd.sizeOf4
 v4:=Tryd.zeroValue4
 t5:=Tryd.underlying5
 a5:=Tryd.isAgg5
 z5:=Tryd.sizeOf5
 v5:=Tryd.zeroValue5
 t9:=Tryd.underlying9
 a9:=Tryd.isAgg9
 z9:=Tryd.sizeOf9
 v9:=Tryd.zeroValue9
 t20:=Tryd.underlying20
 a20:=Tryd.isAgg20
 z20:=Tryd.sizeOf20
 v20:=Tryd.zeroValue20
 t37:=Tryd.underlying29
 a37:=Tryd.isAgg29
 z37:=Tryd.sizeOf29
 v37:=Tryd.zeroValue29
 t46:=Tryd.underlying52
 a46:=Tryd.isAgg52
 z46:=Tryd.sizeOf52
 v46:=Tryd.zeroValue52
 t51:=Tryd.underlying72
 a51:=Tryd.isAgg72
 z51:=Tryd.sizeOf72
 v51:=Tryd.zeroValue72
 t53:=Tryd.underlying38
 a53:=Tryd.isAgg38
 z53:=Tryd.sizeOf38
 v53:=Tryd.zeroValue38
 t70:=Tryd.underlying56
 a70:=Tryd.isAgg56
 z70:=Tryd.sizeOf56
 v70:=Tryd.zeroValue56
 t72:=Tryd.underlying58
 a72:=Tryd.isAgg58
 z72:=Tryd.sizeOf58
 v72:=Tryd.zeroValue58
 t75:=Tryd.underlying23
 a75:=Tryd.isAgg23
 z75:=Tryd.sizeOf23
 v75:=Tryd.zeroValue23
 t76:=Tryd.underlying60
 a76:=Tryd.isAgg60
 z76:=Tryd.sizeOf60
 v76:=Tryd.zeroValue60
 t109:=Tryd.underlying53
 a109:=Tryd.isAgg53
 z109:=Tryd.sizeOf53
 v109:=Tryd.zeroValue53
 t127:=Tryd.underlying77
 a127:=Tryd.isAgg77
 z127:=Tryd.sizeOf77
 v127:=Tryd.zeroValue77
 t146:=Tryd.underlying73
 a146:=Tryd.isAgg73
 z146:=Tryd.sizeOf73
 v146:=Tryd.zeroValue73
 t148:=Tryd.underlying75
 a148:=Tryd.isAgg75
 z148:=Tryd.sizeOf75
 v148:=Tryd.zeroValue75
 t164:=Tryd.underlying93
 a164:=Tryd.isAgg93
 z164:=Tryd.sizeOf93
 v164:=Tryd.zeroValue93 }
def Tryd.ownCut_ren : Go.Shelf.Ren:=⟨fun | 145=>31 | 220=>54 | 219=>72 | 217=>81 | 225=>82 | 224=>83 | 267=>84 | 266=>89 | 314=>90 | n=>n,fun | 9=>9 | 4=>4 | 59=>45 | 3=>3 | 5=>5 | 46=>52 | 146=>73 | 51=>72 | n=>n,fun | 1=>2 | n=>n⟩
theorem Tryd.ownCut : Go.Proofs.Lays.n145 Tryd.prog Tryd.ownCut_ren:={
 mixed:=by kernel_rfl
 f145:=Tryd.func31.trans (congrArg some (by kernel_rfl))
 f217:=Tryd.func81.trans (congrArg some (by kernel_rfl))
 f219:=Tryd.func72.trans (congrArg some (by kernel_rfl))
 f220:=Tryd.func54.trans (congrArg some (by kernel_rfl))
 f224:=Tryd.func83.trans (congrArg some (by kernel_rfl))
 f225:=Tryd.func82.trans (congrArg some (by kernel_rfl))
 f266:=Tryd.func89.trans (congrArg some (by kernel_rfl))
 f267:=Tryd.func84.trans (congrArg some (by kernel_rfl))
 f314:=Tryd.func90.trans (congrArg some (by kernel_rfl))
 t3:=Tryd.underlying3
 a3:=Tryd.isAgg3
 z3:=Tryd.sizeOf3
 v3:=Tryd.zeroValue3
 t4:=Tryd.underlying4
 a4:=Tryd.isAgg4
 z4:=Tryd.sizeOf4
 v4:=Tryd.zeroValue4
 t5:=Tryd.underlying5
 a5:=Tryd.isAgg5
 z5:=Tryd.sizeOf5
 v5:=Tryd.zeroValue5
 t9:=Tryd.underlying9
 a9:=Tryd.isAgg9
 z9:=Tryd.sizeOf9
 v9:=Tryd.zeroValue9
 t46:=Tryd.underlying52
 a46:=Tryd.isAgg52
 z46:=Tryd.sizeOf52
 v46:=Tryd.zeroValue52
 t51:=Tryd.underlying72
 a51:=Tryd.isAgg72
 z51:=Tryd.sizeOf72
 v51:=Tryd.zeroValue72
 t59:=Tryd.underlying45
 a59:=Tryd.isAgg45
 z59:=Tryd.sizeOf45
 v59:=Tryd.zeroValue45
 t146:=Tryd.underlying73
 a146:=Tryd.isAgg73
 z146:=Tryd.sizeOf73
 v146:=Tryd.zeroValue73
 g1:=by kernel_rfl }
def Tryd.ownTrim_ren : Go.Shelf.Ren:=⟨fun | 161=>33 | 231=>45 | 227=>47 | 233=>48 | 235=>50 | 228=>63 | 197=>64 | 151=>65 | 260=>75 | 152=>76 | 137=>85 | 119=>86 | 224=>83 | 225=>82 | 217=>81 | 266=>89 | n=>n,fun | 9=>9 | 4=>4 | 3=>3 | 5=>5 | 117=>81 | 116=>80 | 0=>0 | 124=>84 | 105=>97 | 21=>21 | 119=>118 | 46=>52 | 139=>121 | 138=>120 | n=>n,fun | 3=>7 | 4=>8 | n=>n⟩
theorem Tryd.ownTrim : Go.Proofs.Lays.n161 Tryd.prog Tryd.ownTrim_ren:={
 mixed:=by kernel_rfl
 f119:=Tryd.func86.trans (congrArg some (by kernel_rfl))
 f137:=Tryd.func85.trans (congrArg some (by kernel_rfl))
 f151:=Tryd.func65.trans (congrArg some (by kernel_rfl))
 f152:=Tryd.func76.trans (congrArg some (by kernel_rfl))
 f161:=Tryd.func33.trans (congrArg some (by kernel_rfl))
 f197:=Tryd.func64.trans (congrArg some (by kernel_rfl))
 f217:=Tryd.func81.trans (congrArg some (by kernel_rfl))
 f224:=Tryd.func83.trans (congrArg some (by kernel_rfl))
 f225:=Tryd.func82.trans (congrArg some (by kernel_rfl))
 f227:=Tryd.func47.trans (congrArg some (by kernel_rfl))
 f228:=Tryd.func63.trans (congrArg some (by kernel_rfl))
 f231:=Tryd.func45.trans (congrArg some (by kernel_rfl))
 f233:=Tryd.func48.trans (congrArg some (by kernel_rfl))
 f235:=Tryd.func50.trans (congrArg some (by kernel_rfl))
 f260:=Tryd.func75.trans (congrArg some (by kernel_rfl))
 f266:=Tryd.func89.trans (congrArg some (by kernel_rfl))
 t0:=Tryd.underlying0
 a0:=Tryd.isAgg0
 z0:=Tryd.sizeOf0
 v0:=Tryd.zeroValue0
 t3:=Tryd.underlying3
 a3:=Tryd.isAgg3
 z3:=Tryd.sizeOf3
 v3:=Tryd.zeroValue3
 t4:=Tryd.underlying4
 a4:=Tryd.isAgg4
 z4:=Tryd.sizeOf4
 v4:=Tryd.zeroValue4
 t5:=Tryd.underlying5
 a5:=Tryd.isAgg5
 z5:=Tryd.sizeOf5
 v5:=Tryd.zeroValue5
 t9:=Tryd.underlying9
 a9:=Tryd.isAgg9
 z9:=Tryd.sizeOf9
 v9:=Tryd.zeroValue9
 t21:=Tryd.underlying21
 a21:=Tryd.isAgg21
 z21:=Tryd.sizeOf21
 v21:=Tryd.zeroValue21
 t46:=Tryd.underlying52
 a46:=Tryd.isAgg52
 z46:=Tryd.sizeOf52
 v46:=Tryd.zeroValue52
 t105:=Tryd.underlying97
 a105:=Tryd.isAgg97
 z105:=Tryd.sizeOf97
 v105:=Tryd.zeroValue97
 t116:=Tryd.underlying80
 a116:=Tryd.isAgg80
 z116:=Tryd.sizeOf80
 t117:=Tryd.underlying81
 a117:=Tryd.isAgg81
 z117:=Tryd.sizeOf81
 v117:=Tryd.zeroValue81
 t119:=Tryd.underlying118
 a119:=Tryd.isAgg118
 z119:=Tryd.sizeOf118
 t124:=Tryd.underlying84
 a124:=Tryd.isAgg84
 z124:=Tryd.sizeOf84
 v124:=Tryd.zeroValue84
 t138:=Tryd.underlying120
 a138:=Tryd.isAgg120
 z138:=Tryd.sizeOf120
 v138:=Tryd.zeroValue120
 t139:=Tryd.underlying121
 a139:=Tryd.isAgg121
 z139:=Tryd.sizeOf121
 v139:=Tryd.zeroValue121
 g3:=by kernel_rfl
 g4:=by kernel_rfl }
def Tryd.ownAtoi_ren : Go.Shelf.Ren:=⟨fun | 172=>29 | 244=>52 | 245=>53 | 247=>67 | 279=>68 | 280=>69 | 281=>70 | 282=>71 | 287=>78 | 316=>79 | 171=>19 | 205=>80 | 321=>87 | 322=>88 | 243=>34 | 246=>55 | 283=>35 | 284=>36 | 285=>37 | 286=>38 | 129=>57 | 317=>56 | 318=>58 | 319=>59 | 320=>60 | 337=>73 | 338=>74 | n=>n,fun | 9=>9 | 3=>3 | 75=>23 | 76=>60 | 4=>4 | 5=>5 | 167=>100 | 37=>29 | 0=>0 | 85=>101 | 2=>2 | 168=>103 | 53=>38 | 175=>109 | 46=>52 | 210=>113 | 127=>77 | 145=>127 | 143=>125 | 21=>21 | 171=>67 | 173=>70 | 212=>89 | 51=>72 | 20=>20 | 213=>90 | 232=>116 | 233=>117 | 80=>63 | n=>n,fun | 15=>3 | 16=>4 | 17=>1 | 18=>5 | 19=>6 | n=>n⟩
theorem Tryd.ownAtoi : Go.Proofs.LaysC.n172 Tryd.prog Tryd.ownAtoi_ren:={
 mixed:=by kernel_rfl
 f129:=Tryd.func57.trans (congrArg some (by kernel_rfl))
 f171:=Tryd.func19.trans (congrArg some (by kernel_rfl))
 f172:=Tryd.func29.trans (congrArg some (by kernel_rfl))
 f205:=Tryd.func80.trans (congrArg some (by kernel_rfl))
 f243:=Tryd.func34.trans (congrArg some (by kernel_rfl))
 f244:=Tryd.func52.trans (congrArg some (by kernel_rfl))
 f245:=Tryd.func53.trans (congrArg some (by kernel_rfl))
 f246:=Tryd.func55.trans (congrArg some (by kernel_rfl))
 f247:=Tryd.func67.trans (congrArg some (by kernel_rfl))
 f279:=Tryd.func68.trans (congrArg some (by kernel_rfl))
 f280:=Tryd.func69.trans (congrArg some (by kernel_rfl))
 f281:=Tryd.func70.trans (congrArg some (by kernel_rfl))
 f282:=Tryd.func71.trans (congrArg some (by kernel_rfl))
 f283:=Tryd.func35.trans (congrArg some (by kernel_rfl))
 f284:=Tryd.func36.trans (congrArg some (by kernel_rfl))
 f285:=Tryd.func37.trans (congrArg some (by kernel_rfl))
 f286:=Tryd.func38.trans (congrArg some (by kernel_rfl))
 f287:=Tryd.func78.trans (congrArg some (by kernel_rfl))
 f316:=Tryd.func79.trans (congrArg some (by kernel_rfl))
 f317:=Tryd.func56.trans (congrArg some (by kernel_rfl))
 f318:=Tryd.func58.trans (congrArg some (by kernel_rfl))
 f319:=Tryd.func59.trans (congrArg some (by kernel_rfl))
 f320:=Tryd.func60.trans (congrArg some (by kernel_rfl))
 f321:=Tryd.func87.trans (congrArg some (by kernel_rfl))
 f322:=Tryd.func88.trans (congrArg some (by kernel_rfl))
 f337:=Tryd.func73.trans (congrArg some (by kernel_rfl))
 f338:=Tryd.func74.trans (congrArg some (by kernel_rfl))
 t0:=Tryd.underlying0
 a0:=Tryd.isAgg0
 z0:=Tryd.sizeOf0
 v0:=Tryd.zeroValue0
 t2:=Tryd.underlying2
 a2:=Tryd.isAgg2
 z2:=Tryd.sizeOf2
 v2:=Tryd.zeroValue2
 t3:=Tryd.underlying3
 a3:=Tryd.isAgg3
 z3:=Tryd.sizeOf3
 v3:=Tryd.zeroValue3
 t4:=Tryd.underlying4
 a4:=Tryd.isAgg4
 z4:=Tryd.sizeOf4
 v4:=Tryd.zeroValue4
 t5:=Tryd.underlying5
 a5:=Tryd.isAgg5
 z5:=Tryd.sizeOf5
 v5:=Tryd.zeroValue5
 t9:=Tryd.underlying9
 a9:=Tryd.isAgg9
 z9:=Tryd.sizeOf9
 v9:=Tryd.zeroValue9
 t20:=Tryd.underlying20
 a20:=Tryd.isAgg20
 z20:=Tryd.sizeOf20
 v20:=Tryd.zeroValue20
 t21:=Tryd.underlying21
 a21:=Tryd.isAgg21
 z21:=Tryd.sizeOf21
 v21:=Tryd.zeroValue21
 t37:=Tryd.underlying29
 a37:=Tryd.isAgg29
 z37:=Tryd.sizeOf29
 v37:=Tryd.zeroValue29
 t46:=Tryd.underlying52
 a46:=Tryd.isAgg52
 z46:=Tryd.sizeOf52
 v46:=Tryd.zeroValue52
 t51:=Tryd.underlying72
 a51:=Tryd.isAgg72
 z51:=Tryd.sizeOf72
 v51:=Tryd.zeroValue72
 t53:=Tryd.underlying38
 a53:=Tryd.isAgg38
 z53:=Tryd.sizeOf38
 v53:=Tryd.zeroValue38
 t75:=Tryd.underlying23
 a75:=Tryd.isAgg23
 z75:=Tryd.sizeOf23
 v75:=Tryd.zeroValue23
 t76:=Tryd.underlying60
 a76:=Tryd.isAgg60
 z76:=Tryd.sizeOf60
 v76:=Tryd.zeroValue60
 t85:=Tryd.underlying101
 a85:=Tryd.isAgg101
 z85:=Tryd.sizeOf101
 v85:=Tryd.zeroValue101
 t127:=Tryd.underlying77
 a127:=Tryd.isAgg77
 z127:=Tryd.sizeOf77
 v127:=Tryd.zeroValue77
 t143:=Tryd.underlying125
 a143:=Tryd.isAgg125
 z143:=Tryd.sizeOf125
 v143:=Tryd.zeroValue125
 t145:=Tryd.underlying127
 a145:=Tryd.isAgg127
 z145:=Tryd.sizeOf127
 v145:=Tryd.zeroValue127
 t167:=Tryd.underlying100
 a167:=Tryd.isAgg100
 z167:=Tryd.sizeOf100
 v167:=Tryd.zeroValue100
 t168:=Tryd.underlying103
 a168:=Tryd.isAgg103
 z168:=Tryd.sizeOf103
 v168:=Tryd.zeroValue103
 t171:=Tryd.underlying67
 a171:=Tryd.isAgg67
 z171:=Tryd.sizeOf67
 v171:=Tryd.zeroValue67
 t173:=Tryd.underlying70
 a173:=Tryd.isAgg70
 z173:=Tryd.sizeOf70
 v173:=Tryd.zeroValue70
 t175:=Tryd.underlying109
 a175:=Tryd.isAgg109
 z175:=Tryd.sizeOf109
 v175:=Tryd.zeroValue109
 t210:=Tryd.underlying113
 a210:=Tryd.isAgg113
 z210:=Tryd.sizeOf113
 v210:=Tryd.zeroValue113
 t212:=Tryd.underlying89
 a212:=Tryd.isAgg89
 z212:=Tryd.sizeOf89
 v212:=Tryd.zeroValue89
 t213:=Tryd.underlying90
 a213:=Tryd.isAgg90
 z213:=Tryd.sizeOf90
 t232:=Tryd.underlying116
 a232:=Tryd.isAgg116
 z232:=Tryd.sizeOf116
 v232:=Tryd.zeroValue116
 t233:=Tryd.underlying117
 a233:=Tryd.isAgg117
 z233:=Tryd.sizeOf117
 v233:=Tryd.zeroValue117
 g15:=by kernel_rfl
 g16:=by kernel_rfl
 g17:=by kernel_rfl
 g18:=by kernel_rfl
 g19:=by kernel_rfl
 t80:=Tryd.underlying63
 a80:=Tryd.isAgg63
 z80:=Tryd.sizeOf63
 v80:=Tryd.zeroValue63
 i0:=by kernel_rfl
 i2:=by kernel_rfl
 i3:=by kernel_rfl
 i4:=by kernel_rfl
 i5:=by kernel_rfl
 i9:=by kernel_rfl
 i20:=by kernel_rfl
 i21:=by kernel_rfl
 i37:=by kernel_rfl
 i46:=by kernel_rfl
 i51:=by kernel_rfl
 i53:=by kernel_rfl
 i75:=by kernel_rfl
 i76:=by kernel_rfl
 i80:=by kernel_rfl
 i85:=by kernel_rfl
 i127:=by kernel_rfl
 i143:=by kernel_rfl
 i145:=by kernel_rfl
 i167:=by kernel_rfl
 i168:=by kernel_rfl
 i171:=by kernel_rfl
 i173:=by kernel_rfl
 i175:=by kernel_rfl
 i210:=by kernel_rfl
 i212:=by kernel_rfl
 i232:=by kernel_rfl
 i233:=by kernel_rfl
 m15:=by kernel_rfl
 m16:=by kernel_rfl
 m17:=by kernel_rfl
 m18:=by kernel_rfl
 m19:=by kernel_rfl
 c0:=by kernel_rfl
 c2:=by kernel_rfl
 c3:=by kernel_rfl
 c4:=by kernel_rfl
 c5:=by kernel_rfl
 c9:=by kernel_rfl
 c20:=by kernel_rfl
 c21:=by kernel_rfl
 c37:=by kernel_rfl
 c46:=by kernel_rfl
 c51:=by kernel_rfl
 c53:=by kernel_rfl
 c75:=by kernel_rfl
 c76:=by kernel_rfl
 c80:=by kernel_rfl
 c85:=by kernel_rfl
 c127:=by kernel_rfl
 c143:=by kernel_rfl
 c145:=by kernel_rfl
 c167:=by kernel_rfl
 c168:=by kernel_rfl
 c171:=by kernel_rfl
 c173:=by kernel_rfl
 c175:=by kernel_rfl
 c210:=by kernel_rfl
 c212:=by kernel_rfl
 c213:=by kernel_rfl
 c232:=by kernel_rfl
 c233:=by kernel_rfl }
end Go.Proofs
namespace Go.AM
structure retQ (F : AF) (H : Heap) (fr : Fr) (H1 : Heap) (Q : AV → Heap → Prop) : Prop where
 h : ∃ v H',zIH F H fr H1 v H' ∧ Q v H'
def zKh (F : AF) (H : Heap) (v : AV) (H' : Heap) : Post:=fun e fr H1=>match e with
  | .normal=>retP F H fr H1 v H'
  | .ret=>retP F H fr H1 v H'
  | _=>False
theorem zr {C : CSpec} {GT : Nat → Option AV} {F : AF} {args : List AV} {H : Heap} {v : AV} {H' : Heap} (h : EW C GT F.body (zKh F H v H') (zEw 0 args) H) : EFun C GT F args H v H':=h
def AC.rest : AC → AC
 | .seq _ b=>b
 | c=>c
def AC.first : AC → AC
 | .seq a _=>a
 | c=>c
def AC.body : AC → AC
 | .block _ _ c=>c
 | .loop _ c=>c
 | c=>c
def AC.behind (c : AC) : Nat → AC
 | 0=>c
 | n + 1=>(c.behind n).rest
end Go.AM
namespace Go.AM
theorem Owns.apart {H0 H : Heap} {v w : AV} {k k' : Nat} {xs ys : List AV} (h : Owns H0 H v k xs) (g : Owns H0 H w k' ys) (hne : ∀ x y,x ∈ xs → y ∈ ys → x ≠ y) {b : Nat} (hb : w.blk = some b) : v.blk ≠ some b:=by
 intro e
 rcases h with ⟨rfl,_⟩ | ⟨b1,rfl,_,h2,h3⟩
 ·cases e
 ·rcases g with ⟨rfl,_⟩ | ⟨b2,rfl,_,g2,g3⟩
  ·cases hb
  ·simp only [AV.blk,Option.some.injEq] at e hb
   subst e; subst hb
   rw [h2] at g2
   simp only [Option.some.injEq,ABlk.row.injEq] at g2
   obtain ⟨_,rfl⟩:=g2
   cases xs with
   | nil=>exact h3 rfl
   | cons x xs=>exact hne x x (by simp) (by simp) rfl
theorem Owns.after {H0 H H' : Heap} {v w : AV} {k : Nat} {ys : List AV} (hw : Owns H0 H w k ys) (hap : ∀ b,w.blk = some b → v.blk ≠ some b) (hfr : ∀ c x,v.blk ≠ some c → H[c]? = some x → H'[c]? = some x) : Owns H0 H' w k ys:=
 hw.keep fun b x hb hx=>hfr b x (hap b hb) hx
def zGE : AC → Option (List Nat)
 | .reg L _ _=>some L
 | .seq a _=>zGE a
 | .block _ _ c=>zGE c
 | .loop L _=>some L
 | .regt L _ _ _=>some L
 | .scope _ _ c _=>zGE c
 | _=>none
theorem zK7 {C : CSpec} {GT : Nat → Option AV} {fr F : Fr} {H : Heap} {L : List Nat} (hr : zJ fr L = zJ F L) : ∀ (c : AC) (K : Post),zGE c = some L → EW C GT c K F H → EW C GT c K fr H:=by
 intro c
 induction c with
 | reg L' d ops=>
  intro K h g
  simp only [zGE,Option.some.injEq] at h
  subst h
  replace g : EWops C GT ops [] (zJ F L') H (fun fr' H'=>K .normal fr' H'):=g
  rw [← hr] at g
  exact g
 | seq a b iha ihb=>intro K h g; exact iha (zKq (EW C GT b K) K) h g
 | block id L' c ih=>intro K h g; exact ih (zEj id L' K) h g
 | loop L' c ih=>
  intro K h g
  simp only [zGE,Option.some.injEq] at h
  subst h
  replace g : loopP C GT L' c K (zJ F L') H:=g
  rw [← hr] at g
  exact g
 | regt L' d ops t=>
  intro K h g
  simp only [zGE,Option.some.injEq] at h
  subst h
  replace g : EWT C GT ops t [] (zJ F L') H (fun fr' H'=>K .normal fr' H') (fun x H'=>K (.pan x) [] H'):=g
  rw [← hr] at g
  exact g
 | scope L' l c r ihc ihr=>intro K h g; exact ihc (zFb l (fun fr' H'=>gotoP C GT L' l r K (zJ fr' L') H') K) h g
 | label=>intro K h; cases h
 | goto=>intro K h; cases h
 | skip=>intro K h; cases h
 | cond=>intro K h; cases h
 | exit=>intro K h; cases h
 | ret=>intro K h; cases h
 | stuck=>intro K h; cases h
theorem zCz {C : CSpec} {GT : Nat → Option AV} {c : AC} {K : Post} {L : List Nat} {fr F : Fr} {H : Heap} (hc : zGE c = some L) (g : EW C GT c K F H) (hr : zJ fr L = zJ F L) : zKq (EW C GT c K) K .normal fr H:=
 zK7 hr c K hc g
end Go.AM
namespace Go.AM
def zAw (k : Nat) : AV:=.int .i64 k
theorem zI {b k s o : Nat} {v : AV} {cs : List AV} (cs' : List AV) {H : Heap} {K : AV → Heap → Prop} (h : H[b]? = some (.box cs)) (hl : v.cells.length = s) (h1 : v.cells.all AV.one = true) (ho : Nat.ble (o + s) cs.length = true) (he : splice cs o v.cells = cs')
  (q : K .undef (H.set b (.box cs'))) : actP (.store s) [.ref b k 0 o,v] H K:=
 zIy h hl h1 (Nat.le_of_ble_eq_true ho) (by rw [he]; exact q)
theorem zH2.one {v : AV} {k : Nat} {xs : List AV} (h : zH2 v k xs) : v.cells = [v] ∧ v.one = true:=by obtain ⟨q,k',rfl,_⟩:=h; exact ⟨rfl,rfl⟩
theorem Owns.one {H0 H : Heap} {v : AV} {k : Nat} {xs : List AV} (h : Owns H0 H v k xs) : v.cells = [v] ∧ v.one = true:=by
 rcases h with ⟨rfl,_⟩ | ⟨b',rfl,_⟩ <;> exact ⟨rfl,rfl⟩
theorem zFR {F : AF} {a s : Nat} {ag : Bool} {H H1 : Heap} {fr : Fr} {v : AV} {cs : List AV} {o : Nat} (hF : F.results = [.cell a s ag]) (hk : F.keep = false) (hp : ze H1 (zJR fr a) = some (cs,o)) (hpt : part cs o s ag = some v)
  (hf : zDW H.length v H1 = some (v,H1)) (hb : v.bel H.length = true) (ho : Old H H1) : retP F H fr H1 v H:=by
 refine zF8 hk ?_ hf hb ho
 rw [zCI] at hp
 simp only [hF,zAz,zFc,hp,hpt,Option.map_some]
 rfl
end Go.AM
set_option maxRecDepth 20000
namespace Go.AM
abbrev Bs:=List UInt8
def zLo : Bs → Nat
 | []=>0
 | c :: r=>if c = 32 then zLo r + 1 else 0
def skip (s : Bs) (a : Nat) : Nat:=a + zLo (s.drop a)
def zI0 (c : UInt8) : Bool:=c.toNat == 36 || (decide (48 ≤ c.toNat) && decide (c.toNat ≤ 57)) || (decide (65 ≤ c.toNat) && decide (c.toNat ≤ 90)) || (decide (97 ≤ c.toNat) && decide (c.toNat ≤ 122))
def runL : Bs → Nat
 | []=>0
 | c :: r=>if zI0 c = true then runL r + 1 else 0
def runW (s : Bs) (a : Nat) : Nat:=a + runL (s.drop a)
def sub (s : Bs) (a b : Nat) : Bs:=(s.drop a).take (b - a)
def quo : Bs → Nat → Option (Bs × Nat)
 | [],_=>none
 | [c],i=>if c = 34 then some ([],i + 1) else none
 | c :: d :: r,i=>if c = 34 then (if d = 34 then (quo r (i + 2)).map fun p=>(34 :: p.1,p.2) else some ([],i + 1)) else (quo (d :: r) (i + 1)).map fun p=>(c :: p.1,p.2)
def wrongs : List Bs:=[[35,68,73,86,33],[35,86,65,76,85,69,33],[35,82,69,70,33],[35,78,65,77,69,33],[35,78,85,77,33],[35,78,79,78,69,33]]
def badL (l : Bs) : List Bs → Nat → Option (Nat × Nat)
 | [],_=>none
 | t :: ts,k=>if l.take t.length = t then some (k,t.length) else badL l ts (k + 1)
inductive Tok where
 | fin
 | word (e : Nat) (t : Bs)
 | txt (e : Nat) (t : Bs)
 | bad (e k : Nat)
 | sign (e : Nat) (t : Bs)
 | none
 deriving Inhabited
def zLp (s : Bs) (a : Nat) : Tok:=
 match s[a]? with
 | .none=>.fin
 | some c=>
  if zI0 c = true then .word (runW s a) (sub s a (runW s a))
  else if c = 34 then (match quo (s.drop (a + 1)) (a + 1) with
   | some (t,e)=>.txt e t
   | .none=>.none)
  else if c = 35 then (match badL (s.drop a) wrongs 1 with
   | some (k,n)=>.bad (a + n) k
   | .none=>.none)
  else match s[a + 1]? with
   | some d=>if (c = 60 ∧ d = 62) ∨ (c = 60 ∧ d = 61) ∨ (c = 62 ∧ d = 61) then .sign (a + 2) [c,d] else .sign (a + 1) [c]
   | .none=>.sign (a + 1) [c]
def tok (s : Bs) (a : Nat) : Tok:=zLp s (skip s a)
structure RefP where
 col : Int
 row : Int
 fc : Bool
 fr : Bool
 deriving DecidableEq,Inhabited
def noRef : RefP:=⟨0,0,false,false⟩
inductive Nd where
 | mk (kind num : Int) (text : Bs) (ref to : RefP) (kids : List Nd)
 deriving Inhabited
namespace Nd
def kind : Nd → Int | mk a _ _ _ _ _=>a
def num : Nd → Int | mk _ a _ _ _ _=>a
def text : Nd → Bs | mk _ _ a _ _ _=>a
def ref : Nd → RefP | mk _ _ _ a _ _=>a
def to : Nd → RefP | mk _ _ _ _ a _=>a
def kids : Nd → List Nd | mk _ _ _ _ _ a=>a
def kk : Nd → Nat | mk _ _ _ _ _ []=>0 | mk _ _ _ _ _ (_ :: _)=>12
end Nd
def numN (n : Int) : Nd:=.mk 1 n [] noRef noRef []
def txtN (t : Bs) : Nd:=.mk 2 0 t noRef noRef []
def truN (b : Bool) : Nd:=.mk 3 (if b then 1 else 0) [] noRef noRef []
def badN (k : Nat) : Nd:=.mk 4 k [] noRef noRef []
def refN (r : RefP) : Nd:=.mk 5 0 [] r noRef []
def boxN (a b : RefP) : Nd:=.mk 6 0 [] a b []
def negN (n : Nd) : Nd:=.mk 7 0 [] noRef noRef [n]
def twoN (op : Nat) (a b : Nd) : Nd:=.mk 8 op [] noRef noRef [a,b]
def zK8 (name : Bs) (ks : List Nd) : Nd:=.mk 9 0 name noRef noRef ks
def zHD (c : UInt8) : Bool:=decide (48 ≤ c.toNat) && decide (c.toNat ≤ 57)
def zEM (l : Bs) : Nat:=l.foldl (fun n c=>n * 10 + (c.toNat - 48)) 0
def zKi (t : Bs) : Option Int:=
 if t = [] ∨ (t.head? = some 48 ∧ t ≠ [48]) then none
 else if t.all zHD = true then (if zEM t ≤ 9223372036854775807 then some (zEM t : Int) else none) else none
def capB (c : UInt8) : Bool:=decide (65 ≤ c.toNat) && decide (c.toNat ≤ 90)
def dollar : Bs → Bool × Bs
 | []=>(false,[])
 | c :: r=>if c = 36 then (true,r) else (false,c :: r)
def rowP (fc : Bool) (col : Int) (p : Bool × Bs) : Option RefP:=
 match zKi p.2 with
 | some n=>if 1 ≤ n ∧ n ≤ 99 then some ⟨col,n,fc,p.1⟩ else none
 | none=>none
def colP (p : Bool × Bs) : Option RefP:=
 match p.2 with
 | []=>none
 | c :: r=>if capB c = true then rowP p.1 ((c.toNat : Int) - 64) (dollar r) else none
def refP (t : Bs) : Option RefP:=colP (dollar t)
def zLq : Bs:=[84,82,85,69]
def zKj : Bs:=[70,65,76,83,69]
def atomP (t : Bs) : Option Nd:=
 match zKi t with
 | some n=>some (numN n)
 | none=>if t = zLq then some (truN true) else if t = zKj then some (truN false) else (refP t).map refN
def zI1 (t : Bs) : Bool:=decide (2 ≤ t.length) && decide (t.length ≤ 10) && t.all capB
def opNo (t : Bs) : Nat:=
 if t = [61] then 1 else if t = [60,62] then 2 else if t = [60] then 3 else if t = [60,61] then 4 else if t = [62] then 5 else if t = [62,61] then 6
 else if t = [38] then 7 else if t = [43] then 8 else if t = [45] then 9 else if t = [42] then 10 else if t = [47] then 11 else 0
def tight (op : Nat) : Nat:=if op ≤ 6 then 1 else if op = 7 then 2 else if op ≤ 9 then 3 else 4
def opAt (s : Bs) (a : Nat) : Option (Nat × Nat):=
 match tok s a with
 | .sign e t=>if opNo t = 0 then none else some (opNo t,e)
 | _=>none
structure Ps where
 one : Nat → Nat → Option (Nd × Nat)
 loose : Nat → Nat → Nat → Option (Nd × Nat)
 ll : Nat → Nd → Nat → Nat → Option (Nd × Nat)
 args : Bs → List Nd → Nat → Nat → Option (Nd × Nat)
def boxAt (s : Bs) (a : Nat) : Option (Option (Nd × Nat)):=
 match tok s a with
 | .word e t=>match refP t with
  | some r=>if s[e]? = some 58 then
    (match zLp s (e + 1) with
     | .word e2 t2=>some ((refP t2).map fun r2=>(boxN r r2,e2))
     | _=>some none)
    else none
  | none=>none
 | _=>none
def psOne (s : Bs) (q : Ps) (a d : Nat) : Option (Nd × Nat):=
 match tok s a with
 | .word e t=>
  if zI1 t = true ∧ s[e]? = some 40 then
   (if d = 30 then none else match tok s (e + 1) with
    | .sign e2 [41]=>some (zK8 t [],e2)
    | _=>q.args t [] (e + 1) (d + 1))
  else (atomP t).map fun n=>(n,e)
 | .txt e t=>some (txtN t,e)
 | .bad e k=>some (badN k,e)
 | .sign e [45]=>if d = 30 then none else (q.one e (d + 1)).map fun p=>(negN p.1,p.2)
 | .sign e [40]=>if d = 30 then none else (q.loose 1 e (d + 1)).bind fun p=>match tok s p.2 with
  | .sign e2 [41]=>some (p.1,e2)
  | _=>none
 | _=>none
def zK9 (q : Ps) (least a d : Nat) : Option (Nd × Nat):=(q.one a d).bind fun p=>q.ll least p.1 p.2 d
def psLl (s : Bs) (q : Ps) (least : Nat) (n : Nd) (a d : Nat) : Option (Nd × Nat):=
 match opAt s a with
 | none=>some (n,a)
 | some (op,e)=>if tight op < least then some (n,a) else (q.loose (tight op + 1) e d).bind fun p=>q.ll least (twoN op n p.1) p.2 d
def psArg (s : Bs) (q : Ps) (a d : Nat) : Option (Nd × Nat):=
 match boxAt s a with
 | some r=>r
 | none=>q.loose 1 a d
def zLr (s : Bs) (q : Ps) (name : Bs) (ks : List Nd) (a d : Nat) : Option (Nd × Nat):=
 (psArg s q a d).bind fun p=>match tok s p.2 with
  | .sign e [44]=>q.args name (ks ++ [p.1]) e d
  | .sign e [41]=>some (zK8 name (ks ++ [p.1]),e)
  | _=>none
def ps (s : Bs) : Nat → Ps
 | 0=>⟨fun _ _=>none,fun _ _ _=>none,fun _ _ _ _=>none,fun _ _ _ _=>none⟩
 | n + 1=>⟨psOne s (ps s n),zK9 (ps s n),psLl s (ps s n),zLr s (ps s n)⟩
structure Ends (s : Bs) (q : Ps) : Prop where
 one : ∀ a d p,a ≤ s.length → q.one a d = some p → a < p.2 ∧ p.2 ≤ s.length
 loose : ∀ l a d p,a ≤ s.length → q.loose l a d = some p → a < p.2 ∧ p.2 ≤ s.length
 ll : ∀ l n a d p,a ≤ s.length → q.ll l n a d = some p → a ≤ p.2 ∧ p.2 ≤ s.length
 args : ∀ nm ks a d p,a ≤ s.length → q.args nm ks a d = some p → a < p.2 ∧ p.2 ≤ s.length
end Go.AM
