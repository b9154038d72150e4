/- Several texts of mine in one (ItQ, Atp, Fnp, Itg, Lvs). Own work. -/
import Derived.Shelf.LaysC
import Derived.Shelf.LaysM
import Derived.Shelf.Strconv.AtoiAll
import Derived.Shelf.Strconv.Itoa3
import Derived.Shelf.Strings.Shaped
import Derived.Shelf.Strings.Replace
import Derived.Shelf.Strings.Builder1
import Derived.Ground.NamesProg
import Derived.Test.YtkeblfepjkdleaaGreatDoorProg
import Derived.Test.YtkeblfepjkdleaaGreatDoorGFp2Fr3
import Derived.Lib.AtoiAll
import Derived.Lib.Replace
import Derived.Test.YtkeblfepjkdleaaGreatDoorGFr7ToldQ
import Derived.KernelRfl
import Derived.Test.YtkeblfepjkdleaaGreatDoorGAm30Fp1
set_option linter.all false
namespace Go.Proofs
open Go.Shelf
def Tryz.ownAtoi_ren:Go.Shelf.Ren:=⟨fun|172=>201|244=>215|245=>216|247=>225|279=>226|280=>227|281=>228|282=>229|287=>232|316=>233|171=>144|205=>234|321=>235|322=>236|243=>175|246=>193|283=>205|284=>206|285=>207|286=>208|129=>128|317=>219|318=>220|319=>221|320=>222|337=>230|338=>231|n=>n,fun|9=>9|3=>3|75=>26|76=>168|4=>4|5=>5|167=>269|37=>108|0=>0|85=>270|2=>2|168=>272|53=>184|175=>275|46=>144|210=>279|127=>173|145=>285|143=>283|21=>21|171=>253|173=>255|212=>265|51=>182|20=>20|213=>266|232=>280|233=>281|80=>141|n=>n,fun|15=>7|16=>8|17=>6|18=>9|19=>10|n=>n⟩
theorem Tryz.ownAtoi:Go.Proofs.LaysC.n172 Tryz.prog Tryz.ownAtoi_ren:={
 mixed:=by kernel_rfl
 f129:=Tryz.func128.trans (congrArg some (by kernel_rfl))
 f171:=Tryz.func144.trans (congrArg some (by kernel_rfl))
 f172:=Tryz.func201.trans (congrArg some (by kernel_rfl))
 f205:=Tryz.func234.trans (congrArg some (by kernel_rfl))
 f243:=Tryz.func175.trans (congrArg some (by kernel_rfl))
 f244:=Tryz.func215.trans (congrArg some (by kernel_rfl))
 f245:=Tryz.func216.trans (congrArg some (by kernel_rfl))
 f246:=Tryz.func193.trans (congrArg some (by kernel_rfl))
 f247:=Tryz.func225.trans (congrArg some (by kernel_rfl))
 f279:=Tryz.func226.trans (congrArg some (by kernel_rfl))
 f280:=Tryz.func227.trans (congrArg some (by kernel_rfl))
 f281:=Tryz.func228.trans (congrArg some (by kernel_rfl))
 f282:=Tryz.func229.trans (congrArg some (by kernel_rfl))
 f283:=Tryz.func205.trans (congrArg some (by kernel_rfl))
 f284:=Tryz.func206.trans (congrArg some (by kernel_rfl))
 f285:=Tryz.func207.trans (congrArg some (by kernel_rfl))
 f286:=Tryz.func208.trans (congrArg some (by kernel_rfl))
 f287:=Tryz.func232.trans (congrArg some (by kernel_rfl))
 f316:=Tryz.func233.trans (congrArg some (by kernel_rfl))
 f317:=Tryz.func219.trans (congrArg some (by kernel_rfl))
 f318:=Tryz.func220.trans (congrArg some (by kernel_rfl))
 f319:=Tryz.func221.trans (congrArg some (by kernel_rfl))
 f320:=Tryz.func222.trans (congrArg some (by kernel_rfl))
 f321:=Tryz.func235.trans (congrArg some (by kernel_rfl))
 f322:=Tryz.func236.trans (congrArg some (by kernel_rfl))
 f337:=Tryz.func230.trans (congrArg some (by kernel_rfl))
 f338:=Tryz.func231.trans (congrArg some (by kernel_rfl))
 t0:=Tryz.underlying0
 a0:=Tryz.isAgg0
 z0:=Tryz.sizeOf0
 v0:=Tryz.zeroValue0
 t2:=Tryz.underlying2
 a2:=Tryz.isAgg2
 z2:=Tryz.sizeOf2
 v2:=Tryz.zeroValue2
 t3:=Tryz.underlying3
 a3:=Tryz.isAgg3
 z3:=Tryz.sizeOf3
 v3:=Tryz.zeroValue3
 t4:=Tryz.underlying4
 a4:=Tryz.isAgg4
 z4:=Tryz.sizeOf4
 v4:=Tryz.zeroValue4
 t5:=Tryz.underlying5
 a5:=Tryz.isAgg5
 z5:=Tryz.sizeOf5
 v5:=Tryz.zeroValue5
 t9:=Tryz.underlying9
 a9:=Tryz.isAgg9
 z9:=Tryz.sizeOf9
 v9:=Tryz.zeroValue9
 t20:=Tryz.underlying20
 a20:=Tryz.isAgg20
 z20:=Tryz.sizeOf20
 v20:=Tryz.zeroValue20
 t21:=Tryz.underlying21
 a21:=Tryz.isAgg21
 z21:=Tryz.sizeOf21
 v21:=Tryz.zeroValue21
 t37:=Tryz.underlying108
 a37:=Tryz.isAgg108
 z37:=Tryz.sizeOf108
 v37:=Tryz.zeroValue108
 t46:=Tryz.underlying144
 a46:=Tryz.isAgg144
 z46:=Tryz.sizeOf144
 v46:=Tryz.zeroValue144
 t51:=Tryz.underlying182
 a51:=Tryz.isAgg182
 z51:=Tryz.sizeOf182
 v51:=Tryz.zeroValue182
 t53:=Tryz.underlying184
 a53:=Tryz.isAgg184
 z53:=Tryz.sizeOf184
 v53:=Tryz.zeroValue184
 t75:=Tryz.underlying26
 a75:=Tryz.isAgg26
 z75:=Tryz.sizeOf26
 v75:=Tryz.zeroValue26
 t76:=Tryz.underlying168
 a76:=Tryz.isAgg168
 z76:=Tryz.sizeOf168
 v76:=Tryz.zeroValue168
 t85:=Tryz.underlying270
 a85:=Tryz.isAgg270
 z85:=Tryz.sizeOf270
 v85:=Tryz.zeroValue270
 t127:=Tryz.underlying173
 a127:=Tryz.isAgg173
 z127:=Tryz.sizeOf173
 v127:=Tryz.zeroValue173
 t143:=Tryz.underlying283
 a143:=Tryz.isAgg283
 z143:=Tryz.sizeOf283
 v143:=Tryz.zeroValue283
 t145:=Tryz.underlying285
 a145:=Tryz.isAgg285
 z145:=Tryz.sizeOf285
 v145:=Tryz.zeroValue285
 t167:=Tryz.underlying269
 a167:=Tryz.isAgg269
 z167:=Tryz.sizeOf269
 v167:=Tryz.zeroValue269
 t168:=Tryz.underlying272
 a168:=Tryz.isAgg272
 z168:=Tryz.sizeOf272
 v168:=Tryz.zeroValue272
 t171:=Tryz.underlying253
 a171:=Tryz.isAgg253
 z171:=Tryz.sizeOf253
 v171:=Tryz.zeroValue253
 t173:=Tryz.underlying255
 a173:=Tryz.isAgg255
 z173:=Tryz.sizeOf255
 v173:=Tryz.zeroValue255
 t175:=Tryz.underlying275
 a175:=Tryz.isAgg275
 z175:=Tryz.sizeOf275
 v175:=Tryz.zeroValue275
 t210:=Tryz.underlying279
 a210:=Tryz.isAgg279
 z210:=Tryz.sizeOf279
 v210:=Tryz.zeroValue279
 t212:=Tryz.underlying265
 a212:=Tryz.isAgg265
 z212:=Tryz.sizeOf265
 v212:=Tryz.zeroValue265
 t213:=Tryz.underlying266
 a213:=Tryz.isAgg266
 z213:=Tryz.sizeOf266
 t232:=Tryz.underlying280
 a232:=Tryz.isAgg280
 z232:=Tryz.sizeOf280
 v232:=Tryz.zeroValue280
 t233:=Tryz.underlying281
 a233:=Tryz.isAgg281
 z233:=Tryz.sizeOf281
 v233:=Tryz.zeroValue281
 g15:=by kernel_rfl
 g16:=by kernel_rfl
 g17:=by kernel_rfl
 g18:=by kernel_rfl
 g19:=by kernel_rfl
 t80:=Tryz.underlying141
 a80:=Tryz.isAgg141
 z80:=Tryz.sizeOf141
 v80:=Tryz.zeroValue141
 i0:=by kernel_rfl
 i2:=by kernel_rfl
 i3:=by kernel_rfl
 i4:=by kernel_rfl
 i5:=by kernel_rfl
 i9:=by kernel_rfl
 i20:=by kernel_rfl
 i21:=by kernel_rfl
 i37:=by kernel_rfl
 i46:=by kernel_rfl
 i51:=by kernel_rfl
 i53:=by kernel_rfl
 i75:=by kernel_rfl
 i76:=by kernel_rfl
 i80:=by kernel_rfl
 i85:=by kernel_rfl
 i127:=by kernel_rfl
 i143:=by kernel_rfl
 i145:=by kernel_rfl
 i167:=by kernel_rfl
 i168:=by kernel_rfl
 i171:=by kernel_rfl
 i173:=by kernel_rfl
 i175:=by kernel_rfl
 i210:=by kernel_rfl
 i212:=by kernel_rfl
 i232:=by kernel_rfl
 i233:=by kernel_rfl
 m15:=by kernel_rfl
 m16:=by kernel_rfl
 m17:=by kernel_rfl
 m18:=by kernel_rfl
 m19:=by kernel_rfl
 c0:=by kernel_rfl
 c2:=by kernel_rfl
 c3:=by kernel_rfl
 c4:=by kernel_rfl
 c5:=by kernel_rfl
 c9:=by kernel_rfl
 c20:=by kernel_rfl
 c21:=by kernel_rfl
 c37:=by kernel_rfl
 c46:=by kernel_rfl
 c51:=by kernel_rfl
 c53:=by kernel_rfl
 c75:=by kernel_rfl
 c76:=by kernel_rfl
 c80:=by kernel_rfl
 c85:=by kernel_rfl
 c127:=by kernel_rfl
 c143:=by kernel_rfl
 c145:=by kernel_rfl
 c167:=by kernel_rfl
 c168:=by kernel_rfl
 c171:=by kernel_rfl
 c173:=by kernel_rfl
 c175:=by kernel_rfl
 c210:=by kernel_rfl
 c212:=by kernel_rfl
 c213:=by kernel_rfl
 c232:=by kernel_rfl
 c233:=by kernel_rfl }
def Tryz.ownItoa_ren:Go.Shelf.Ren:=⟨fun|171=>144|243=>175|246=>193|283=>205|284=>206|285=>207|286=>208|129=>128|317=>219|318=>220|319=>221|320=>222|337=>230|338=>231|n=>n,fun|3=>3|9=>9|2=>2|4=>4|171=>253|0=>0|53=>184|37=>108|5=>5|173=>255|212=>265|51=>182|20=>20|213=>266|46=>144|232=>280|233=>281|n=>n,fun|17=>6|18=>9|19=>10|n=>n⟩
theorem Tryz.ownItoa:Go.Proofs.LaysM.n171 Tryz.prog Tryz.ownItoa_ren:={
 mixed:=by kernel_rfl
 f129:=Tryz.func128.trans (congrArg some (by kernel_rfl))
 f171:=Tryz.func144.trans (congrArg some (by kernel_rfl))
 f243:=Tryz.func175.trans (congrArg some (by kernel_rfl))
 f246:=Tryz.func193.trans (congrArg some (by kernel_rfl))
 f283:=Tryz.func205.trans (congrArg some (by kernel_rfl))
 f284:=Tryz.func206.trans (congrArg some (by kernel_rfl))
 f285:=Tryz.func207.trans (congrArg some (by kernel_rfl))
 f286:=Tryz.func208.trans (congrArg some (by kernel_rfl))
 f317:=Tryz.func219.trans (congrArg some (by kernel_rfl))
 f318:=Tryz.func220.trans (congrArg some (by kernel_rfl))
 f319:=Tryz.func221.trans (congrArg some (by kernel_rfl))
 f320:=Tryz.func222.trans (congrArg some (by kernel_rfl))
 f337:=Tryz.func230.trans (congrArg some (by kernel_rfl))
 f338:=Tryz.func231.trans (congrArg some (by kernel_rfl))
 t0:=Tryz.underlying0
 a0:=Tryz.isAgg0
 z0:=Tryz.sizeOf0
 v0:=Tryz.zeroValue0
 t2:=Tryz.underlying2
 a2:=Tryz.isAgg2
 z2:=Tryz.sizeOf2
 v2:=Tryz.zeroValue2
 t3:=Tryz.underlying3
 a3:=Tryz.isAgg3
 z3:=Tryz.sizeOf3
 v3:=Tryz.zeroValue3
 t4:=Tryz.underlying4
 a4:=Tryz.isAgg4
 z4:=Tryz.sizeOf4
 v4:=Tryz.zeroValue4
 t5:=Tryz.underlying5
 a5:=Tryz.isAgg5
 z5:=Tryz.sizeOf5
 v5:=Tryz.zeroValue5
 t9:=Tryz.underlying9
 a9:=Tryz.isAgg9
 z9:=Tryz.sizeOf9
 v9:=Tryz.zeroValue9
 t20:=Tryz.underlying20
 a20:=Tryz.isAgg20
 z20:=Tryz.sizeOf20
 v20:=Tryz.zeroValue20
 t37:=Tryz.underlying108
 a37:=Tryz.isAgg108
 z37:=Tryz.sizeOf108
 v37:=Tryz.zeroValue108
 t46:=Tryz.underlying144
 a46:=Tryz.isAgg144
 z46:=Tryz.sizeOf144
 v46:=Tryz.zeroValue144
 t51:=Tryz.underlying182
 a51:=Tryz.isAgg182
 z51:=Tryz.sizeOf182
 v51:=Tryz.zeroValue182
 t53:=Tryz.underlying184
 a53:=Tryz.isAgg184
 z53:=Tryz.sizeOf184
 v53:=Tryz.zeroValue184
 t171:=Tryz.underlying253
 a171:=Tryz.isAgg253
 z171:=Tryz.sizeOf253
 v171:=Tryz.zeroValue253
 t173:=Tryz.underlying255
 a173:=Tryz.isAgg255
 z173:=Tryz.sizeOf255
 v173:=Tryz.zeroValue255
 t212:=Tryz.underlying265
 a212:=Tryz.isAgg265
 z212:=Tryz.sizeOf265
 v212:=Tryz.zeroValue265
 t213:=Tryz.underlying266
 a213:=Tryz.isAgg266
 z213:=Tryz.sizeOf266
 t232:=Tryz.underlying280
 a232:=Tryz.isAgg280
 z232:=Tryz.sizeOf280
 v232:=Tryz.zeroValue280
 t233:=Tryz.underlying281
 a233:=Tryz.isAgg281
 z233:=Tryz.sizeOf281
 v233:=Tryz.zeroValue281
 g17:=by kernel_rfl
 g18:=by kernel_rfl
 g19:=by kernel_rfl
 i0:=by kernel_rfl
 i2:=by kernel_rfl
 i3:=by kernel_rfl
 i4:=by kernel_rfl
 i5:=by kernel_rfl
 i9:=by kernel_rfl
 i20:=by kernel_rfl
 i37:=by kernel_rfl
 i46:=by kernel_rfl
 i51:=by kernel_rfl
 i53:=by kernel_rfl
 i171:=by kernel_rfl
 i173:=by kernel_rfl
 i212:=by kernel_rfl
 i232:=by kernel_rfl
 i233:=by kernel_rfl
 m17:=by kernel_rfl
 m18:=by kernel_rfl
 m19:=by kernel_rfl }
def Tryz.ownReplace_ren:Go.Shelf.Ren:=⟨fun|155=>112|154=>145|138=>176|165=>177|143=>178|166=>109|197=>179|169=>87|195=>194|218=>195|240=>108|241=>196|219=>197|260=>198|276=>143|277=>209|217=>210|225=>211|224=>212|267=>213|266=>223|314=>224|n=>n,fun|9=>9|3=>3|4=>4|72=>138|0=>0|76=>168|105=>237|21=>21|5=>5|70=>136|20=>20|37=>108|75=>26|127=>173|164=>145|46=>144|119=>258|139=>261|138=>260|146=>267|51=>182|80=>141|n=>n,fun|1=>3|3=>4|4=>5|n=>n⟩
theorem Tryz.ownReplace:Go.Proofs.Lays.n155 Tryz.prog Tryz.ownReplace_ren:={
 mixed:=by kernel_rfl
 f138:=Tryz.func176.trans (congrArg some (by kernel_rfl))
 f143:=Tryz.func178.trans (congrArg some (by kernel_rfl))
 f154:=Tryz.func145.trans (congrArg some (by kernel_rfl))
 f155:=Tryz.func112.trans (congrArg some (by kernel_rfl))
 f165:=Tryz.func177.trans (congrArg some (by kernel_rfl))
 f166:=Tryz.func109.trans (congrArg some (by kernel_rfl))
 f169:=Tryz.func87.trans (congrArg some (by kernel_rfl))
 f195:=Tryz.func194.trans (congrArg some (by kernel_rfl))
 f197:=Tryz.func179.trans (congrArg some (by kernel_rfl))
 f217:=Tryz.func210.trans (congrArg some (by kernel_rfl))
 f218:=Tryz.func195.trans (congrArg some (by kernel_rfl))
 f219:=Tryz.func197.trans (congrArg some (by kernel_rfl))
 f224:=Tryz.func212.trans (congrArg some (by kernel_rfl))
 f225:=Tryz.func211.trans (congrArg some (by kernel_rfl))
 f240:=Tryz.func108.trans (congrArg some (by kernel_rfl))
 f241:=Tryz.func196.trans (congrArg some (by kernel_rfl))
 f260:=Tryz.func198.trans (congrArg some (by kernel_rfl))
 f266:=Tryz.func223.trans (congrArg some (by kernel_rfl))
 f267:=Tryz.func213.trans (congrArg some (by kernel_rfl))
 f276:=Tryz.func143.trans (congrArg some (by kernel_rfl))
 f277:=Tryz.func209.trans (congrArg some (by kernel_rfl))
 f314:=Tryz.func224.trans (congrArg some (by kernel_rfl))
 t0:=Tryz.underlying0
 a0:=Tryz.isAgg0
 z0:=Tryz.sizeOf0
 v0:=Tryz.zeroValue0
 t3:=Tryz.underlying3
 a3:=Tryz.isAgg3
 z3:=Tryz.sizeOf3
 v3:=Tryz.zeroValue3
 t4:=Tryz.underlying4
 a4:=Tryz.isAgg4
 z4:=Tryz.sizeOf4
 v4:=Tryz.zeroValue4
 t5:=Tryz.underlying5
 a5:=Tryz.isAgg5
 z5:=Tryz.sizeOf5
 v5:=Tryz.zeroValue5
 t9:=Tryz.underlying9
 a9:=Tryz.isAgg9
 z9:=Tryz.sizeOf9
 v9:=Tryz.zeroValue9
 t20:=Tryz.underlying20
 a20:=Tryz.isAgg20
 z20:=Tryz.sizeOf20
 v20:=Tryz.zeroValue20
 t21:=Tryz.underlying21
 a21:=Tryz.isAgg21
 z21:=Tryz.sizeOf21
 v21:=Tryz.zeroValue21
 t37:=Tryz.underlying108
 a37:=Tryz.isAgg108
 z37:=Tryz.sizeOf108
 v37:=Tryz.zeroValue108
 t46:=Tryz.underlying144
 a46:=Tryz.isAgg144
 z46:=Tryz.sizeOf144
 v46:=Tryz.zeroValue144
 t51:=Tryz.underlying182
 a51:=Tryz.isAgg182
 z51:=Tryz.sizeOf182
 v51:=Tryz.zeroValue182
 t70:=Tryz.underlying136
 a70:=Tryz.isAgg136
 z70:=Tryz.sizeOf136
 v70:=Tryz.zeroValue136
 t72:=Tryz.underlying138
 a72:=Tryz.isAgg138
 z72:=Tryz.sizeOf138
 v72:=Tryz.zeroValue138
 t75:=Tryz.underlying26
 a75:=Tryz.isAgg26
 z75:=Tryz.sizeOf26
 v75:=Tryz.zeroValue26
 t76:=Tryz.underlying168
 a76:=Tryz.isAgg168
 z76:=Tryz.sizeOf168
 v76:=Tryz.zeroValue168
 t105:=Tryz.underlying237
 a105:=Tryz.isAgg237
 z105:=Tryz.sizeOf237
 v105:=Tryz.zeroValue237
 t119:=Tryz.underlying258
 a119:=Tryz.isAgg258
 z119:=Tryz.sizeOf258
 t127:=Tryz.underlying173
 a127:=Tryz.isAgg173
 z127:=Tryz.sizeOf173
 v127:=Tryz.zeroValue173
 t138:=Tryz.underlying260
 a138:=Tryz.isAgg260
 z138:=Tryz.sizeOf260
 v138:=Tryz.zeroValue260
 t139:=Tryz.underlying261
 a139:=Tryz.isAgg261
 z139:=Tryz.sizeOf261
 v139:=Tryz.zeroValue261
 t146:=Tryz.underlying267
 a146:=Tryz.isAgg267
 z146:=Tryz.sizeOf267
 v146:=Tryz.zeroValue267
 t164:=Tryz.underlying145
 a164:=Tryz.isAgg145
 z164:=Tryz.sizeOf145
 v164:=Tryz.zeroValue145
 g1:=by kernel_rfl
 g3:=by kernel_rfl
 g4:=by kernel_rfl }
end Go.Proofs
namespace Go.AM
open Go
def fV (acc:Nat):Bs->Nat
 |[]=>acc
 |c::r=>fV (acc*10+(c.toNat-48)) r
theorem zhl (l:Bs):∀ acc,l.foldl (fun n c=>n*10+(c.toNat-48)) acc=fV acc l:=by
 induction l with
 |nil=>exact fun _=>rfl
 |cons c r ih=>exact fun acc=>ih _
theorem zhm (l:Bs):∀ acc,acc<=fV acc l:=by
 induction l with
 |nil=>exact fun acc=>Nat.le_refl _
 |cons c r ih=>exact fun acc=>Nat.le_trans tO (ih (acc*10+(c.toNat-48)))
theorem pu10 (l:Bs):∀ acc,l.all zHE=true->acc<18446744073709551616->Lib.parseUint10 acc l=if fV acc l<18446744073709551616 then .ok (fV acc l) else .range:=by
 induction l with
 |nil=>
  intro acc _ h;show Lib.NumEnd.ok acc=if acc<18446744073709551616 then .ok acc else .range
  rw [if_pos h]
 |cons c r ih=>
  intro acc ha h;simp only [List.all_cons,Bool.and_eq_true] at ha;obtain ⟨hc,hr⟩:=ha;have hd:48<=c.toNat/\c.toNat<=57:=by simpa [zHE,Bool.and_eq_true] using hc
  have hge:=zhm r (acc*10+(c.toNat-48));show Lib.parseUint10 acc (c::r)=if fV (acc*10+(c.toNat-48)) r<18446744073709551616 then .ok (fV (acc*10+(c.toNat-48)) r) else .range
  unfold Lib.parseUint10;rw [if_pos hd];by_cases h1:1844674407370955162<=acc
  ·rw [if_pos h1,if_neg tO]
  ·rw [if_neg h1];by_cases h2:18446744073709551616<=acc*10+(c.toNat-48)
   ·rw [if_pos h2,if_neg tO]
   ·rw [if_neg h2];exact ih _ hr tO
theorem pmag {l:Bs} (h0:l≠[]) (h:l.all zHE=true):Lib.parseMag l=if zDp l<18446744073709551616 then .ok (zDp l) else .range:=by
 unfold Lib.parseMag;rw [if_neg h0];have e:zDp l=fV 0 l:=zhl l 0;rw [e];exact pu10 l 0 h (by decide)
theorem zUc {s:Bs} (h:zEf s):Lib.atoiAll s=if zEK (zOr s) then .ok (zOr s) else .range:=by
 obtain ⟨h1,h2,h3⟩:=h;cases s with
 |nil=>exact absurd rfl h1
 |cons c r=>
  by_cases hc:c=45
  ·subst hc;have hm:zD5 (45::r)=(true,r):=rfl;rw [hm] at h1 h3;have hv:zOr (45::r)=-(zDp r:Int):=by unfold zOr;rw [hm];rfl
   rw [hv];unfold Lib.atoiAll;have e:(45:UInt8).toNat=45:=rfl;simp only [e,or_true,if_true];rw [pmag h1 h3];by_cases hb:zDp r<18446744073709551616
   ·rw [if_pos hb];simp only [not_true,false_and,if_false,true_and];by_cases hl:9223372036854775808<zDp r
    ·rw [if_pos hl,if_neg (fun h=>by have:=h.1;omega)]
    ·rw [if_neg hl,if_pos ⟨by omega,by omega⟩]
   ·rw [if_neg hb,if_neg (fun h=>by have:=h.1;omega)]
  ·have hm:zD5 (c::r)=(false,c::r):=zNf (fun h=>hc (Option.some.inj h));rw [hm] at h1 h3;have hv:zOr (c::r)=(zDp (c::r):Int):=by unfold zOr;rw [hm];rfl
   rw [hv];have hd:48<=c.toNat/\c.toNat<=57:=by
    have h3':(c::r).all zHE=true:=h3;simp only [List.all_cons,Bool.and_eq_true] at h3';simpa [zHE,Bool.and_eq_true] using h3'.1
   have n1:¬ c.toNat=43:=by omega
   have n2:¬ c.toNat=45:=by omega
   have h4:=pmag (l:=c::r) h1 h3;unfold Lib.atoiAll;simp only [n1,n2,or_false,if_false];rw [h4];by_cases hb:zDp (c::r)<18446744073709551616
   ·rw [if_pos hb];simp only [not_false_eq_true,true_and,false_and,if_false];by_cases hl:9223372036854775808<=zDp (c::r)
    ·rw [if_pos hl,if_neg (fun h=>by have:=h.2;omega)]
    ·rw [if_neg hl,if_pos ⟨by omega,by omega⟩]
   ·rw [if_neg hb,if_neg (fun h=>by have:=h.2;omega)]
end Go.AM
namespace Go.AM
open Go
def zYg (part new:List UInt8):Nat->List UInt8->Nat×List UInt8
 |0,_=>(0,[])
 |_+1,[]=>(0,[])
 |k+1,c::r=>if part.isPrefixOf (c::r)=true then ((zYg part new k ((c::r).drop part.length)).1+1,new++(zYg part new k ((c::r).drop part.length)).2) else ((zYg part new k r).1,c::(zYg part new k r).2)
def zRt (part new s:List UInt8):Nat×List UInt8:=zYg part new s.length s
theorem za0 (part new:List UInt8) (hp:1<=part.length):∀ (k m:Nat) (s:List UInt8),s.length<=k->s.length<=m->zYg part new k s=zYg part new m s:=by
 intro k;induction k with
 |zero=>
  intro m s h1 _;obtain rfl:s=[]:=List.length_eq_zero_iff.1 tO;cases m <;> rfl
 |succ k ih=>
  intro m s h1 h2;cases s with
  |nil=>cases m <;> rfl
  |cons c r=>
   cases m with
   |zero=>simp at h2
   |succ m=>
    simp only [List.length_cons] at h1 h2;unfold zYg;rw [ih m r tO tO,ih m ((c::r).drop part.length) (by simp only [List.length_drop,List.length_cons];omega) (by simp only [List.length_drop,List.length_cons];omega)]
theorem zS6 (part new:List UInt8) (hp:1<=part.length) (s:List UInt8) (h:part.isPrefixOf s=true):zRt part new s=((zRt part new (s.drop part.length)).1+1,new++(zRt part new (s.drop part.length)).2):=by
 cases s with
 |nil=>cases part with
  |nil=>simp at hp
  |cons a t=>simp at h
 |cons c r=>
  have e:zRt part new ((c::r).drop part.length)=zYg part new r.length ((c::r).drop part.length):=by
   unfold zRt;exact za0 part new hp _ _ _ (Nat.le_refl _) (by simp only [List.length_drop,List.length_cons];omega)
  rw [e];unfold zRt;show zYg part new (r.length+1) (c::r)=_
  conv=>lhs;unfold zYg
  rw [if_pos h]
theorem zQP (part new:List UInt8) (c:UInt8) (r:List UInt8) (h:part.isPrefixOf (c::r)=false):zRt part new (c::r)=((zRt part new r).1,c::(zRt part new r).2):=by
 unfold zRt;show zYg part new (r.length+1) (c::r)=_
 conv=>lhs;unfold zYg
 rw [if_neg (by rw [h];simp)]
theorem zhn {part s:List UInt8} (h:part.isPrefixOf s=true):s=part++s.drop part.length:=by
 obtain ⟨t,rfl⟩:=List.isPrefixOf_iff_prefix.1 h;simp
theorem za1 (part:List UInt8) (hp:1<=part.length):∀ (k:Nat) (s:List UInt8),s.length<=k->(zRt part part s).2=s:=by
 intro k;induction k with
 |zero=>
  intro s h;obtain rfl:s=[]:=List.length_eq_zero_iff.1 tO;rfl
 |succ k ih=>
  intro s h;cases s with
  |nil=>rfl
  |cons c r=>
   cases hb:part.isPrefixOf (c::r) with
   |true=>
    rw [zS6 part part hp _ hb];show part++(zRt part part ((c::r).drop part.length)).2=c::r;rw [ih _ (by simp only [List.length_drop,List.length_cons] at *;omega)];exact (zhn hb).symm
   |false=>
    rw [zQP part part c r hb];show c::(zRt part part r).2=c::r;rw [ih r (by simp only [List.length_cons] at h;omega)]
theorem zUd (part:List UInt8) (hp:1<=part.length):Lib.index [] part=-1:=by
 unfold Lib.index;cases part with
 |nil=>simp at hp
 |cons a t=>rfl
theorem zUe {part s:List UInt8} (h:part.isPrefixOf s=true):Lib.index s part=0:=by
 cases s with
 |nil=>unfold Lib.index;cases part with
  |nil=>rfl
  |cons a t=>simp at h
 |cons c r=>unfold Lib.index;rw [if_pos h]
theorem zRu (part:List UInt8) (c:UInt8) (r:List UInt8) (h:part.isPrefixOf (c::r)=false):Lib.index (c::r) part=if Lib.index r part=-1 then -1 else Lib.index r part+1:=by
 conv=>lhs;unfold Lib.index
 rw [h];simp only [Bool.false_eq_true,if_false,beq_iff_eq]
theorem zK4 (part:List UInt8) (hp:1<=part.length):∀ (k m:Nat) (s:List UInt8),s.length<k->s.length<m->Lib.countFrom part k s=Lib.countFrom part m s:=by
 intro k;induction k with
 |zero=>intro m s h _;omega
 |succ k ih=>
  intro m s h1 h2;cases m with
  |zero=>omega
  |succ m=>
   unfold Lib.countFrom;by_cases hi:(Lib.index s part==-1)=true
   ·rw [if_pos hi,if_pos hi]
   ·rw [if_neg hi,if_neg hi];have hge:=Lib.index_ge s part;have hne:Lib.index s part≠-1:=fun e=>hi (tE e);have hr:=Lib.index_room s part tO;rw [ih m (s.drop ((Lib.index s part).toNat+part.length)) (by rw [List.length_drop];omega) (by rw [List.length_drop];omega)]
theorem zYh (part:List UInt8) (hp:1<=part.length) (s:List UInt8) (h:part.isPrefixOf s=true):Lib.count s part=1+Lib.count (s.drop part.length) part:=by
 have hi:=zUe h;have hr:=Lib.index_room s part tO;unfold Lib.count
 conv=>lhs;unfold Lib.countFrom
 rw [if_neg (by rw [hi];simp),hi];show 1+Lib.countFrom part s.length (s.drop (0+part.length))=_;rw [Nat.zero_add,zK4 part hp s.length ((s.drop part.length).length+1) _ (by rw [List.length_drop];omega) tO]
theorem zV7_ (part:List UInt8) (hp:1<=part.length) (c:UInt8) (r:List UInt8) (h:part.isPrefixOf (c::r)=false):Lib.count (c::r) part=Lib.count r part:=by
 have hi:=zRu part c r h;unfold Lib.count
 conv=>lhs;unfold Lib.countFrom
 conv=>rhs;unfold Lib.countFrom
 by_cases h1:Lib.index r part=-1
 ·rw [if_pos h1] at hi;rw [hi,h1];rfl
 ·rw [if_neg h1] at hi;have hge:=Lib.index_ge r part;have hr:=Lib.index_room r part tO;have n1:¬ ((Lib.index (c::r) part==-1)=true):=fun e=>by have:=beq_iff_eq.1 e;omega
  have n2:¬ ((Lib.index r part==-1)=true):=fun e=>by have:=beq_iff_eq.1 e;omega
  rw [if_neg n1,if_neg n2,hi];have e:(Lib.index r part+1).toNat+part.length=((Lib.index r part).toNat+part.length)+1:=by omega
  rw [e,List.drop_succ_cons];rw [zK4 part hp (c::r).length r.length _ (by simp only [List.length_drop,List.length_cons];omega) (by rw [List.length_drop];omega)]
theorem za2 (part new:List UInt8) (c:UInt8) (r:List UInt8) (h:part.isPrefixOf (c::r)=false) (k:Nat):Lib.replaceK part new k (c::r)=c::Lib.replaceK part new k r:=by
 cases k with
 |zero=>rfl
 |succ k=>
  have hi:=zRu part c r h;unfold Lib.replaceK;by_cases h1:Lib.index r part=-1
  ·rw [if_pos h1] at hi;rw [hi,h1];rfl
  ·rw [if_neg h1] at hi;have hge:=Lib.index_ge r part;have n1:¬ ((Lib.index (c::r) part==-1)=true):=fun e=>by have:=beq_iff_eq.1 e;omega
   have n2:¬ ((Lib.index r part==-1)=true):=fun e=>by have:=beq_iff_eq.1 e;omega
   rw [if_neg n1,if_neg n2,hi];have e:(Lib.index r part+1).toNat=(Lib.index r part).toNat+1:=by omega
   rw [e,List.take_succ_cons,show (Lib.index r part).toNat+1+part.length=((Lib.index r part).toNat+part.length)+1 from by omega,List.drop_succ_cons];rfl
theorem zei (part new:List UInt8) (s:List UInt8) (h:part.isPrefixOf s=true) (k:Nat):Lib.replaceK part new (k+1) s=new++Lib.replaceK part new k (s.drop part.length):=by
 have hi:=zUe h;rw [Lib.replaceK_hit part new k s 0 hi];simp
theorem zho (part new:List UInt8) (hp:1<=part.length):∀ (k:Nat) (s:List UInt8),s.length<=k->(zRt part new s).1=Lib.count s part/\(zRt part new s).2=Lib.replaceK part new (Lib.count s part) s:=by
 intro k;induction k with
 |zero=>
  intro s h;obtain rfl:s=[]:=List.length_eq_zero_iff.1 tO;have hc:Lib.count [] part=0:=by
   unfold Lib.count Lib.countFrom;rw [zUd part hp];rfl
  rw [hc];exact ⟨rfl,rfl⟩
 |succ k ih=>
  intro s h;cases s with
  |nil=>
   have hc:Lib.count [] part=0:=by
    unfold Lib.count Lib.countFrom;rw [zUd part hp];rfl
   rw [hc];exact ⟨rfl,rfl⟩
  |cons c r=>
   cases hb:part.isPrefixOf (c::r) with
   |true=>
    obtain ⟨h1,h2⟩:=ih ((c::r).drop part.length) (by simp only [List.length_drop,List.length_cons] at *;omega);rw [zS6 part new hp _ hb,zYh part hp _ hb,Nat.add_comm 1,zei part new _ hb];exact ⟨by rw [h1],by rw [h2]⟩
   |false=>
    obtain ⟨h1,h2⟩:=ih r (by simp only [List.length_cons] at h;omega);rw [zQP part new c r hb,zV7_ part hp c r hb,za2 part new c r hb];exact ⟨h1,by rw [h2]⟩
theorem zhp (part new s:List UInt8) (hp:1<=part.length):(zRt part new s).2=Lib.replaceAll s part new:=by
 unfold Lib.replaceAll Lib.replace;by_cases he:(part==new)=true
 ·rw [if_pos he];obtain rfl:=beq_iff_eq.1 he;exact za1 part hp s.length s (Nat.le_refl _)
 ·rw [if_neg he,(zho part new hp s.length s (Nat.le_refl _)).2];unfold Lib.replaceNum;rw [if_pos (.inl (by decide))]
end Go.AM
set_option maxRecDepth 100000
namespace Go.Proofs
open Go.Shelf Go.RowKit Go.AM
theorem Tryz.atoi_number:Tryz.ownAtoi_ren.f 172=zBb:=by kernel_rfl
theorem Tryz.replace_number:Tryz.ownReplace_ren.f 155=zBO:=by kernel_rfl
theorem Tryz.extraReplace:Builder.Extra Tryz.prog Tryz.ownReplace_ren:={
 sizeBuilder:=by kernel_rfl
 liesBuilder:=by kernel_rfl
 t5:=Tryz.ownReplace.t5
 a5:=Tryz.ownReplace.a5
 z5:=Tryz.ownReplace.z5
 v5:=Tryz.ownReplace.v5
 infoByte:=by kernel_rfl
 cellsByte:=by kernel_rfl
 sizeByte:=by kernel_rfl
 neB5:=by decide }
section
variable {m:Int} {ev:Value}
theorem zj2 {w:World} {M:AMap} {I:Nat->Prop} {H:Heap} (hS:Sim (gtQ m ev) w M I H):w.cell? ⟨3,0,none⟩=some (.int .i64 m):=by
 have h0:=hS.glob 3 (.int .i64 m) rfl;cases h0 with
 |lref _ _ _ _ V hI hx hvv hr=>
  have h1:=hvv 0 (.int .i64 m) rfl;have h2:=hr 0 (.int .i64 m) rfl;rw [h1,zIq h2]
theorem zej {w:World} {M:AMap} {I:Nat->Prop} {H:Heap} (hS:Sim (gtQ m ev) w M I H):w.cell? ⟨8,0,none⟩=some ev:=by
 have h0:=hS.glob 8 (.raw ev) rfl;cases h0 with
 |lref _ _ _ _ V hI hx hvv hr=>
  have h1:=hvv 0 (.raw ev) rfl;have h2:=hr 0 (.raw ev) rfl;rw [h1,zXB h2]
theorem zYi {w:World} {M:AMap} {I:Nat->Prop} {n:Nat} {x y z:AV} {vs:List Value} (h:zEV w M I n [x,y,z] vs):∃ v u t,vs=[v,u,t]/\Rel w M I n x v/\Rel w M I n y u/\Rel w M I n z t:=by
 obtain ⟨hl,h⟩:=h
 match vs,hl with
 |[v,u,t],_=>exact ⟨v,u,t,rfl,h 0 x v rfl rfl,h 1 y u rfl rfl,h 2 z t rfl rfl⟩
theorem zHH (s:Bs):(⟨s.toArray⟩:ByteArray).size=s.length:=by simp [ByteArray.size]
theorem zMm (s:Bs):(⟨s.toArray⟩:ByteArray).data.toList=s:=rfl
theorem zhq (s:Bs) (H:Heap) (hf:zEf s) (hi:zEK (zOr s)) (hl:s.length<=1000):Go.AM.Good Tryz.prog (gtQ m ev) zBb [.str s] H (.tup [zH (zOr s),.nili]) H:=
 zE3 Tryz.func201 (by kernel_rfl) (by kernel_rfl) fun w M I cargs hS hA=>by
  obtain ⟨v,rfl,hv⟩:=zKN hA;obtain rfl:=zMe hv;have ha:Lib.atoiAll (⟨s.toArray⟩:ByteArray).data.toList=.ok (zOr s):=by rw [zMm,zUc hf,if_pos hi]
  have h:=Any.strconv_Atoi_ok Tryz.ownAtoi ⟨s.toArray⟩ (by rw [zHH];omega) _ ha w;rw [Tryz.atoi_number] at h;refine h.mono ?_;rintro e w' ⟨he,hw⟩;refine ⟨_,he, ?_, ?_⟩
  ·rcases hw with rfl|⟨t,rfl⟩
   ·exact RowKit.Below.refl _ _
   ·exact Lib.bytesWorld_below _ _ _
  ·refine .tup _ [_,_] rfl fun i c v h1 h2=>?_
   match i,h1,h2 with
   |0,h1,h2=>
    cases h1;cases h2;exact .int _ _
   |1,h1,h2=>
    cases h1;cases h2;exact .nili
   |i+2,h1,h2=>simp at h1
theorem zek (hev:∃ te pe,ev=.iface te pe) (s:Bs) (H:Heap) (hf:zEf s) (hi:¬ zEK (zOr s)) (hl:s.length<=1000):∃ n t,Go.AM.Good Tryz.prog (gtQ m ev) zBb [.str s] H (.tup [zH n,.iface t .undef]) H:=
 ⟨Lib.atoiSat s,Tryz.ownAtoi_ren.t 168,zE3 Tryz.func201 (by kernel_rfl) (by kernel_rfl) fun w M I cargs hS hA=>by
  obtain ⟨v,rfl,hv⟩:=zKN hA;obtain rfl:=zMe hv;have ha:Lib.atoiAll (⟨s.toArray⟩:ByteArray).data.toList=.range:=by rw [zMm,zUc hf,if_neg hi]
  have h:=Any.strconv_Atoi_range Tryz.ownAtoi ⟨s.toArray⟩ (by rw [zHH];omega) ha ev w (zej hS) (.inr hev);rw [Tryz.atoi_number] at h;refine h.mono ?_;rintro e w' ⟨N,he,_,_,hB⟩;refine ⟨_,he,hB, ?_⟩;refine .tup _ [_,_] rfl fun i c v h1 h2=>?_
  match i,h1,h2 with
  |0,h1,h2=>
   cases h1;cases h2;exact .int _ _
  |1,h1,h2=>
   cases h1;cases h2;exact .iface _ _ _ (.undef _)
  |i+2,h1,h2=>simp at h1⟩
theorem zUf (s part new:Bs) (H:Heap) (hp:1<=part.length) (hl:s.length<=1000000) (hn:new.length<=1000):Go.AM.Good Tryz.prog (gtQ m ev) zBO [.str s,.str part,.str new] H (.str (zRt part new s).2) H:=
 zE3 Tryz.func112 (by kernel_rfl) (by kernel_rfl) fun w M I cargs hS hA=>by
  obtain ⟨v,u,x,rfl,hv,hu,hx⟩:=zYi hA;obtain rfl:=zMe hv;obtain rfl:=zMe hu;obtain rfl:=zMe hx;have hc:Lib.countB ⟨s.toArray⟩ ⟨part.toArray⟩<=1000000:=by
   have:=Lib.countB_le ⟨part.toArray⟩ (by rw [zHH];exact hp) _ ⟨s.toArray⟩ (Nat.le_refl _);rw [zHH] at this;omega
  have hm:Lib.countB ⟨s.toArray⟩ ⟨part.toArray⟩*new.length<=1000000*1000:=Nat.mul_le_mul hc hn;have h:=Any.strings_ReplaceAll Tryz.ownReplace Tryz.extraReplace ⟨s.toArray⟩ ⟨part.toArray⟩ ⟨new.toArray⟩ m w (by rw [zHH];omega) (zj2 hS) (by rw [zHH];exact hp) (by rw [zHH,zHH];omega);rw [Tryz.replace_number,zMm,zMm,zMm,<-zhp part new s hp] at h;refine h.mono ?_;rintro e w' ⟨he,hB⟩;exact ⟨_,he,hB,.str _⟩
end
end Go.Proofs
set_option maxRecDepth 20000
namespace Go.AM
open Go Go.RowKit
section
variable {H:Type} {enc:TypeId×Value->H} {P:Program} {w:World} {held:Bool}
theorem zXK {fuel:Nat} {t:TypeId} {cs:List Value} {l:List UInt8} {ps:List MemPlace} (hu:P.underlying t=some .string) (h:DataW.trod enc P w 0 (fun _=>true) held fuel t cs=some (.lit (.string l),ps)):∃ s:ByteArray,cs=[.string s]/\s.data.toList=l:=by
 cases fuel with
 |zero=>simp [DataW.trod] at h
 |succ fuel=>
  rcases cs with _|⟨c,_|⟨c',cs⟩⟩
  ·simp [DataW.trod,hu] at h
  ·cases c <;> simp [DataW.trod,hu] at h
   rename_i s;exact ⟨s,rfl,h.2.1⟩
  ·simp [DataW.trod,hu] at h
theorem zXL {fuel n:Nat} {t e:TypeId} {cs:List Value} {ds:List (DataW H)} {ps:List MemPlace} (hu:P.underlying t=some (.array n e)) (hc:P.cellsOf e=1) (hn:P.cellsOf t=n) (h:DataW.trod enc P w 0 (fun _=>true) held fuel t cs=some (.agg ds,ps)) :
  cs.length=n/\ds.length=n/\∃ fuel',∀ (i:Nat) (c:Value) (d:DataW H),cs[i]?=some c->ds[i]?=some d->∃ p,DataW.trod enc P w 0 (fun _=>true) held fuel' e [c]=some (d,p):=by
 cases fuel with
 |zero=>simp [DataW.trod] at h
 |succ fuel=>
  simp only [DataW.trod,hu] at h;split at h
  case isFalse=>cases h
  rename_i hl;rw [hn] at hl;obtain ⟨r,hr,he⟩:=Option.map_eq_some_iff.1 h;simp only [Prod.mk.injEq,DataW.agg.injEq] at he;obtain ⟨rfl,_⟩:=he;obtain ⟨l1,l2⟩:=zIG hr;rw [List.length_range] at l1;refine ⟨hl,by rw [List.length_map,l1],fuel,fun i c d h1 h2=>?_⟩;have hi:i<n:=by rw [<-hl];exact (zg h1).1
  obtain ⟨y,e1,e2⟩:=l2 i i (by rw [List.getElem?_range hi]);rw [List.getElem?_map,e1] at h2;obtain rfl:=Option.some.inj h2;rw [hc,Nat.mul_one] at e2;have e3:(cs.drop i).take 1=[c]:=by
   have hlt:=(zg h1).1;rw [List.drop_eq_getElem_cons hlt,(zg h1).2];rfl
  rw [e3] at e2;exact ⟨_,e2⟩
theorem za3 {fuel:Nat} {t e:TypeId} {c:Value} {ls:List (List UInt8)} {rest:List (DataW H)} {ps:List MemPlace} (hu:P.underlying t=some (.slice e)) (hs:P.underlying e=some .string) (hc:P.cellsOf e=1)
  (h:DataW.trod enc P w 0 (fun _=>true) held fuel t [c]=some (.slice (ls.map fun l=>.lit (.string l)) rest,ps)) (hne:ls≠[]):Rel w (fun _=>none) (zHD w) 0 (.lst (some false) 1 (ls.map AV.str)) c:=by
 cases fuel with
 |zero=>simp [DataW.trod] at h
 |succ fuel=>
  cases c
  case slice a len cap=>
   cases a with
   |none=>cases len <;> cases cap <;> simp [DataW.trod,hu] at h
   |some a=>
    simp only [DataW.trod,hu] at h;split at h
    case isFalse=>cases h
    rename_i hb;obtain ⟨elems,h1,h⟩:=Option.bind_eq_some_iff.1 h;obtain ⟨rs,h2,he⟩:=Option.map_eq_some_iff.1 h;simp only [Prod.mk.injEq,DataW.slice.injEq] at he;obtain ⟨⟨he,_⟩,_⟩:=he;obtain ⟨l1,l2⟩:=zIG h1;rw [List.length_range] at l1;have hll:ls.length=len:=by
     have:=congrArg List.length he;rw [List.length_map,List.length_map] at this;omega
    have cell:∀ (i:Nat) (l:List UInt8),ls[i]?=some l->∃ s:ByteArray,w.cell? (a.add i)=some (.string s)/\s.data.toList=l:=by
     intro i l hl;have hi:i<len:=by rw [<-hll];exact (zg hl).1
     obtain ⟨y,e1,e2⟩:=l2 i i (by rw [List.getElem?_range hi]);obtain ⟨ci,e3,e4⟩:=Option.bind_eq_some_iff.1 e2;obtain ⟨e5,e6⟩:=zRk e3;have hy:y.1=.lit (.string l):=by
      have h3:=congrArg (fun x:List (DataW H)=>x[i]?) he;simp only [List.getElem?_map,e1,hl,Option.map_some,Option.some.injEq] at h3;exact h3
     have e4:DataW.trod enc P w 0 (fun _=>true) held fuel e ci=some (.lit (.string l),y.2):=by rw [<-hy];exact e4
     obtain ⟨s,rfl,hsl⟩:=zXK hs e4;have h6:=e6 0 (.string s) rfl;rw [hc,Nat.mul_one] at h6;refine ⟨s, ?_,hsl⟩;have:(a.add i).add 0=a.add i:=by
      cases a;simp [Addr.add]
     rw [this] at h6;exact h6
    have h0:0<ls.length:=List.length_pos_iff.2 hne;obtain ⟨s0,hs0,_⟩:=cell 0 _ (List.getElem?_eq_getElem h0);have hs0:w.cell? a=some (.string s0):=by simpa [Addr.add] using hs0
    obtain ⟨g1,g2⟩:=zJ6 hs0;obtain ⟨ab,ao,asp⟩:=a;simp only at g1 g2;subst g2;have hlm:(ls.map AV.str).length=len:=by rw [List.length_map,hll]
    rw [<-hlm];refine Rel.mk_lst (by simp) tO hb.2.2 g1 (fun x hx=>?_) (fun i j x c hi hj=>?_)
    ·obtain ⟨l,_,rfl⟩:=List.mem_map.1 hx;exact rfl
    ·rw [List.getElem?_map] at hi;obtain ⟨l,hl,rfl⟩:=Option.map_eq_some_iff.1 hi;cases j with
     |zero=>
      have:c=.str l:=by simpa [AV.cells] using hj.symm
      subst this;obtain ⟨s,e1,e2⟩:=cell i l hl;refine ⟨.string s, ?_, ?_⟩
      ·simp only [Addr.add_lit] at e1;simpa using e1
      ·rw [<-e2];exact zVt _ _ _ _ s
     |succ j=>simp [AV.cells] at hj
  all_goals (simp [DataW.trod,hu] at h)
theorem zYj {fuel:Nat} {t:TypeId} {ms:Array (String×TypeId)} {cs:List Value} {nm:String} {d:DataW H} {ps:List MemPlace} (hu:P.underlying t=some (.interface ms)) (h:DataW.trod enc P w 0 (fun _=>true) held fuel t cs=some (.iface nm d,ps)):∃ u v,cs=[.iface u v]:=by
 cases fuel with
 |zero=>simp [DataW.trod] at h
 |succ fuel=>
  rcases cs with _|⟨c,_|⟨c',cs⟩⟩
  ·simp [DataW.trod,hu] at h
  ·cases c <;> simp [DataW.trod,hu] at h
   exact ⟨_,_,rfl⟩
  ·simp [DataW.trod,hu] at h
theorem za4 {fuel n g:Nat} {t e:TypeId} {cs:Array Value} {ls:List (List UInt8)} {ps:List MemPlace} (hcell:∀ j:Nat,w.cell? ⟨g,j,none⟩=cs[j]?) (hu:P.underlying t=some (.array n e)) (hs:P.underlying e=some .string) (hc:P.cellsOf e=1) (hn:P.cellsOf t=n) (h0:0<n)
  (h:DataW.trod enc P w 0 (fun _=>true) held fuel t cs.toList=some (.agg (ls.map fun l=>.lit (.string l)),ps)):Rel w (fun _=>none) (zHD w) 0 (.lref (.agg (ls.map AV.str)) 0) (.pointer (some ⟨g,0,none⟩))/\cs.size=ls.length:=by
 obtain ⟨h1,h2,fuel',h3⟩:=zXL hu hc hn h;rw [List.length_map] at h2;have h1':cs.size=n:=by simpa using h1
 have hat:∀ (j:Nat) (l:List UInt8),ls[j]?=some l->∃ s:ByteArray,w.cell? ⟨g,j,none⟩=some (.string s)/\s.data.toList=l:=fun j l hl=>by
  have hj:j<cs.size:=by rw [h1',<-h2];exact (zg hl).1
  obtain ⟨p,hp⟩:=h3 j cs[j] (.lit (.string l)) (by simp [hj]) (by rw [List.getElem?_map,hl];rfl);obtain ⟨s,e1,e2⟩:=zXK hs hp;refine ⟨s, ?_,e2⟩;rw [hcell j,Array.getElem?_eq_getElem hj];simpa using e1
 refine ⟨?_,by omega⟩;obtain ⟨l0,hl0⟩:∃ l,ls[0]?=some l:=⟨_,List.getElem?_eq_getElem tO⟩;obtain ⟨s0,hs0,_⟩:=hat 0 l0 hl0;refine Rel.mk_lref (zJ6 hs0).1 ?_ fun j c hj=>?_
 ·show (AV.agg (ls.map AV.str)).bel 0=true;simp only [AV.bel,AV.belL_iff];intro x hx;obtain ⟨l,_,rfl⟩:=List.mem_map.1 hx;rfl
 ·rw [Nat.zero_add] at hj ⊢;have hj:(ls.map AV.str)[j]?=some c:=hj;rw [List.getElem?_map] at hj;obtain ⟨l,hl,rfl⟩:=Option.map_eq_some_iff.1 hj;obtain ⟨s,e1,e2⟩:=hat j l hl;exact ⟨_,e1,by rw [<-e2];exact zVt _ _ _ _ s⟩
theorem zYk {fuel n g:Nat} {t u e:TypeId} {cs:Array Value} {lss:List (List (List UInt8))} {ps:List MemPlace} (hcell:∀ j:Nat,w.cell? ⟨g,j,none⟩=cs[j]?) (hu:P.underlying t=some (.array n u)) (hu2:P.underlying u=some (.slice e)) (hs:P.underlying e=some .string) (hc2:P.cellsOf u=1) (hc:P.cellsOf e=1) (hn:P.cellsOf t=n) (h0:0<n)
  (hne:∀ ls∈lss,ls≠[]) (h:DataW.trod enc P w 0 (fun _=>true) held fuel t cs.toList=some (.agg (lss.map fun ls=>.slice (ls.map fun l=>.lit (.string l)) []),ps)):Rel w (fun _=>none) (zHD w) 0 (.lref (.agg (lss.map fun ls=>.lst (some false) 1 (ls.map AV.str))) 0) (.pointer (some ⟨g,0,none⟩))/\cs.size=lss.length:=by
 obtain ⟨h1,h2,fuel',h3⟩:=zXL hu hc2 hn h;rw [List.length_map] at h2;have h1':cs.size=n:=by simpa using h1
 have hat:∀ (j:Nat) (ls:List (List UInt8)),lss[j]?=some ls->∃ v:Value,w.cell? ⟨g,j,none⟩=some v/\Rel w (fun _=>none) (zHD w) 0 (.lst (some false) 1 (ls.map AV.str)) v:=fun j ls hl=>by
  have hj:j<cs.size:=by rw [h1',<-h2];exact (zg hl).1
  obtain ⟨p,hp⟩:=h3 j cs[j] (.slice (ls.map fun l=>.lit (.string l)) []) (by simp [hj]) (by rw [List.getElem?_map,hl];rfl);exact ⟨cs[j],by rw [hcell j,Array.getElem?_eq_getElem hj],za3 hu2 hs hc hp (hne ls (List.mem_of_getElem? hl))⟩
 refine ⟨?_,by omega⟩;obtain ⟨l0,hl0⟩:∃ l,lss[0]?=some l:=⟨_,List.getElem?_eq_getElem tO⟩;obtain ⟨s0,hs0,_⟩:=hat 0 l0 hl0;refine Rel.mk_lref (zJ6 hs0).1 ?_ fun j c hj=>?_
 ·show (AV.agg (lss.map fun ls=>.lst (some false) 1 (ls.map AV.str))).bel 0=true;simp only [AV.bel,AV.belL_iff];intro x hx;obtain ⟨l,_,rfl⟩:=List.mem_map.1 hx;rfl
 ·rw [Nat.zero_add] at hj ⊢;have hj:(lss.map fun ls=>AV.lst (some false) 1 (ls.map AV.str))[j]?=some c:=hj;rw [List.getElem?_map] at hj;obtain ⟨l,hl,rfl⟩:=Option.map_eq_some_iff.1 hj;exact hat j l hl
end
end Go.AM
