/- Several texts of mine in one (ItQ, Atp, Fnp, Itg, Lvs). Own work. -/
import Derived.Shelf.LaysC
import Derived.Shelf.LaysM
import Derived.Shelf.Strconv.AtoiAll
import Derived.Shelf.Strconv.Itoa3
import Derived.Shelf.Strings.Shaped
import Derived.Shelf.Strings.Replace
import Derived.Shelf.Strings.Builder1
import Derived.Ground.NamesProg
import Derived.Test.YtmfmhljpddpfnaaGreatDoorProg
import Derived.Test.YtmfmhljpddpfnaaGreatDoorGFp2Fr4
import Derived.Lib.AtoiAll
import Derived.Lib.Replace
import Derived.Test.YtmfmhljpddpfnaaGreatDoorGFr5ToldQ
import Derived.KernelRfl
import Derived.Test.YtmfmhljpddpfnaaGreatDoorGAm23Am35
set_option linter.all false
namespace Go.Proofs
open Go.Shelf
def Tryz.ownAtoi_ren:Go.Shelf.Ren:=⟨fun|172=>208|244=>223|245=>224|247=>234|279=>235|280=>236|281=>237|282=>238|287=>241|316=>242|171=>151|205=>243|321=>244|322=>245|243=>176|246=>195|283=>212|284=>213|285=>214|286=>215|129=>228|317=>227|318=>229|319=>230|320=>231|337=>239|338=>240|n=>n,fun|9=>9|3=>3|75=>30|76=>175|4=>4|5=>5|167=>270|37=>136|0=>0|85=>271|2=>2|168=>273|53=>235|175=>277|46=>120|210=>281|127=>180|145=>287|143=>285|21=>21|171=>251|173=>254|212=>265|51=>238|20=>20|213=>266|232=>282|233=>283|80=>141|n=>n,fun|15=>7|16=>8|17=>6|18=>9|19=>10|n=>n⟩
theorem Tryz.ownAtoi:Go.Proofs.LaysC.n172 Tryz.prog Tryz.ownAtoi_ren:={
 mixed:=by kernel_rfl
 f129:=Tryz.func228.trans (congrArg some (by kernel_rfl))
 f171:=Tryz.func151.trans (congrArg some (by kernel_rfl))
 f172:=Tryz.func208.trans (congrArg some (by kernel_rfl))
 f205:=Tryz.func243.trans (congrArg some (by kernel_rfl))
 f243:=Tryz.func176.trans (congrArg some (by kernel_rfl))
 f244:=Tryz.func223.trans (congrArg some (by kernel_rfl))
 f245:=Tryz.func224.trans (congrArg some (by kernel_rfl))
 f246:=Tryz.func195.trans (congrArg some (by kernel_rfl))
 f247:=Tryz.func234.trans (congrArg some (by kernel_rfl))
 f279:=Tryz.func235.trans (congrArg some (by kernel_rfl))
 f280:=Tryz.func236.trans (congrArg some (by kernel_rfl))
 f281:=Tryz.func237.trans (congrArg some (by kernel_rfl))
 f282:=Tryz.func238.trans (congrArg some (by kernel_rfl))
 f283:=Tryz.func212.trans (congrArg some (by kernel_rfl))
 f284:=Tryz.func213.trans (congrArg some (by kernel_rfl))
 f285:=Tryz.func214.trans (congrArg some (by kernel_rfl))
 f286:=Tryz.func215.trans (congrArg some (by kernel_rfl))
 f287:=Tryz.func241.trans (congrArg some (by kernel_rfl))
 f316:=Tryz.func242.trans (congrArg some (by kernel_rfl))
 f317:=Tryz.func227.trans (congrArg some (by kernel_rfl))
 f318:=Tryz.func229.trans (congrArg some (by kernel_rfl))
 f319:=Tryz.func230.trans (congrArg some (by kernel_rfl))
 f320:=Tryz.func231.trans (congrArg some (by kernel_rfl))
 f321:=Tryz.func244.trans (congrArg some (by kernel_rfl))
 f322:=Tryz.func245.trans (congrArg some (by kernel_rfl))
 f337:=Tryz.func239.trans (congrArg some (by kernel_rfl))
 f338:=Tryz.func240.trans (congrArg some (by kernel_rfl))
 t0:=Tryz.underlying0
 a0:=Tryz.isAgg0
 z0:=Tryz.sizeOf0
 v0:=Tryz.zeroValue0
 t2:=Tryz.underlying2
 a2:=Tryz.isAgg2
 z2:=Tryz.sizeOf2
 v2:=Tryz.zeroValue2
 t3:=Tryz.underlying3
 a3:=Tryz.isAgg3
 z3:=Tryz.sizeOf3
 v3:=Tryz.zeroValue3
 t4:=Tryz.underlying4
 a4:=Tryz.isAgg4
 z4:=Tryz.sizeOf4
 v4:=Tryz.zeroValue4
 t5:=Tryz.underlying5
 a5:=Tryz.isAgg5
 z5:=Tryz.sizeOf5
 v5:=Tryz.zeroValue5
 t9:=Tryz.underlying9
 a9:=Tryz.isAgg9
 z9:=Tryz.sizeOf9
 v9:=Tryz.zeroValue9
 t20:=Tryz.underlying20
 a20:=Tryz.isAgg20
 z20:=Tryz.sizeOf20
 v20:=Tryz.zeroValue20
 t21:=Tryz.underlying21
 a21:=Tryz.isAgg21
 z21:=Tryz.sizeOf21
 v21:=Tryz.zeroValue21
 t37:=Tryz.underlying136
 a37:=Tryz.isAgg136
 z37:=Tryz.sizeOf136
 v37:=Tryz.zeroValue136
 t46:=Tryz.underlying120
 a46:=Tryz.isAgg120
 z46:=Tryz.sizeOf120
 v46:=Tryz.zeroValue120
 t51:=Tryz.underlying238
 a51:=Tryz.isAgg238
 z51:=Tryz.sizeOf238
 v51:=Tryz.zeroValue238
 t53:=Tryz.underlying235
 a53:=Tryz.isAgg235
 z53:=Tryz.sizeOf235
 v53:=Tryz.zeroValue235
 t75:=Tryz.underlying30
 a75:=Tryz.isAgg30
 z75:=Tryz.sizeOf30
 v75:=Tryz.zeroValue30
 t76:=Tryz.underlying175
 a76:=Tryz.isAgg175
 z76:=Tryz.sizeOf175
 v76:=Tryz.zeroValue175
 t85:=Tryz.underlying271
 a85:=Tryz.isAgg271
 z85:=Tryz.sizeOf271
 v85:=Tryz.zeroValue271
 t127:=Tryz.underlying180
 a127:=Tryz.isAgg180
 z127:=Tryz.sizeOf180
 v127:=Tryz.zeroValue180
 t143:=Tryz.underlying285
 a143:=Tryz.isAgg285
 z143:=Tryz.sizeOf285
 v143:=Tryz.zeroValue285
 t145:=Tryz.underlying287
 a145:=Tryz.isAgg287
 z145:=Tryz.sizeOf287
 v145:=Tryz.zeroValue287
 t167:=Tryz.underlying270
 a167:=Tryz.isAgg270
 z167:=Tryz.sizeOf270
 v167:=Tryz.zeroValue270
 t168:=Tryz.underlying273
 a168:=Tryz.isAgg273
 z168:=Tryz.sizeOf273
 v168:=Tryz.zeroValue273
 t171:=Tryz.underlying251
 a171:=Tryz.isAgg251
 z171:=Tryz.sizeOf251
 v171:=Tryz.zeroValue251
 t173:=Tryz.underlying254
 a173:=Tryz.isAgg254
 z173:=Tryz.sizeOf254
 v173:=Tryz.zeroValue254
 t175:=Tryz.underlying277
 a175:=Tryz.isAgg277
 z175:=Tryz.sizeOf277
 v175:=Tryz.zeroValue277
 t210:=Tryz.underlying281
 a210:=Tryz.isAgg281
 z210:=Tryz.sizeOf281
 v210:=Tryz.zeroValue281
 t212:=Tryz.underlying265
 a212:=Tryz.isAgg265
 z212:=Tryz.sizeOf265
 v212:=Tryz.zeroValue265
 t213:=Tryz.underlying266
 a213:=Tryz.isAgg266
 z213:=Tryz.sizeOf266
 t232:=Tryz.underlying282
 a232:=Tryz.isAgg282
 z232:=Tryz.sizeOf282
 v232:=Tryz.zeroValue282
 t233:=Tryz.underlying283
 a233:=Tryz.isAgg283
 z233:=Tryz.sizeOf283
 v233:=Tryz.zeroValue283
 g15:=by kernel_rfl
 g16:=by kernel_rfl
 g17:=by kernel_rfl
 g18:=by kernel_rfl
 g19:=by kernel_rfl
 t80:=Tryz.underlying141
 a80:=Tryz.isAgg141
 z80:=Tryz.sizeOf141
 v80:=Tryz.zeroValue141
 i0:=by kernel_rfl
 i2:=by kernel_rfl
 i3:=by kernel_rfl
 i4:=by kernel_rfl
 i5:=by kernel_rfl
 i9:=by kernel_rfl
 i20:=by kernel_rfl
 i21:=by kernel_rfl
 i37:=by kernel_rfl
 i46:=by kernel_rfl
 i51:=by kernel_rfl
 i53:=by kernel_rfl
 i75:=by kernel_rfl
 i76:=by kernel_rfl
 i80:=by kernel_rfl
 i85:=by kernel_rfl
 i127:=by kernel_rfl
 i143:=by kernel_rfl
 i145:=by kernel_rfl
 i167:=by kernel_rfl
 i168:=by kernel_rfl
 i171:=by kernel_rfl
 i173:=by kernel_rfl
 i175:=by kernel_rfl
 i210:=by kernel_rfl
 i212:=by kernel_rfl
 i232:=by kernel_rfl
 i233:=by kernel_rfl
 m15:=by kernel_rfl
 m16:=by kernel_rfl
 m17:=by kernel_rfl
 m18:=by kernel_rfl
 m19:=by kernel_rfl
 c0:=by kernel_rfl
 c2:=by kernel_rfl
 c3:=by kernel_rfl
 c4:=by kernel_rfl
 c5:=by kernel_rfl
 c9:=by kernel_rfl
 c20:=by kernel_rfl
 c21:=by kernel_rfl
 c37:=by kernel_rfl
 c46:=by kernel_rfl
 c51:=by kernel_rfl
 c53:=by kernel_rfl
 c75:=by kernel_rfl
 c76:=by kernel_rfl
 c80:=by kernel_rfl
 c85:=by kernel_rfl
 c127:=by kernel_rfl
 c143:=by kernel_rfl
 c145:=by kernel_rfl
 c167:=by kernel_rfl
 c168:=by kernel_rfl
 c171:=by kernel_rfl
 c173:=by kernel_rfl
 c175:=by kernel_rfl
 c210:=by kernel_rfl
 c212:=by kernel_rfl
 c213:=by kernel_rfl
 c232:=by kernel_rfl
 c233:=by kernel_rfl }
def Tryz.ownItoa_ren:Go.Shelf.Ren:=⟨fun|171=>151|243=>176|246=>195|283=>212|284=>213|285=>214|286=>215|129=>228|317=>227|318=>229|319=>230|320=>231|337=>239|338=>240|n=>n,fun|3=>3|9=>9|2=>2|4=>4|171=>251|0=>0|53=>235|37=>136|5=>5|173=>254|212=>265|51=>238|20=>20|213=>266|46=>120|232=>282|233=>283|n=>n,fun|17=>6|18=>9|19=>10|n=>n⟩
theorem Tryz.ownItoa:Go.Proofs.LaysM.n171 Tryz.prog Tryz.ownItoa_ren:={
 mixed:=by kernel_rfl
 f129:=Tryz.func228.trans (congrArg some (by kernel_rfl))
 f171:=Tryz.func151.trans (congrArg some (by kernel_rfl))
 f243:=Tryz.func176.trans (congrArg some (by kernel_rfl))
 f246:=Tryz.func195.trans (congrArg some (by kernel_rfl))
 f283:=Tryz.func212.trans (congrArg some (by kernel_rfl))
 f284:=Tryz.func213.trans (congrArg some (by kernel_rfl))
 f285:=Tryz.func214.trans (congrArg some (by kernel_rfl))
 f286:=Tryz.func215.trans (congrArg some (by kernel_rfl))
 f317:=Tryz.func227.trans (congrArg some (by kernel_rfl))
 f318:=Tryz.func229.trans (congrArg some (by kernel_rfl))
 f319:=Tryz.func230.trans (congrArg some (by kernel_rfl))
 f320:=Tryz.func231.trans (congrArg some (by kernel_rfl))
 f337:=Tryz.func239.trans (congrArg some (by kernel_rfl))
 f338:=Tryz.func240.trans (congrArg some (by kernel_rfl))
 t0:=Tryz.underlying0
 a0:=Tryz.isAgg0
 z0:=Tryz.sizeOf0
 v0:=Tryz.zeroValue0
 t2:=Tryz.underlying2
 a2:=Tryz.isAgg2
 z2:=Tryz.sizeOf2
 v2:=Tryz.zeroValue2
 t3:=Tryz.underlying3
 a3:=Tryz.isAgg3
 z3:=Tryz.sizeOf3
 v3:=Tryz.zeroValue3
 t4:=Tryz.underlying4
 a4:=Tryz.isAgg4
 z4:=Tryz.sizeOf4
 v4:=Tryz.zeroValue4
 t5:=Tryz.underlying5
 a5:=Tryz.isAgg5
 z5:=Tryz.sizeOf5
 v5:=Tryz.zeroValue5
 t9:=Tryz.underlying9
 a9:=Tryz.isAgg9
 z9:=Tryz.sizeOf9
 v9:=Tryz.zeroValue9
 t20:=Tryz.underlying20
 a20:=Tryz.isAgg20
 z20:=Tryz.sizeOf20
 v20:=Tryz.zeroValue20
 t37:=Tryz.underlying136
 a37:=Tryz.isAgg136
 z37:=Tryz.sizeOf136
 v37:=Tryz.zeroValue136
 t46:=Tryz.underlying120
 a46:=Tryz.isAgg120
 z46:=Tryz.sizeOf120
 v46:=Tryz.zeroValue120
 t51:=Tryz.underlying238
 a51:=Tryz.isAgg238
 z51:=Tryz.sizeOf238
 v51:=Tryz.zeroValue238
 t53:=Tryz.underlying235
 a53:=Tryz.isAgg235
 z53:=Tryz.sizeOf235
 v53:=Tryz.zeroValue235
 t171:=Tryz.underlying251
 a171:=Tryz.isAgg251
 z171:=Tryz.sizeOf251
 v171:=Tryz.zeroValue251
 t173:=Tryz.underlying254
 a173:=Tryz.isAgg254
 z173:=Tryz.sizeOf254
 v173:=Tryz.zeroValue254
 t212:=Tryz.underlying265
 a212:=Tryz.isAgg265
 z212:=Tryz.sizeOf265
 v212:=Tryz.zeroValue265
 t213:=Tryz.underlying266
 a213:=Tryz.isAgg266
 z213:=Tryz.sizeOf266
 t232:=Tryz.underlying282
 a232:=Tryz.isAgg282
 z232:=Tryz.sizeOf282
 v232:=Tryz.zeroValue282
 t233:=Tryz.underlying283
 a233:=Tryz.isAgg283
 z233:=Tryz.sizeOf283
 v233:=Tryz.zeroValue283
 g17:=by kernel_rfl
 g18:=by kernel_rfl
 g19:=by kernel_rfl
 i0:=by kernel_rfl
 i2:=by kernel_rfl
 i3:=by kernel_rfl
 i4:=by kernel_rfl
 i5:=by kernel_rfl
 i9:=by kernel_rfl
 i20:=by kernel_rfl
 i37:=by kernel_rfl
 i46:=by kernel_rfl
 i51:=by kernel_rfl
 i53:=by kernel_rfl
 i171:=by kernel_rfl
 i173:=by kernel_rfl
 i212:=by kernel_rfl
 i232:=by kernel_rfl
 i233:=by kernel_rfl
 m17:=by kernel_rfl
 m18:=by kernel_rfl
 m19:=by kernel_rfl }
def Tryz.ownReplace_ren:Go.Shelf.Ren:=⟨fun|155=>127|154=>152|138=>177|165=>178|143=>179|166=>124|197=>180|169=>92|195=>196|218=>197|240=>123|241=>198|219=>199|260=>200|276=>150|277=>216|217=>217|225=>218|224=>219|267=>220|266=>232|314=>233|n=>n,fun|9=>9|3=>3|4=>4|72=>138|0=>0|76=>175|105=>228|21=>21|5=>5|70=>135|20=>20|37=>136|75=>30|127=>180|164=>144|46=>120|119=>257|139=>260|138=>259|146=>268|51=>238|80=>141|n=>n,fun|1=>3|3=>4|4=>5|n=>n⟩
theorem Tryz.ownReplace:Go.Proofs.Lays.n155 Tryz.prog Tryz.ownReplace_ren:={
 mixed:=by kernel_rfl
 f138:=Tryz.func177.trans (congrArg some (by kernel_rfl))
 f143:=Tryz.func179.trans (congrArg some (by kernel_rfl))
 f154:=Tryz.func152.trans (congrArg some (by kernel_rfl))
 f155:=Tryz.func127.trans (congrArg some (by kernel_rfl))
 f165:=Tryz.func178.trans (congrArg some (by kernel_rfl))
 f166:=Tryz.func124.trans (congrArg some (by kernel_rfl))
 f169:=Tryz.func92.trans (congrArg some (by kernel_rfl))
 f195:=Tryz.func196.trans (congrArg some (by kernel_rfl))
 f197:=Tryz.func180.trans (congrArg some (by kernel_rfl))
 f217:=Tryz.func217.trans (congrArg some (by kernel_rfl))
 f218:=Tryz.func197.trans (congrArg some (by kernel_rfl))
 f219:=Tryz.func199.trans (congrArg some (by kernel_rfl))
 f224:=Tryz.func219.trans (congrArg some (by kernel_rfl))
 f225:=Tryz.func218.trans (congrArg some (by kernel_rfl))
 f240:=Tryz.func123.trans (congrArg some (by kernel_rfl))
 f241:=Tryz.func198.trans (congrArg some (by kernel_rfl))
 f260:=Tryz.func200.trans (congrArg some (by kernel_rfl))
 f266:=Tryz.func232.trans (congrArg some (by kernel_rfl))
 f267:=Tryz.func220.trans (congrArg some (by kernel_rfl))
 f276:=Tryz.func150.trans (congrArg some (by kernel_rfl))
 f277:=Tryz.func216.trans (congrArg some (by kernel_rfl))
 f314:=Tryz.func233.trans (congrArg some (by kernel_rfl))
 t0:=Tryz.underlying0
 a0:=Tryz.isAgg0
 z0:=Tryz.sizeOf0
 v0:=Tryz.zeroValue0
 t3:=Tryz.underlying3
 a3:=Tryz.isAgg3
 z3:=Tryz.sizeOf3
 v3:=Tryz.zeroValue3
 t4:=Tryz.underlying4
 a4:=Tryz.isAgg4
 z4:=Tryz.sizeOf4
 v4:=Tryz.zeroValue4
 t5:=Tryz.underlying5
 a5:=Tryz.isAgg5
 z5:=Tryz.sizeOf5
 v5:=Tryz.zeroValue5
 t9:=Tryz.underlying9
 a9:=Tryz.isAgg9
 z9:=Tryz.sizeOf9
 v9:=Tryz.zeroValue9
 t20:=Tryz.underlying20
 a20:=Tryz.isAgg20
 z20:=Tryz.sizeOf20
 v20:=Tryz.zeroValue20
 t21:=Tryz.underlying21
 a21:=Tryz.isAgg21
 z21:=Tryz.sizeOf21
 v21:=Tryz.zeroValue21
 t37:=Tryz.underlying136
 a37:=Tryz.isAgg136
 z37:=Tryz.sizeOf136
 v37:=Tryz.zeroValue136
 t46:=Tryz.underlying120
 a46:=Tryz.isAgg120
 z46:=Tryz.sizeOf120
 v46:=Tryz.zeroValue120
 t51:=Tryz.underlying238
 a51:=Tryz.isAgg238
 z51:=Tryz.sizeOf238
 v51:=Tryz.zeroValue238
 t70:=Tryz.underlying135
 a70:=Tryz.isAgg135
 z70:=Tryz.sizeOf135
 v70:=Tryz.zeroValue135
 t72:=Tryz.underlying138
 a72:=Tryz.isAgg138
 z72:=Tryz.sizeOf138
 v72:=Tryz.zeroValue138
 t75:=Tryz.underlying30
 a75:=Tryz.isAgg30
 z75:=Tryz.sizeOf30
 v75:=Tryz.zeroValue30
 t76:=Tryz.underlying175
 a76:=Tryz.isAgg175
 z76:=Tryz.sizeOf175
 v76:=Tryz.zeroValue175
 t105:=Tryz.underlying228
 a105:=Tryz.isAgg228
 z105:=Tryz.sizeOf228
 v105:=Tryz.zeroValue228
 t119:=Tryz.underlying257
 a119:=Tryz.isAgg257
 z119:=Tryz.sizeOf257
 t127:=Tryz.underlying180
 a127:=Tryz.isAgg180
 z127:=Tryz.sizeOf180
 v127:=Tryz.zeroValue180
 t138:=Tryz.underlying259
 a138:=Tryz.isAgg259
 z138:=Tryz.sizeOf259
 v138:=Tryz.zeroValue259
 t139:=Tryz.underlying260
 a139:=Tryz.isAgg260
 z139:=Tryz.sizeOf260
 v139:=Tryz.zeroValue260
 t146:=Tryz.underlying268
 a146:=Tryz.isAgg268
 z146:=Tryz.sizeOf268
 v146:=Tryz.zeroValue268
 t164:=Tryz.underlying144
 a164:=Tryz.isAgg144
 z164:=Tryz.sizeOf144
 v164:=Tryz.zeroValue144
 g1:=by kernel_rfl
 g3:=by kernel_rfl
 g4:=by kernel_rfl }
end Go.Proofs
namespace Go.AM
open Go
def fV (acc:Nat):Bs->Nat
 |[]=>acc
 |c::r=>fV (acc*10+(c.toNat-48)) r
theorem zhD (l:Bs):∀ acc,l.foldl (fun n c=>n*10+(c.toNat-48)) acc=fV acc l:=by
 induction l with
 |nil=>exact fun _=>rfl
 |cons c r ih=>exact fun acc=>ih _
theorem zhE (l:Bs):∀ acc,acc<=fV acc l:=by
 induction l with
 |nil=>exact fun acc=>Nat.le_refl _
 |cons c r ih=>exact fun acc=>Nat.le_trans tO (ih (acc*10+(c.toNat-48)))
theorem pu10 (l:Bs):∀ acc,l.all zGr=true->acc<18446744073709551616->Lib.parseUint10 acc l=if fV acc l<18446744073709551616 then .ok (fV acc l) else .range:=by
 induction l with
 |nil=>
  intro acc _ h;show Lib.NumEnd.ok acc=if acc<18446744073709551616 then .ok acc else .range
  rw [if_pos h]
 |cons c r ih=>
  intro acc ha h;simp only [List.all_cons,Bool.and_eq_true] at ha;obtain ⟨hc,hr⟩:=ha;have hd:48<=c.toNat/\c.toNat<=57:=by simpa [zGr,Bool.and_eq_true] using hc
  have hge:=zhE r (acc*10+(c.toNat-48));show Lib.parseUint10 acc (c::r)=if fV (acc*10+(c.toNat-48)) r<18446744073709551616 then .ok (fV (acc*10+(c.toNat-48)) r) else .range
  unfold Lib.parseUint10;rw [if_pos hd];by_cases h1:1844674407370955162<=acc
  ·rw [if_pos h1,if_neg tO]
  ·rw [if_neg h1];by_cases h2:18446744073709551616<=acc*10+(c.toNat-48)
   ·rw [if_pos h2,if_neg tO]
   ·rw [if_neg h2];exact ih _ hr tO
theorem pmag {l:Bs} (h0:l≠[]) (h:l.all zGr=true):Lib.parseMag l=if zDl l<18446744073709551616 then .ok (zDl l) else .range:=by
 unfold Lib.parseMag;rw [if_neg h0];have e:zDl l=fV 0 l:=zhD l 0;rw [e];exact pu10 l 0 h (by decide)
theorem zSq {s:Bs} (h:zEW s):Lib.atoiAll s=if zDi (zNK s) then .ok (zNK s) else .range:=by
 obtain ⟨h1,h2,h3⟩:=h;cases s with
 |nil=>exact absurd rfl h1
 |cons c r=>
  by_cases hc:c=45
  ·subst hc;have hm:zD0 (45::r)=(true,r):=rfl;rw [hm] at h1 h3;have hv:zNK (45::r)=-(zDl r:Int):=by unfold zNK;rw [hm];rfl
   rw [hv];unfold Lib.atoiAll;have e:(45:UInt8).toNat=45:=rfl;simp only [e,or_true,if_true];rw [pmag h1 h3];by_cases hb:zDl r<18446744073709551616
   ·rw [if_pos hb];simp only [not_true,false_and,if_false,true_and];by_cases hl:9223372036854775808<zDl r
    ·rw [if_pos hl,if_neg (fun h=>by have:=h.1;omega)]
    ·rw [if_neg hl,if_pos ⟨by omega,by omega⟩]
   ·rw [if_neg hb,if_neg (fun h=>by have:=h.1;omega)]
  ·have hm:zD0 (c::r)=(false,c::r):=zMR (fun h=>hc (Option.some.inj h));rw [hm] at h1 h3;have hv:zNK (c::r)=(zDl (c::r):Int):=by unfold zNK;rw [hm];rfl
   rw [hv];have hd:48<=c.toNat/\c.toNat<=57:=by
    have h3':(c::r).all zGr=true:=h3;simp only [List.all_cons,Bool.and_eq_true] at h3';simpa [zGr,Bool.and_eq_true] using h3'.1
   have n1:¬ c.toNat=43:=by omega
   have n2:¬ c.toNat=45:=by omega
   have h4:=pmag (l:=c::r) h1 h3;unfold Lib.atoiAll;simp only [n1,n2,or_false,if_false];rw [h4];by_cases hb:zDl (c::r)<18446744073709551616
   ·rw [if_pos hb];simp only [not_false_eq_true,true_and,false_and,if_false];by_cases hl:9223372036854775808<=zDl (c::r)
    ·rw [if_pos hl,if_neg (fun h=>by have:=h.2;omega)]
    ·rw [if_neg hl,if_pos ⟨by omega,by omega⟩]
   ·rw [if_neg hb,if_neg (fun h=>by have:=h.2;omega)]
end Go.AM
namespace Go.AM
open Go
def zXb (part new:List UInt8):Nat->List UInt8->Nat×List UInt8
 |0,_=>(0,[])
 |_+1,[]=>(0,[])
 |k+1,c::r=>if part.isPrefixOf (c::r)=true then ((zXb part new k ((c::r).drop part.length)).1+1,new++(zXb part new k ((c::r).drop part.length)).2) else ((zXb part new k r).1,c::(zXb part new k r).2)
def zQD (part new s:List UInt8):Nat×List UInt8:=zXb part new s.length s
theorem zZ5 (part new:List UInt8) (hp:1<=part.length):∀ (k m:Nat) (s:List UInt8),s.length<=k->s.length<=m->zXb part new k s=zXb part new m s:=by
 intro k;induction k with
 |zero=>
  intro m s h1 _;obtain rfl:s=[]:=List.length_eq_zero_iff.1 tO;cases m <;> rfl
 |succ k ih=>
  intro m s h1 h2;cases s with
  |nil=>cases m <;> rfl
  |cons c r=>
   cases m with
   |zero=>simp at h2
   |succ m=>
    simp only [List.length_cons] at h1 h2;unfold zXb;rw [ih m r tO tO,ih m ((c::r).drop part.length) (by simp only [List.length_drop,List.length_cons];omega) (by simp only [List.length_drop,List.length_cons];omega)]
theorem zRL (part new:List UInt8) (hp:1<=part.length) (s:List UInt8) (h:part.isPrefixOf s=true):zQD part new s=((zQD part new (s.drop part.length)).1+1,new++(zQD part new (s.drop part.length)).2):=by
 cases s with
 |nil=>cases part with
  |nil=>simp at hp
  |cons a t=>simp at h
 |cons c r=>
  have e:zQD part new ((c::r).drop part.length)=zXb part new r.length ((c::r).drop part.length):=by
   unfold zQD;exact zZ5 part new hp _ _ _ (Nat.le_refl _) (by simp only [List.length_drop,List.length_cons];omega)
  rw [e];unfold zQD;show zXb part new (r.length+1) (c::r)=_
  conv=>lhs;unfold zXb
  rw [if_pos h]
theorem zOk (part new:List UInt8) (c:UInt8) (r:List UInt8) (h:part.isPrefixOf (c::r)=false):zQD part new (c::r)=((zQD part new r).1,c::(zQD part new r).2):=by
 unfold zQD;show zXb part new (r.length+1) (c::r)=_
 conv=>lhs;unfold zXb
 rw [if_neg (by rw [h];simp)]
theorem zhF {part s:List UInt8} (h:part.isPrefixOf s=true):s=part++s.drop part.length:=by
 obtain ⟨t,rfl⟩:=List.isPrefixOf_iff_prefix.1 h;simp
theorem zZ6 (part:List UInt8) (hp:1<=part.length):∀ (k:Nat) (s:List UInt8),s.length<=k->(zQD part part s).2=s:=by
 intro k;induction k with
 |zero=>
  intro s h;obtain rfl:s=[]:=List.length_eq_zero_iff.1 tO;rfl
 |succ k ih=>
  intro s h;cases s with
  |nil=>rfl
  |cons c r=>
   cases hb:part.isPrefixOf (c::r) with
   |true=>
    rw [zRL part part hp _ hb];show part++(zQD part part ((c::r).drop part.length)).2=c::r;rw [ih _ (by simp only [List.length_drop,List.length_cons] at *;omega)];exact (zhF hb).symm
   |false=>
    rw [zOk part part c r hb];show c::(zQD part part r).2=c::r;rw [ih r (by simp only [List.length_cons] at h;omega)]
theorem zSr (part:List UInt8) (hp:1<=part.length):Lib.index [] part=-1:=by
 unfold Lib.index;cases part with
 |nil=>simp at hp
 |cons a t=>rfl
theorem zSs {part s:List UInt8} (h:part.isPrefixOf s=true):Lib.index s part=0:=by
 cases s with
 |nil=>unfold Lib.index;cases part with
  |nil=>rfl
  |cons a t=>simp at h
 |cons c r=>unfold Lib.index;rw [if_pos h]
theorem zQE (part:List UInt8) (c:UInt8) (r:List UInt8) (h:part.isPrefixOf (c::r)=false):Lib.index (c::r) part=if Lib.index r part=-1 then -1 else Lib.index r part+1:=by
 conv=>lhs;unfold Lib.index
 rw [h];simp only [Bool.false_eq_true,if_false,beq_iff_eq]
theorem zKN (part:List UInt8) (hp:1<=part.length):∀ (k m:Nat) (s:List UInt8),s.length<k->s.length<m->Lib.countFrom part k s=Lib.countFrom part m s:=by
 intro k;induction k with
 |zero=>intro m s h _;omega
 |succ k ih=>
  intro m s h1 h2;cases m with
  |zero=>omega
  |succ m=>
   unfold Lib.countFrom;by_cases hi:(Lib.index s part==-1)=true
   ·rw [if_pos hi,if_pos hi]
   ·rw [if_neg hi,if_neg hi];have hge:=Lib.index_ge s part;have hne:Lib.index s part≠-1:=fun e=>hi (tE e);have hr:=Lib.index_room s part tO;rw [ih m (s.drop ((Lib.index s part).toNat+part.length)) (by rw [List.length_drop];omega) (by rw [List.length_drop];omega)]
theorem zXc (part:List UInt8) (hp:1<=part.length) (s:List UInt8) (h:part.isPrefixOf s=true):Lib.count s part=1+Lib.count (s.drop part.length) part:=by
 have hi:=zSs h;have hr:=Lib.index_room s part tO;unfold Lib.count
 conv=>lhs;unfold Lib.countFrom
 rw [if_neg (by rw [hi];simp),hi];show 1+Lib.countFrom part s.length (s.drop (0+part.length))=_;rw [Nat.zero_add,zKN part hp s.length ((s.drop part.length).length+1) _ (by rw [List.length_drop];omega) tO]
theorem zUT (part:List UInt8) (hp:1<=part.length) (c:UInt8) (r:List UInt8) (h:part.isPrefixOf (c::r)=false):Lib.count (c::r) part=Lib.count r part:=by
 have hi:=zQE part c r h;unfold Lib.count
 conv=>lhs;unfold Lib.countFrom
 conv=>rhs;unfold Lib.countFrom
 by_cases h1:Lib.index r part=-1
 ·rw [if_pos h1] at hi;rw [hi,h1];rfl
 ·rw [if_neg h1] at hi;have hge:=Lib.index_ge r part;have hr:=Lib.index_room r part tO;have n1:¬ ((Lib.index (c::r) part==-1)=true):=fun e=>by have:=beq_iff_eq.1 e;omega
  have n2:¬ ((Lib.index r part==-1)=true):=fun e=>by have:=beq_iff_eq.1 e;omega
  rw [if_neg n1,if_neg n2,hi];have e:(Lib.index r part+1).toNat+part.length=((Lib.index r part).toNat+part.length)+1:=by omega
  rw [e,List.drop_succ_cons];rw [zKN part hp (c::r).length r.length _ (by simp only [List.length_drop,List.length_cons];omega) (by rw [List.length_drop];omega)]
theorem zZ7 (part new:List UInt8) (c:UInt8) (r:List UInt8) (h:part.isPrefixOf (c::r)=false) (k:Nat):Lib.replaceK part new k (c::r)=c::Lib.replaceK part new k r:=by
 cases k with
 |zero=>rfl
 |succ k=>
  have hi:=zQE part c r h;unfold Lib.replaceK;by_cases h1:Lib.index r part=-1
  ·rw [if_pos h1] at hi;rw [hi,h1];rfl
  ·rw [if_neg h1] at hi;have hge:=Lib.index_ge r part;have n1:¬ ((Lib.index (c::r) part==-1)=true):=fun e=>by have:=beq_iff_eq.1 e;omega
   have n2:¬ ((Lib.index r part==-1)=true):=fun e=>by have:=beq_iff_eq.1 e;omega
   rw [if_neg n1,if_neg n2,hi];have e:(Lib.index r part+1).toNat=(Lib.index r part).toNat+1:=by omega
   rw [e,List.take_succ_cons,show (Lib.index r part).toNat+1+part.length=((Lib.index r part).toNat+part.length)+1 from by omega,List.drop_succ_cons];rfl
theorem zd2 (part new:List UInt8) (s:List UInt8) (h:part.isPrefixOf s=true) (k:Nat):Lib.replaceK part new (k+1) s=new++Lib.replaceK part new k (s.drop part.length):=by
 have hi:=zSs h;rw [Lib.replaceK_hit part new k s 0 hi];simp
theorem zhG (part new:List UInt8) (hp:1<=part.length):∀ (k:Nat) (s:List UInt8),s.length<=k->(zQD part new s).1=Lib.count s part/\(zQD part new s).2=Lib.replaceK part new (Lib.count s part) s:=by
 intro k;induction k with
 |zero=>
  intro s h;obtain rfl:s=[]:=List.length_eq_zero_iff.1 tO;have hc:Lib.count [] part=0:=by
   unfold Lib.count Lib.countFrom;rw [zSr part hp];rfl
  rw [hc];exact ⟨rfl,rfl⟩
 |succ k ih=>
  intro s h;cases s with
  |nil=>
   have hc:Lib.count [] part=0:=by
    unfold Lib.count Lib.countFrom;rw [zSr part hp];rfl
   rw [hc];exact ⟨rfl,rfl⟩
  |cons c r=>
   cases hb:part.isPrefixOf (c::r) with
   |true=>
    obtain ⟨h1,h2⟩:=ih ((c::r).drop part.length) (by simp only [List.length_drop,List.length_cons] at *;omega);rw [zRL part new hp _ hb,zXc part hp _ hb,Nat.add_comm 1,zd2 part new _ hb];exact ⟨by rw [h1],by rw [h2]⟩
   |false=>
    obtain ⟨h1,h2⟩:=ih r (by simp only [List.length_cons] at h;omega);rw [zOk part new c r hb,zUT part hp c r hb,zZ7 part new c r hb];exact ⟨h1,by rw [h2]⟩
theorem zhH (part new s:List UInt8) (hp:1<=part.length):(zQD part new s).2=Lib.replaceAll s part new:=by
 unfold Lib.replaceAll Lib.replace;by_cases he:(part==new)=true
 ·rw [if_pos he];obtain rfl:=beq_iff_eq.1 he;exact zZ6 part hp s.length s (Nat.le_refl _)
 ·rw [if_neg he,(zhG part new hp s.length s (Nat.le_refl _)).2];unfold Lib.replaceNum;rw [if_pos (.inl (by decide))]
end Go.AM
set_option maxRecDepth 100000
namespace Go.Proofs
open Go.Shelf Go.RowKit Go.AM
theorem Tryz.atoi_number:Tryz.ownAtoi_ren.f 172=zBY:=by kernel_rfl
theorem Tryz.replace_number:Tryz.ownReplace_ren.f 155=zBI:=by kernel_rfl
theorem Tryz.extraReplace:Builder.Extra Tryz.prog Tryz.ownReplace_ren:={
 sizeBuilder:=by kernel_rfl
 liesBuilder:=by kernel_rfl
 t5:=Tryz.ownReplace.t5
 a5:=Tryz.ownReplace.a5
 z5:=Tryz.ownReplace.z5
 v5:=Tryz.ownReplace.v5
 infoByte:=by kernel_rfl
 cellsByte:=by kernel_rfl
 sizeByte:=by kernel_rfl
 neB5:=by decide }
section
variable {m:Int} {ev:Value}
theorem zj3 {w:World} {M:AMap} {I:Nat->Prop} {H:Heap} (hS:Sim (gtQ m ev) w M I H):w.cell? ⟨3,0,none⟩=some (.int .i64 m):=by
 have h0:=hS.glob 3 (.int .i64 m) rfl;cases h0 with
 |lref _ _ _ _ V hI hx hvv hr=>
  have h1:=hvv 0 (.int .i64 m) rfl;have h2:=hr 0 (.int .i64 m) rfl;rw [h1,zIG h2]
theorem zd3 {w:World} {M:AMap} {I:Nat->Prop} {H:Heap} (hS:Sim (gtQ m ev) w M I H):w.cell? ⟨8,0,none⟩=some ev:=by
 have h0:=hS.glob 8 (.raw ev) rfl;cases h0 with
 |lref _ _ _ _ V hI hx hvv hr=>
  have h1:=hvv 0 (.raw ev) rfl;have h2:=hr 0 (.raw ev) rfl;rw [h1,zVc h2]
theorem zXd {w:World} {M:AMap} {I:Nat->Prop} {n:Nat} {x y z:AV} {vs:List Value} (h:zED w M I n [x,y,z] vs):∃ v u t,vs=[v,u,t]/\Rel w M I n x v/\Rel w M I n y u/\Rel w M I n z t:=by
 obtain ⟨hl,h⟩:=h
 match vs,hl with
 |[v,u,t],_=>exact ⟨v,u,t,rfl,h 0 x v rfl rfl,h 1 y u rfl rfl,h 2 z t rfl rfl⟩
theorem zGu (s:Bs):(⟨s.toArray⟩:ByteArray).size=s.length:=by simp [ByteArray.size]
theorem zLm (s:Bs):(⟨s.toArray⟩:ByteArray).data.toList=s:=rfl
theorem zhI (s:Bs) (H:Heap) (hf:zEW s) (hi:zDi (zNK s)) (hl:s.length<=1000):Go.AM.Good Tryz.prog (gtQ m ev) zBY [.str s] H (.tup [zK (zNK s),.nili]) H:=
 zEv Tryz.func208 (by kernel_rfl) (by kernel_rfl) fun w M I cargs hS hA=>by
  obtain ⟨v,rfl,hv⟩:=zJh hA;obtain rfl:=zLe hv;have ha:Lib.atoiAll (⟨s.toArray⟩:ByteArray).data.toList=.ok (zNK s):=by rw [zLm,zSq hf,if_pos hi]
  have h:=Any.strconv_Atoi_ok Tryz.ownAtoi ⟨s.toArray⟩ (by rw [zGu];omega) _ ha w;rw [Tryz.atoi_number] at h;refine h.mono ?_;rintro e w' ⟨he,hw⟩;refine ⟨_,he, ?_, ?_⟩
  ·rcases hw with rfl|⟨t,rfl⟩
   ·exact RowKit.Below.refl _ _
   ·exact Lib.bytesWorld_below _ _ _
  ·refine .tup _ [_,_] rfl fun i c v h1 h2=>?_
   match i,h1,h2 with
   |0,h1,h2=>
    cases h1;cases h2;exact .int _ _
   |1,h1,h2=>
    cases h1;cases h2;exact .nili
   |i+2,h1,h2=>simp at h1
theorem zd4 (hev:∃ te pe,ev=.iface te pe) (s:Bs) (H:Heap) (hf:zEW s) (hi:¬ zDi (zNK s)) (hl:s.length<=1000):∃ n t,Go.AM.Good Tryz.prog (gtQ m ev) zBY [.str s] H (.tup [zK n,.iface t .undef]) H:=
 ⟨Lib.atoiSat s,Tryz.ownAtoi_ren.t 168,zEv Tryz.func208 (by kernel_rfl) (by kernel_rfl) fun w M I cargs hS hA=>by
  obtain ⟨v,rfl,hv⟩:=zJh hA;obtain rfl:=zLe hv;have ha:Lib.atoiAll (⟨s.toArray⟩:ByteArray).data.toList=.range:=by rw [zLm,zSq hf,if_neg hi]
  have h:=Any.strconv_Atoi_range Tryz.ownAtoi ⟨s.toArray⟩ (by rw [zGu];omega) ha ev w (zd3 hS) (.inr hev);rw [Tryz.atoi_number] at h;refine h.mono ?_;rintro e w' ⟨N,he,_,_,hB⟩;refine ⟨_,he,hB, ?_⟩;refine .tup _ [_,_] rfl fun i c v h1 h2=>?_
  match i,h1,h2 with
  |0,h1,h2=>
   cases h1;cases h2;exact .int _ _
  |1,h1,h2=>
   cases h1;cases h2;exact .iface _ _ _ (.undef _)
  |i+2,h1,h2=>simp at h1⟩
theorem zSt (s part new:Bs) (H:Heap) (hp:1<=part.length) (hl:s.length<=1000000) (hn:new.length<=1000):Go.AM.Good Tryz.prog (gtQ m ev) zBI [.str s,.str part,.str new] H (.str (zQD part new s).2) H:=
 zEv Tryz.func127 (by kernel_rfl) (by kernel_rfl) fun w M I cargs hS hA=>by
  obtain ⟨v,u,x,rfl,hv,hu,hx⟩:=zXd hA;obtain rfl:=zLe hv;obtain rfl:=zLe hu;obtain rfl:=zLe hx;have hc:Lib.countB ⟨s.toArray⟩ ⟨part.toArray⟩<=1000000:=by
   have:=Lib.countB_le ⟨part.toArray⟩ (by rw [zGu];exact hp) _ ⟨s.toArray⟩ (Nat.le_refl _);rw [zGu] at this;omega
  have hm:Lib.countB ⟨s.toArray⟩ ⟨part.toArray⟩*new.length<=1000000*1000:=Nat.mul_le_mul hc hn;have h:=Any.strings_ReplaceAll Tryz.ownReplace Tryz.extraReplace ⟨s.toArray⟩ ⟨part.toArray⟩ ⟨new.toArray⟩ m w (by rw [zGu];omega) (zj3 hS) (by rw [zGu];exact hp) (by rw [zGu,zGu];omega);rw [Tryz.replace_number,zLm,zLm,zLm,<-zhH part new s hp] at h;refine h.mono ?_;rintro e w' ⟨he,hB⟩;exact ⟨_,he,hB,.str _⟩
end
end Go.Proofs
set_option maxRecDepth 20000
namespace Go.AM
open Go Go.RowKit
section
variable {H:Type} {enc:TypeId×Value->H} {P:Program} {w:World} {held:Bool}
theorem zVl {fuel:Nat} {t:TypeId} {cs:List Value} {l:List UInt8} {ps:List MemPlace} (hu:P.underlying t=some .string) (h:DataW.trod enc P w 0 (fun _=>true) held fuel t cs=some (.lit (.string l),ps)):∃ s:ByteArray,cs=[.string s]/\s.data.toList=l:=by
 cases fuel with
 |zero=>simp [DataW.trod] at h
 |succ fuel=>
  rcases cs with _|⟨c,_|⟨c',cs⟩⟩
  ·simp [DataW.trod,hu] at h
  ·cases c <;> simp [DataW.trod,hu] at h
   rename_i s;exact ⟨s,rfl,h.2.1⟩
  ·simp [DataW.trod,hu] at h
theorem zVm {fuel n:Nat} {t e:TypeId} {cs:List Value} {ds:List (DataW H)} {ps:List MemPlace} (hu:P.underlying t=some (.array n e)) (hc:P.cellsOf e=1) (hn:P.cellsOf t=n) (h:DataW.trod enc P w 0 (fun _=>true) held fuel t cs=some (.agg ds,ps)) :
  cs.length=n/\ds.length=n/\∃ fuel',∀ (i:Nat) (c:Value) (d:DataW H),cs[i]?=some c->ds[i]?=some d->∃ p,DataW.trod enc P w 0 (fun _=>true) held fuel' e [c]=some (d,p):=by
 cases fuel with
 |zero=>simp [DataW.trod] at h
 |succ fuel=>
  simp only [DataW.trod,hu] at h;split at h
  case isFalse=>cases h
  rename_i hl;rw [hn] at hl;obtain ⟨r,hr,he⟩:=Option.map_eq_some_iff.1 h;simp only [Prod.mk.injEq,DataW.agg.injEq] at he;obtain ⟨rfl,_⟩:=he;obtain ⟨l1,l2⟩:=zHh hr;rw [List.length_range] at l1;refine ⟨hl,by rw [List.length_map,l1],fuel,fun i c d h1 h2=>?_⟩;have hi:i<n:=by rw [<-hl];exact (zg h1).1
  obtain ⟨y,e1,e2⟩:=l2 i i (by rw [List.getElem?_range hi]);rw [List.getElem?_map,e1] at h2;obtain rfl:=Option.some.inj h2;rw [hc,Nat.mul_one] at e2;have e3:(cs.drop i).take 1=[c]:=by
   have hlt:=(zg h1).1;rw [List.drop_eq_getElem_cons hlt,(zg h1).2];rfl
  rw [e3] at e2;exact ⟨_,e2⟩
theorem zZ8 {fuel:Nat} {t e:TypeId} {c:Value} {ls:List (List UInt8)} {rest:List (DataW H)} {ps:List MemPlace} (hu:P.underlying t=some (.slice e)) (hs:P.underlying e=some .string) (hc:P.cellsOf e=1)
  (h:DataW.trod enc P w 0 (fun _=>true) held fuel t [c]=some (.slice (ls.map fun l=>.lit (.string l)) rest,ps)) (hne:ls≠[]):Rel w (fun _=>none) (zFn w) 0 (.lst (some false) 1 (ls.map AV.str)) c:=by
 cases fuel with
 |zero=>simp [DataW.trod] at h
 |succ fuel=>
  cases c
  case slice a len cap=>
   cases a with
   |none=>cases len <;> cases cap <;> simp [DataW.trod,hu] at h
   |some a=>
    simp only [DataW.trod,hu] at h;split at h
    case isFalse=>cases h
    rename_i hb;obtain ⟨elems,h1,h⟩:=Option.bind_eq_some_iff.1 h;obtain ⟨rs,h2,he⟩:=Option.map_eq_some_iff.1 h;simp only [Prod.mk.injEq,DataW.slice.injEq] at he;obtain ⟨⟨he,_⟩,_⟩:=he;obtain ⟨l1,l2⟩:=zHh h1;rw [List.length_range] at l1;have hll:ls.length=len:=by
     have:=congrArg List.length he;rw [List.length_map,List.length_map] at this;omega
    have cell:∀ (i:Nat) (l:List UInt8),ls[i]?=some l->∃ s:ByteArray,w.cell? (a.add i)=some (.string s)/\s.data.toList=l:=by
     intro i l hl;have hi:i<len:=by rw [<-hll];exact (zg hl).1
     obtain ⟨y,e1,e2⟩:=l2 i i (by rw [List.getElem?_range hi]);obtain ⟨ci,e3,e4⟩:=Option.bind_eq_some_iff.1 e2;obtain ⟨e5,e6⟩:=zP4 e3;have hy:y.1=.lit (.string l):=by
      have h3:=congrArg (fun x:List (DataW H)=>x[i]?) he;simp only [List.getElem?_map,e1,hl,Option.map_some,Option.some.injEq] at h3;exact h3
     have e4:DataW.trod enc P w 0 (fun _=>true) held fuel e ci=some (.lit (.string l),y.2):=by rw [<-hy];exact e4
     obtain ⟨s,rfl,hsl⟩:=zVl hs e4;have h6:=e6 0 (.string s) rfl;rw [hc,Nat.mul_one] at h6;refine ⟨s, ?_,hsl⟩;have:(a.add i).add 0=a.add i:=by
      cases a;simp [Addr.add]
     rw [this] at h6;exact h6
    have h0:0<ls.length:=List.length_pos_iff.2 hne;obtain ⟨s0,hs0,_⟩:=cell 0 _ (List.getElem?_eq_getElem h0);have hs0:w.cell? a=some (.string s0):=by simpa [Addr.add] using hs0
    obtain ⟨g1,g2⟩:=zJL hs0;obtain ⟨ab,ao,asp⟩:=a;simp only at g1 g2;subst g2;have hlm:(ls.map AV.str).length=len:=by rw [List.length_map,hll]
    rw [<-hlm];refine Rel.mk_lst (by simp) tO hb.2.2 g1 (fun x hx=>?_) (fun i j x c hi hj=>?_)
    ·obtain ⟨l,_,rfl⟩:=List.mem_map.1 hx;exact rfl
    ·rw [List.getElem?_map] at hi;obtain ⟨l,hl,rfl⟩:=Option.map_eq_some_iff.1 hi;cases j with
     |zero=>
      have:c=.str l:=by simpa [AV.cells] using hj.symm
      subst this;obtain ⟨s,e1,e2⟩:=cell i l hl;refine ⟨.string s, ?_, ?_⟩
      ·simp only [Addr.add_lit] at e1;simpa using e1
      ·rw [<-e2];exact zUD _ _ _ _ s
     |succ j=>simp [AV.cells] at hj
  all_goals (simp [DataW.trod,hu] at h)
theorem zXe {fuel:Nat} {t:TypeId} {ms:Array (String×TypeId)} {cs:List Value} {nm:String} {d:DataW H} {ps:List MemPlace} (hu:P.underlying t=some (.interface ms)) (h:DataW.trod enc P w 0 (fun _=>true) held fuel t cs=some (.iface nm d,ps)):∃ u v,cs=[.iface u v]:=by
 cases fuel with
 |zero=>simp [DataW.trod] at h
 |succ fuel=>
  rcases cs with _|⟨c,_|⟨c',cs⟩⟩
  ·simp [DataW.trod,hu] at h
  ·cases c <;> simp [DataW.trod,hu] at h
   exact ⟨_,_,rfl⟩
  ·simp [DataW.trod,hu] at h
theorem zZ9 {fuel n g:Nat} {t e:TypeId} {cs:Array Value} {ls:List (List UInt8)} {ps:List MemPlace} (hcell:∀ j:Nat,w.cell? ⟨g,j,none⟩=cs[j]?) (hu:P.underlying t=some (.array n e)) (hs:P.underlying e=some .string) (hc:P.cellsOf e=1) (hn:P.cellsOf t=n) (h0:0<n)
  (h:DataW.trod enc P w 0 (fun _=>true) held fuel t cs.toList=some (.agg (ls.map fun l=>.lit (.string l)),ps)):Rel w (fun _=>none) (zFn w) 0 (.lref (.agg (ls.map AV.str)) 0) (.pointer (some ⟨g,0,none⟩))/\cs.size=ls.length:=by
 obtain ⟨h1,h2,fuel',h3⟩:=zVm hu hc hn h;rw [List.length_map] at h2;have h1':cs.size=n:=by simpa using h1
 have hat:∀ (j:Nat) (l:List UInt8),ls[j]?=some l->∃ s:ByteArray,w.cell? ⟨g,j,none⟩=some (.string s)/\s.data.toList=l:=fun j l hl=>by
  have hj:j<cs.size:=by rw [h1',<-h2];exact (zg hl).1
  obtain ⟨p,hp⟩:=h3 j cs[j] (.lit (.string l)) (by simp [hj]) (by rw [List.getElem?_map,hl];rfl);obtain ⟨s,e1,e2⟩:=zVl hs hp;refine ⟨s, ?_,e2⟩;rw [hcell j,Array.getElem?_eq_getElem hj];simpa using e1
 refine ⟨?_,by omega⟩;obtain ⟨l0,hl0⟩:∃ l,ls[0]?=some l:=⟨_,List.getElem?_eq_getElem tO⟩;obtain ⟨s0,hs0,_⟩:=hat 0 l0 hl0;refine Rel.mk_lref (zJL hs0).1 ?_ fun j c hj=>?_
 ·show (AV.agg (ls.map AV.str)).bel 0=true;simp only [AV.bel,AV.belL_iff];intro x hx;obtain ⟨l,_,rfl⟩:=List.mem_map.1 hx;rfl
 ·rw [Nat.zero_add] at hj ⊢;have hj:(ls.map AV.str)[j]?=some c:=hj;rw [List.getElem?_map] at hj;obtain ⟨l,hl,rfl⟩:=Option.map_eq_some_iff.1 hj;obtain ⟨s,e1,e2⟩:=hat j l hl;exact ⟨_,e1,by rw [<-e2];exact zUD _ _ _ _ s⟩
theorem zXf {fuel n g:Nat} {t u e:TypeId} {cs:Array Value} {lss:List (List (List UInt8))} {ps:List MemPlace} (hcell:∀ j:Nat,w.cell? ⟨g,j,none⟩=cs[j]?) (hu:P.underlying t=some (.array n u)) (hu2:P.underlying u=some (.slice e)) (hs:P.underlying e=some .string) (hc2:P.cellsOf u=1) (hc:P.cellsOf e=1) (hn:P.cellsOf t=n) (h0:0<n)
  (hne:∀ ls∈lss,ls≠[]) (h:DataW.trod enc P w 0 (fun _=>true) held fuel t cs.toList=some (.agg (lss.map fun ls=>.slice (ls.map fun l=>.lit (.string l)) []),ps)):Rel w (fun _=>none) (zFn w) 0 (.lref (.agg (lss.map fun ls=>.lst (some false) 1 (ls.map AV.str))) 0) (.pointer (some ⟨g,0,none⟩))/\cs.size=lss.length:=by
 obtain ⟨h1,h2,fuel',h3⟩:=zVm hu hc2 hn h;rw [List.length_map] at h2;have h1':cs.size=n:=by simpa using h1
 have hat:∀ (j:Nat) (ls:List (List UInt8)),lss[j]?=some ls->∃ v:Value,w.cell? ⟨g,j,none⟩=some v/\Rel w (fun _=>none) (zFn w) 0 (.lst (some false) 1 (ls.map AV.str)) v:=fun j ls hl=>by
  have hj:j<cs.size:=by rw [h1',<-h2];exact (zg hl).1
  obtain ⟨p,hp⟩:=h3 j cs[j] (.slice (ls.map fun l=>.lit (.string l)) []) (by simp [hj]) (by rw [List.getElem?_map,hl];rfl);exact ⟨cs[j],by rw [hcell j,Array.getElem?_eq_getElem hj],zZ8 hu2 hs hc hp (hne ls (List.mem_of_getElem? hl))⟩
 refine ⟨?_,by omega⟩;obtain ⟨l0,hl0⟩:∃ l,lss[0]?=some l:=⟨_,List.getElem?_eq_getElem tO⟩;obtain ⟨s0,hs0,_⟩:=hat 0 l0 hl0;refine Rel.mk_lref (zJL hs0).1 ?_ fun j c hj=>?_
 ·show (AV.agg (lss.map fun ls=>.lst (some false) 1 (ls.map AV.str))).bel 0=true;simp only [AV.bel,AV.belL_iff];intro x hx;obtain ⟨l,_,rfl⟩:=List.mem_map.1 hx;rfl
 ·rw [Nat.zero_add] at hj ⊢;have hj:(lss.map fun ls=>AV.lst (some false) 1 (ls.map AV.str))[j]?=some c:=hj;rw [List.getElem?_map] at hj;obtain ⟨l,hl,rfl⟩:=Option.map_eq_some_iff.1 hj;exact hat j l hl
end
end Go.AM
