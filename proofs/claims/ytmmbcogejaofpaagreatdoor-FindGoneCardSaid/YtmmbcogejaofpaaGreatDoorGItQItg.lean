/- Several texts of mine in one (ItQ, Atp, ItG, Fnp, Itg). Own work. -/
import Derived.Shelf.Strconv.AtoiAll
import Derived.Shelf.LaysC
import Derived.Shelf.LaysM
import Derived.Ground.NamesProg
import Derived.Test.YtmmbcogejaofpaaGreatDoorProg
import Derived.Test.YtmmbcogejaofpaaGreatDoorGPreFr1
import Derived.Lib.AtoiAll
import Derived.Shelf.Strings.Shaped
import Derived.Shelf.Strings.Replace
import Derived.Lib.Replace
import Derived.Test.YtmmbcogejaofpaaGreatDoorGFmAm24
import Derived.KernelRfl
set_option linter.all false
namespace Go.Proofs
open Go.Shelf
def Tryz.ownAtoi_ren : Go.Shelf.Ren:=⟨fun | 172=>117 | 244=>123 | 245=>124 | 247=>127 | 279=>128 | 280=>129 | 281=>130 | 282=>131 | 287=>134 | 316=>135 | 171=>137 | 205=>136 | 321=>138 | 322=>139 | 243=>140 | 246=>141 | 283=>142 | 284=>143 | 285=>144 | 286=>145 | 129=>66 | 317=>146 | 318=>147 | 319=>148 | 320=>149 | 337=>150 | 338=>151 | n=>n,fun | 9=>9 | 3=>3 | 75=>24 | 76=>98 | 4=>4 | 5=>5 | 167=>168 | 37=>40 | 0=>0 | 85=>169 | 2=>2 | 168=>171 | 53=>113 | 175=>175 | 46=>82 | 210=>179 | 127=>120 | 145=>184 | 143=>182 | 21=>21 | 171=>186 | 173=>188 | 212=>191 | 51=>111 | 20=>20 | 213=>192 | 232=>193 | 233=>194 | 80=>102 | n=>n,fun | 15=>5 | 16=>6 | 17=>7 | 18=>8 | 19=>9 | n=>n⟩
theorem Tryz.ownAtoi : Go.Proofs.LaysC.n172 Tryz.prog Tryz.ownAtoi_ren:={
 mixed:=by kernel_rfl
 f129:=Tryz.func66.trans (congrArg some (by kernel_rfl))
 f171:=Tryz.func137.trans (congrArg some (by kernel_rfl))
 f172:=Tryz.func117.trans (congrArg some (by kernel_rfl))
 f205:=Tryz.func136.trans (congrArg some (by kernel_rfl))
 f243:=Tryz.func140.trans (congrArg some (by kernel_rfl))
 f244:=Tryz.func123.trans (congrArg some (by kernel_rfl))
 f245:=Tryz.func124.trans (congrArg some (by kernel_rfl))
 f246:=Tryz.func141.trans (congrArg some (by kernel_rfl))
 f247:=Tryz.func127.trans (congrArg some (by kernel_rfl))
 f279:=Tryz.func128.trans (congrArg some (by kernel_rfl))
 f280:=Tryz.func129.trans (congrArg some (by kernel_rfl))
 f281:=Tryz.func130.trans (congrArg some (by kernel_rfl))
 f282:=Tryz.func131.trans (congrArg some (by kernel_rfl))
 f283:=Tryz.func142.trans (congrArg some (by kernel_rfl))
 f284:=Tryz.func143.trans (congrArg some (by kernel_rfl))
 f285:=Tryz.func144.trans (congrArg some (by kernel_rfl))
 f286:=Tryz.func145.trans (congrArg some (by kernel_rfl))
 f287:=Tryz.func134.trans (congrArg some (by kernel_rfl))
 f316:=Tryz.func135.trans (congrArg some (by kernel_rfl))
 f317:=Tryz.func146.trans (congrArg some (by kernel_rfl))
 f318:=Tryz.func147.trans (congrArg some (by kernel_rfl))
 f319:=Tryz.func148.trans (congrArg some (by kernel_rfl))
 f320:=Tryz.func149.trans (congrArg some (by kernel_rfl))
 f321:=Tryz.func138.trans (congrArg some (by kernel_rfl))
 f322:=Tryz.func139.trans (congrArg some (by kernel_rfl))
 f337:=Tryz.func150.trans (congrArg some (by kernel_rfl))
 f338:=Tryz.func151.trans (congrArg some (by kernel_rfl))
 t0:=Tryz.underlying0
 a0:=Tryz.isAgg0
 z0:=Tryz.sizeOf0
 v0:=Tryz.zeroValue0
 t2:=Tryz.underlying2
 a2:=Tryz.isAgg2
 z2:=Tryz.sizeOf2
 v2:=Tryz.zeroValue2
 t3:=Tryz.underlying3
 a3:=Tryz.isAgg3
 z3:=Tryz.sizeOf3
 v3:=Tryz.zeroValue3
 t4:=Tryz.underlying4
 a4:=Tryz.isAgg4
 z4:=Tryz.sizeOf4
 v4:=Tryz.zeroValue4
 t5:=Tryz.underlying5
 a5:=Tryz.isAgg5
 z5:=Tryz.sizeOf5
 v5:=Tryz.zeroValue5
 t9:=Tryz.underlying9
 a9:=Tryz.isAgg9
 z9:=Tryz.sizeOf9
 v9:=Tryz.zeroValue9
 t20:=Tryz.underlying20
 a20:=Tryz.isAgg20
 z20:=Tryz.sizeOf20
 v20:=Tryz.zeroValue20
 t21:=Tryz.underlying21
 a21:=Tryz.isAgg21
 z21:=Tryz.sizeOf21
 v21:=Tryz.zeroValue21
 t37:=Tryz.underlying40
 a37:=Tryz.isAgg40
 z37:=Tryz.sizeOf40
 v37:=Tryz.zeroValue40
 t46:=Tryz.underlying82
 a46:=Tryz.isAgg82
 z46:=Tryz.sizeOf82
 v46:=Tryz.zeroValue82
 t51:=Tryz.underlying111
 a51:=Tryz.isAgg111
 z51:=Tryz.sizeOf111
 v51:=Tryz.zeroValue111
 t53:=Tryz.underlying113
 a53:=Tryz.isAgg113
 z53:=Tryz.sizeOf113
 v53:=Tryz.zeroValue113
 t75:=Tryz.underlying24
 a75:=Tryz.isAgg24
 z75:=Tryz.sizeOf24
 v75:=Tryz.zeroValue24
 t76:=Tryz.underlying98
 a76:=Tryz.isAgg98
 z76:=Tryz.sizeOf98
 v76:=Tryz.zeroValue98
 t85:=Tryz.underlying169
 a85:=Tryz.isAgg169
 z85:=Tryz.sizeOf169
 v85:=Tryz.zeroValue169
 t127:=Tryz.underlying120
 a127:=Tryz.isAgg120
 z127:=Tryz.sizeOf120
 v127:=Tryz.zeroValue120
 t143:=Tryz.underlying182
 a143:=Tryz.isAgg182
 z143:=Tryz.sizeOf182
 v143:=Tryz.zeroValue182
 t145:=Tryz.underlying184
 a145:=Tryz.isAgg184
 z145:=Tryz.sizeOf184
 v145:=Tryz.zeroValue184
 t167:=Tryz.underlying168
 a167:=Tryz.isAgg168
 z167:=Tryz.sizeOf168
 v167:=Tryz.zeroValue168
 t168:=Tryz.underlying171
 a168:=Tryz.isAgg171
 z168:=Tryz.sizeOf171
 v168:=Tryz.zeroValue171
 t171:=Tryz.underlying186
 a171:=Tryz.isAgg186
 z171:=Tryz.sizeOf186
 v171:=Tryz.zeroValue186
 t173:=Tryz.underlying188
 a173:=Tryz.isAgg188
 z173:=Tryz.sizeOf188
 v173:=Tryz.zeroValue188
 t175:=Tryz.underlying175
 a175:=Tryz.isAgg175
 z175:=Tryz.sizeOf175
 v175:=Tryz.zeroValue175
 t210:=Tryz.underlying179
 a210:=Tryz.isAgg179
 z210:=Tryz.sizeOf179
 v210:=Tryz.zeroValue179
 t212:=Tryz.underlying191
 a212:=Tryz.isAgg191
 z212:=Tryz.sizeOf191
 v212:=Tryz.zeroValue191
 t213:=Tryz.underlying192
 a213:=Tryz.isAgg192
 z213:=Tryz.sizeOf192
 t232:=Tryz.underlying193
 a232:=Tryz.isAgg193
 z232:=Tryz.sizeOf193
 v232:=Tryz.zeroValue193
 t233:=Tryz.underlying194
 a233:=Tryz.isAgg194
 z233:=Tryz.sizeOf194
 v233:=Tryz.zeroValue194
 g15:=by kernel_rfl
 g16:=by kernel_rfl
 g17:=by kernel_rfl
 g18:=by kernel_rfl
 g19:=by kernel_rfl
 t80:=Tryz.underlying102
 a80:=Tryz.isAgg102
 z80:=Tryz.sizeOf102
 v80:=Tryz.zeroValue102
 i0:=by kernel_rfl
 i2:=by kernel_rfl
 i3:=by kernel_rfl
 i4:=by kernel_rfl
 i5:=by kernel_rfl
 i9:=by kernel_rfl
 i20:=by kernel_rfl
 i21:=by kernel_rfl
 i37:=by kernel_rfl
 i46:=by kernel_rfl
 i51:=by kernel_rfl
 i53:=by kernel_rfl
 i75:=by kernel_rfl
 i76:=by kernel_rfl
 i80:=by kernel_rfl
 i85:=by kernel_rfl
 i127:=by kernel_rfl
 i143:=by kernel_rfl
 i145:=by kernel_rfl
 i167:=by kernel_rfl
 i168:=by kernel_rfl
 i171:=by kernel_rfl
 i173:=by kernel_rfl
 i175:=by kernel_rfl
 i210:=by kernel_rfl
 i212:=by kernel_rfl
 i232:=by kernel_rfl
 i233:=by kernel_rfl
 m15:=by kernel_rfl
 m16:=by kernel_rfl
 m17:=by kernel_rfl
 m18:=by kernel_rfl
 m19:=by kernel_rfl
 c0:=by kernel_rfl
 c2:=by kernel_rfl
 c3:=by kernel_rfl
 c4:=by kernel_rfl
 c5:=by kernel_rfl
 c9:=by kernel_rfl
 c20:=by kernel_rfl
 c21:=by kernel_rfl
 c37:=by kernel_rfl
 c46:=by kernel_rfl
 c51:=by kernel_rfl
 c53:=by kernel_rfl
 c75:=by kernel_rfl
 c76:=by kernel_rfl
 c80:=by kernel_rfl
 c85:=by kernel_rfl
 c127:=by kernel_rfl
 c143:=by kernel_rfl
 c145:=by kernel_rfl
 c167:=by kernel_rfl
 c168:=by kernel_rfl
 c171:=by kernel_rfl
 c173:=by kernel_rfl
 c175:=by kernel_rfl
 c210:=by kernel_rfl
 c212:=by kernel_rfl
 c213:=by kernel_rfl
 c232:=by kernel_rfl
 c233:=by kernel_rfl }
end Go.Proofs
namespace Go.AM
open Go
def fV (acc : Nat) : Bs → Nat
 | []=>acc
 | c :: r=>fV (acc * 10 + (c.toNat - 48)) r
theorem fV_fold (l : Bs) : ∀ acc,l.foldl (fun n c=>n * 10 + (c.toNat - 48)) acc = fV acc l:=by
 induction l with
 | nil=>exact fun _=>rfl
 | cons c r ih=>exact fun acc=>ih _
theorem fold_ge (l : Bs) : ∀ acc,acc ≤ fV acc l:=by
 induction l with
 | nil=>exact fun acc=>Nat.le_refl _
 | cons c r ih=>exact fun acc=>Nat.le_trans tO (ih (acc * 10 + (c.toNat - 48)))
theorem pu10 (l : Bs) : ∀ acc,l.all digB = true → acc < 18446744073709551616 → Lib.parseUint10 acc l = if fV acc l < 18446744073709551616 then .ok (fV acc l) else .range:=by
 induction l with
 | nil=>
  intro acc _ h
  show Lib.NumEnd.ok acc = if acc < 18446744073709551616 then .ok acc else .range
  rw [if_pos h]
 | cons c r ih=>
  intro acc ha h
  simp only [List.all_cons,Bool.and_eq_true] at ha
  obtain ⟨hc,hr⟩:=ha
  have hd : 48 ≤ c.toNat ∧ c.toNat ≤ 57:=by simpa [digB,Bool.and_eq_true] using hc
  have hge:=fold_ge r (acc * 10 + (c.toNat - 48))
  show Lib.parseUint10 acc (c :: r) = if fV (acc * 10 + (c.toNat - 48)) r < 18446744073709551616 then .ok (fV (acc * 10 + (c.toNat - 48)) r) else .range
  unfold Lib.parseUint10
  rw [if_pos hd]
  by_cases h1 : 1844674407370955162 ≤ acc
  ·rw [if_pos h1,if_neg tO]
  ·rw [if_neg h1]
   by_cases h2 : 18446744073709551616 ≤ acc * 10 + (c.toNat - 48)
   ·rw [if_pos h2,if_neg tO]
   ·rw [if_neg h2]
    exact ih _ hr tO
theorem pmag {l : Bs} (h0 : l ≠ []) (h : l.all digB = true) : Lib.parseMag l = if zC2 l < 18446744073709551616 then .ok (zC2 l) else .range:=by
 unfold Lib.parseMag
 rw [if_neg h0]
 have e : zC2 l = fV 0 l:=fV_fold l 0
 rw [e]
 exact pu10 l 0 h (by decide)
theorem atoi_form {s : Bs} (h : zBg s) : Lib.atoiAll s = if zGv (zGw s) then .ok (zGw s) else .range:=by
 obtain ⟨h1,h2,h3⟩:=h
 cases s with
 | nil=>exact absurd rfl h1
 | cons c r=>
  by_cases hc : c = 45
  ·subst hc
   have hm : zBT (45 :: r) = (true,r):=rfl
   rw [hm] at h1 h3
   have hv : zGw (45 :: r) = -(zC2 r : Int):=by unfold zGw; rw [hm]; rfl
   rw [hv]
   unfold Lib.atoiAll
   have e : (45 : UInt8).toNat = 45:=rfl
   simp only [e,or_true,if_true]
   rw [pmag h1 h3]
   by_cases hb : zC2 r < 18446744073709551616
   ·rw [if_pos hb]
    simp only [not_true,false_and,if_false,true_and]
    by_cases hl : 9223372036854775808 < zC2 r
    ·rw [if_pos hl,if_neg (fun h=>by have:=h.1; omega)]
    ·rw [if_neg hl,if_pos ⟨by omega,by omega⟩]
   ·rw [if_neg hb,if_neg (fun h=>by have:=h.1; omega)]
  ·have hm : zBT (c :: r) = (false,c :: r):=zGL (fun h=>hc (Option.some.inj h))
   rw [hm] at h1 h3
   have hv : zGw (c :: r) = (zC2 (c :: r) : Int):=by unfold zGw; rw [hm]; rfl
   rw [hv]
   have hd : 48 ≤ c.toNat ∧ c.toNat ≤ 57:=by
    have h3' : (c :: r).all digB = true:=h3
    simp only [List.all_cons,Bool.and_eq_true] at h3'
    simpa [digB,Bool.and_eq_true] using h3'.1
   have n1 : ¬ c.toNat = 43:=by omega
   have n2 : ¬ c.toNat = 45:=by omega
   have h4:=pmag (l:=c :: r) h1 h3
   unfold Lib.atoiAll
   simp only [n1,n2,or_false,if_false]
   rw [h4]
   by_cases hb : zC2 (c :: r) < 18446744073709551616
   ·rw [if_pos hb]
    simp only [not_false_eq_true,true_and,false_and,if_false]
    by_cases hl : 9223372036854775808 ≤ zC2 (c :: r)
    ·rw [if_pos hl,if_neg (fun h=>by have:=h.2; omega)]
    ·rw [if_neg hl,if_pos ⟨by omega,by omega⟩]
   ·rw [if_neg hb,if_neg (fun h=>by have:=h.2; omega)]
end Go.AM
namespace Go.Proofs
open Go.Shelf
def Tryz.ownContains_ren : Go.Shelf.Ren:=⟨fun | 144=>26 | 143=>39 | 219=>52 | 217=>72 | 225=>73 | 224=>74 | 267=>75 | 266=>88 | 314=>89 | n=>n,fun | 9=>9 | 4=>4 | 3=>3 | 5=>5 | 46=>82 | 146=>129 | 51=>111 | n=>n,fun | 1=>0 | n=>n⟩
theorem Tryz.ownContains : Go.Proofs.LaysM.n144 Tryz.prog Tryz.ownContains_ren:={
 mixed:=by kernel_rfl
 f143:=Tryz.func39.trans (congrArg some (by kernel_rfl))
 f144:=Tryz.func26.trans (congrArg some (by kernel_rfl))
 f217:=Tryz.func72.trans (congrArg some (by kernel_rfl))
 f219:=Tryz.func52.trans (congrArg some (by kernel_rfl))
 f224:=Tryz.func74.trans (congrArg some (by kernel_rfl))
 f225:=Tryz.func73.trans (congrArg some (by kernel_rfl))
 f266:=Tryz.func88.trans (congrArg some (by kernel_rfl))
 f267:=Tryz.func75.trans (congrArg some (by kernel_rfl))
 f314:=Tryz.func89.trans (congrArg some (by kernel_rfl))
 t3:=Tryz.underlying3
 a3:=Tryz.isAgg3
 z3:=Tryz.sizeOf3
 v3:=Tryz.zeroValue3
 t4:=Tryz.underlying4
 a4:=Tryz.isAgg4
 z4:=Tryz.sizeOf4
 v4:=Tryz.zeroValue4
 t5:=Tryz.underlying5
 a5:=Tryz.isAgg5
 z5:=Tryz.sizeOf5
 v5:=Tryz.zeroValue5
 t9:=Tryz.underlying9
 a9:=Tryz.isAgg9
 z9:=Tryz.sizeOf9
 v9:=Tryz.zeroValue9
 t46:=Tryz.underlying82
 a46:=Tryz.isAgg82
 z46:=Tryz.sizeOf82
 v46:=Tryz.zeroValue82
 t51:=Tryz.underlying111
 a51:=Tryz.isAgg111
 z51:=Tryz.sizeOf111
 v51:=Tryz.zeroValue111
 t146:=Tryz.underlying129
 a146:=Tryz.isAgg129
 z146:=Tryz.sizeOf129
 v146:=Tryz.zeroValue129
 g1:=by kernel_rfl
 i3:=by kernel_rfl
 i4:=by kernel_rfl
 i5:=by kernel_rfl
 i9:=by kernel_rfl
 i46:=by kernel_rfl
 i51:=by kernel_rfl
 i146:=by kernel_rfl
 m1:=by kernel_rfl
 s1_3:=fun w h=>Go.Proofs.cell_of_shapedOpen_int (zero:=#[.int .i64 0]) (t:=3) h (of_decide_eq_true (by kernel_rfl)) (by kernel_rfl) rfl (by kernel_rfl) (by kernel_rfl) Tryz.underlying3 }
def Tryz.ownCount_ren : Go.Shelf.Ren:=⟨fun | 138=>24 | 195=>37 | 218=>38 | 143=>39 | 219=>52 | 217=>72 | 225=>73 | 224=>74 | 267=>75 | 266=>88 | 314=>89 | n=>n,fun | 9=>9 | 3=>3 | 4=>4 | 5=>5 | 0=>0 | 46=>82 | 146=>129 | 51=>111 | n=>n,fun | 1=>0 | n=>n⟩
theorem Tryz.ownCount : Go.Proofs.LaysM.n138 Tryz.prog Tryz.ownCount_ren:={
 mixed:=by kernel_rfl
 f138:=Tryz.func24.trans (congrArg some (by kernel_rfl))
 f143:=Tryz.func39.trans (congrArg some (by kernel_rfl))
 f195:=Tryz.func37.trans (congrArg some (by kernel_rfl))
 f217:=Tryz.func72.trans (congrArg some (by kernel_rfl))
 f218:=Tryz.func38.trans (congrArg some (by kernel_rfl))
 f219:=Tryz.func52.trans (congrArg some (by kernel_rfl))
 f224:=Tryz.func74.trans (congrArg some (by kernel_rfl))
 f225:=Tryz.func73.trans (congrArg some (by kernel_rfl))
 f266:=Tryz.func88.trans (congrArg some (by kernel_rfl))
 f267:=Tryz.func75.trans (congrArg some (by kernel_rfl))
 f314:=Tryz.func89.trans (congrArg some (by kernel_rfl))
 t0:=Tryz.underlying0
 a0:=Tryz.isAgg0
 z0:=Tryz.sizeOf0
 v0:=Tryz.zeroValue0
 t3:=Tryz.underlying3
 a3:=Tryz.isAgg3
 z3:=Tryz.sizeOf3
 v3:=Tryz.zeroValue3
 t4:=Tryz.underlying4
 a4:=Tryz.isAgg4
 z4:=Tryz.sizeOf4
 v4:=Tryz.zeroValue4
 t5:=Tryz.underlying5
 a5:=Tryz.isAgg5
 z5:=Tryz.sizeOf5
 v5:=Tryz.zeroValue5
 t9:=Tryz.underlying9
 a9:=Tryz.isAgg9
 z9:=Tryz.sizeOf9
 v9:=Tryz.zeroValue9
 t46:=Tryz.underlying82
 a46:=Tryz.isAgg82
 z46:=Tryz.sizeOf82
 v46:=Tryz.zeroValue82
 t51:=Tryz.underlying111
 a51:=Tryz.isAgg111
 z51:=Tryz.sizeOf111
 v51:=Tryz.zeroValue111
 t146:=Tryz.underlying129
 a146:=Tryz.isAgg129
 z146:=Tryz.sizeOf129
 v146:=Tryz.zeroValue129
 g1:=by kernel_rfl
 i0:=by kernel_rfl
 i3:=by kernel_rfl
 i4:=by kernel_rfl
 i5:=by kernel_rfl
 i9:=by kernel_rfl
 i46:=by kernel_rfl
 i51:=by kernel_rfl
 i146:=by kernel_rfl
 m1:=by kernel_rfl
 s1_3:=fun w h=>Go.Proofs.cell_of_shapedOpen_int (zero:=#[.int .i64 0]) (t:=3) h (of_decide_eq_true (by kernel_rfl)) (by kernel_rfl) rfl (by kernel_rfl) (by kernel_rfl) Tryz.underlying3 }
def Tryz.ownReplace_ren : Go.Shelf.Ren:=⟨fun | 155=>25 | 154=>40 | 138=>24 | 165=>53 | 143=>39 | 166=>54 | 197=>55 | 169=>56 | 195=>37 | 218=>38 | 240=>76 | 241=>77 | 219=>52 | 260=>78 | 276=>90 | 277=>91 | 217=>72 | 225=>73 | 224=>74 | 267=>75 | 266=>88 | 314=>89 | n=>n,fun | 9=>9 | 3=>3 | 4=>4 | 72=>96 | 0=>0 | 76=>98 | 105=>100 | 21=>21 | 5=>5 | 70=>94 | 20=>20 | 37=>40 | 75=>24 | 127=>120 | 164=>131 | 46=>82 | 119=>134 | 139=>137 | 138=>136 | 146=>129 | 51=>111 | 80=>102 | n=>n,fun | 1=>0 | 3=>2 | 4=>3 | n=>n⟩
theorem Tryz.ownReplace : Go.Proofs.Lays.n155 Tryz.prog Tryz.ownReplace_ren:={
 mixed:=by kernel_rfl
 f138:=Tryz.func24.trans (congrArg some (by kernel_rfl))
 f143:=Tryz.func39.trans (congrArg some (by kernel_rfl))
 f154:=Tryz.func40.trans (congrArg some (by kernel_rfl))
 f155:=Tryz.func25.trans (congrArg some (by kernel_rfl))
 f165:=Tryz.func53.trans (congrArg some (by kernel_rfl))
 f166:=Tryz.func54.trans (congrArg some (by kernel_rfl))
 f169:=Tryz.func56.trans (congrArg some (by kernel_rfl))
 f195:=Tryz.func37.trans (congrArg some (by kernel_rfl))
 f197:=Tryz.func55.trans (congrArg some (by kernel_rfl))
 f217:=Tryz.func72.trans (congrArg some (by kernel_rfl))
 f218:=Tryz.func38.trans (congrArg some (by kernel_rfl))
 f219:=Tryz.func52.trans (congrArg some (by kernel_rfl))
 f224:=Tryz.func74.trans (congrArg some (by kernel_rfl))
 f225:=Tryz.func73.trans (congrArg some (by kernel_rfl))
 f240:=Tryz.func76.trans (congrArg some (by kernel_rfl))
 f241:=Tryz.func77.trans (congrArg some (by kernel_rfl))
 f260:=Tryz.func78.trans (congrArg some (by kernel_rfl))
 f266:=Tryz.func88.trans (congrArg some (by kernel_rfl))
 f267:=Tryz.func75.trans (congrArg some (by kernel_rfl))
 f276:=Tryz.func90.trans (congrArg some (by kernel_rfl))
 f277:=Tryz.func91.trans (congrArg some (by kernel_rfl))
 f314:=Tryz.func89.trans (congrArg some (by kernel_rfl))
 t0:=Tryz.underlying0
 a0:=Tryz.isAgg0
 z0:=Tryz.sizeOf0
 v0:=Tryz.zeroValue0
 t3:=Tryz.underlying3
 a3:=Tryz.isAgg3
 z3:=Tryz.sizeOf3
 v3:=Tryz.zeroValue3
 t4:=Tryz.underlying4
 a4:=Tryz.isAgg4
 z4:=Tryz.sizeOf4
 v4:=Tryz.zeroValue4
 t5:=Tryz.underlying5
 a5:=Tryz.isAgg5
 z5:=Tryz.sizeOf5
 v5:=Tryz.zeroValue5
 t9:=Tryz.underlying9
 a9:=Tryz.isAgg9
 z9:=Tryz.sizeOf9
 v9:=Tryz.zeroValue9
 t20:=Tryz.underlying20
 a20:=Tryz.isAgg20
 z20:=Tryz.sizeOf20
 v20:=Tryz.zeroValue20
 t21:=Tryz.underlying21
 a21:=Tryz.isAgg21
 z21:=Tryz.sizeOf21
 v21:=Tryz.zeroValue21
 t37:=Tryz.underlying40
 a37:=Tryz.isAgg40
 z37:=Tryz.sizeOf40
 v37:=Tryz.zeroValue40
 t46:=Tryz.underlying82
 a46:=Tryz.isAgg82
 z46:=Tryz.sizeOf82
 v46:=Tryz.zeroValue82
 t51:=Tryz.underlying111
 a51:=Tryz.isAgg111
 z51:=Tryz.sizeOf111
 v51:=Tryz.zeroValue111
 t70:=Tryz.underlying94
 a70:=Tryz.isAgg94
 z70:=Tryz.sizeOf94
 v70:=Tryz.zeroValue94
 t72:=Tryz.underlying96
 a72:=Tryz.isAgg96
 z72:=Tryz.sizeOf96
 v72:=Tryz.zeroValue96
 t75:=Tryz.underlying24
 a75:=Tryz.isAgg24
 z75:=Tryz.sizeOf24
 v75:=Tryz.zeroValue24
 t76:=Tryz.underlying98
 a76:=Tryz.isAgg98
 z76:=Tryz.sizeOf98
 v76:=Tryz.zeroValue98
 t105:=Tryz.underlying100
 a105:=Tryz.isAgg100
 z105:=Tryz.sizeOf100
 v105:=Tryz.zeroValue100
 t119:=Tryz.underlying134
 a119:=Tryz.isAgg134
 z119:=Tryz.sizeOf134
 t127:=Tryz.underlying120
 a127:=Tryz.isAgg120
 z127:=Tryz.sizeOf120
 v127:=Tryz.zeroValue120
 t138:=Tryz.underlying136
 a138:=Tryz.isAgg136
 z138:=Tryz.sizeOf136
 v138:=Tryz.zeroValue136
 t139:=Tryz.underlying137
 a139:=Tryz.isAgg137
 z139:=Tryz.sizeOf137
 v139:=Tryz.zeroValue137
 t146:=Tryz.underlying129
 a146:=Tryz.isAgg129
 z146:=Tryz.sizeOf129
 v146:=Tryz.zeroValue129
 t164:=Tryz.underlying131
 a164:=Tryz.isAgg131
 z164:=Tryz.sizeOf131
 v164:=Tryz.zeroValue131
 g1:=by kernel_rfl
 g3:=by kernel_rfl
 g4:=by kernel_rfl }
end Go.Proofs
namespace Go.AM
open Go
def cntF (part new : List UInt8) : Nat → List UInt8 → Nat × List UInt8
 | 0,_=>(0,[])
 | _ + 1,[]=>(0,[])
 | k + 1,c :: r=>if part.isPrefixOf (c :: r) = true then ((cntF part new k ((c :: r).drop part.length)).1 + 1,new ++ (cntF part new k ((c :: r).drop part.length)).2) else ((cntF part new k r).1,c :: (cntF part new k r).2)
def zDI (part new s : List UInt8) : Nat × List UInt8:=cntF part new s.length s
theorem cntF_stay (part new : List UInt8) (hp : 1 ≤ part.length) : ∀ (k m : Nat) (s : List UInt8),s.length ≤ k → s.length ≤ m → cntF part new k s = cntF part new m s:=by
 intro k
 induction k with
 | zero=>
  intro m s h1 _
  obtain rfl : s = []:=List.length_eq_zero_iff.1 tO
  cases m <;> rfl
 | succ k ih=>
  intro m s h1 h2
  cases s with
  | nil=>cases m <;> rfl
  | cons c r=>
   cases m with
   | zero=>simp at h2
   | succ m=>
    simp only [List.length_cons] at h1 h2
    unfold cntF
    rw [ih m r tO tO,ih m ((c :: r).drop part.length) (by simp only [List.length_drop,List.length_cons]; omega) (by simp only [List.length_drop,List.length_cons]; omega)]
theorem cntS_nil (part new : List UInt8) : zDI part new [] = (0,[]):=rfl
theorem zF3 (part new : List UInt8) (hp : 1 ≤ part.length) (s : List UInt8) (h : part.isPrefixOf s = true) : zDI part new s = ((zDI part new (s.drop part.length)).1 + 1,new ++ (zDI part new (s.drop part.length)).2):=by
 cases s with
 | nil=>cases part with
  | nil=>simp at hp
  | cons a t=>simp at h
 | cons c r=>
  have e : zDI part new ((c :: r).drop part.length) = cntF part new r.length ((c :: r).drop part.length):=by
   unfold zDI
   exact cntF_stay part new hp _ _ _ (Nat.le_refl _) (by simp only [List.length_drop,List.length_cons]; omega)
  rw [e]
  unfold zDI
  show cntF part new (r.length + 1) (c :: r) = _
  conv=>lhs; unfold cntF
  rw [if_pos h]
theorem zF4 (part new : List UInt8) (c : UInt8) (r : List UInt8) (h : part.isPrefixOf (c :: r) = false) : zDI part new (c :: r) = ((zDI part new r).1,c :: (zDI part new r).2):=by
 unfold zDI
 show cntF part new (r.length + 1) (c :: r) = _
 conv=>lhs; unfold cntF
 rw [if_neg (by rw [h]; simp)]
theorem pre_app {part s : List UInt8} (h : part.isPrefixOf s = true) : s = part ++ s.drop part.length:=by
 obtain ⟨t,rfl⟩:=List.isPrefixOf_iff_prefix.1 h
 simp
theorem cntS_same (part : List UInt8) (hp : 1 ≤ part.length) : ∀ (k : Nat) (s : List UInt8),s.length ≤ k → (zDI part part s).2 = s:=by
 intro k
 induction k with
 | zero=>
  intro s h
  obtain rfl : s = []:=List.length_eq_zero_iff.1 tO
  rfl
 | succ k ih=>
  intro s h
  cases s with
  | nil=>rfl
  | cons c r=>
   cases hb : part.isPrefixOf (c :: r) with
   | true=>
    rw [zF3 part part hp _ hb]
    show part ++ (zDI part part ((c :: r).drop part.length)).2 = c :: r
    rw [ih _ (by simp only [List.length_drop,List.length_cons] at *; omega)]
    exact (pre_app hb).symm
   | false=>
    rw [zF4 part part c r hb]
    show c :: (zDI part part r).2 = c :: r
    rw [ih r (by simp only [List.length_cons] at h; omega)]
theorem index_nil (part : List UInt8) (hp : 1 ≤ part.length) : Lib.index [] part = -1:=by
 unfold Lib.index
 cases part with
 | nil=>simp at hp
 | cons a t=>rfl
theorem index_pre {part s : List UInt8} (h : part.isPrefixOf s = true) : Lib.index s part = 0:=by
 cases s with
 | nil=>unfold Lib.index; cases part with
  | nil=>rfl
  | cons a t=>simp at h
 | cons c r=>unfold Lib.index; rw [if_pos h]
theorem index_skip (part : List UInt8) (c : UInt8) (r : List UInt8) (h : part.isPrefixOf (c :: r) = false) : Lib.index (c :: r) part = if Lib.index r part = -1 then -1 else Lib.index r part + 1:=by
 conv=>lhs; unfold Lib.index
 rw [h]
 simp only [Bool.false_eq_true,if_false,beq_iff_eq]
theorem zE1 (part : List UInt8) (hp : 1 ≤ part.length) : ∀ (k m : Nat) (s : List UInt8),s.length < k → s.length < m → Lib.countFrom part k s = Lib.countFrom part m s:=by
 intro k
 induction k with
 | zero=>intro m s h _; omega
 | succ k ih=>
  intro m s h1 h2
  cases m with
  | zero=>omega
  | succ m=>
   unfold Lib.countFrom
   by_cases hi : (Lib.index s part == -1) = true
   ·rw [if_pos hi,if_pos hi]
   ·rw [if_neg hi,if_neg hi]
    have hge:=Lib.index_ge s part
    have hne : Lib.index s part ≠ -1:=fun e=>hi (tE e)
    have hr:=Lib.index_room s part tO
    rw [ih m (s.drop ((Lib.index s part).toNat + part.length)) (by rw [List.length_drop]; omega) (by rw [List.length_drop]; omega)]
theorem lcount_hit (part : List UInt8) (hp : 1 ≤ part.length) (s : List UInt8) (h : part.isPrefixOf s = true) : Lib.count s part = 1 + Lib.count (s.drop part.length) part:=by
 have hi:=index_pre h
 have hr:=Lib.index_room s part tO
 unfold Lib.count
 conv=>lhs; unfold Lib.countFrom
 rw [if_neg (by rw [hi]; simp),hi]
 show 1 + Lib.countFrom part s.length (s.drop (0 + part.length)) = _
 rw [Nat.zero_add,zE1 part hp s.length ((s.drop part.length).length + 1) _ (by rw [List.length_drop]; omega) tO]
theorem lcount_miss (part : List UInt8) (hp : 1 ≤ part.length) (c : UInt8) (r : List UInt8) (h : part.isPrefixOf (c :: r) = false) : Lib.count (c :: r) part = Lib.count r part:=by
 have hi:=index_skip part c r h
 unfold Lib.count
 conv=>lhs; unfold Lib.countFrom
 conv=>rhs; unfold Lib.countFrom
 by_cases h1 : Lib.index r part = -1
 ·rw [if_pos h1] at hi
  rw [hi,h1]; rfl
 ·rw [if_neg h1] at hi
  have hge:=Lib.index_ge r part
  have hr:=Lib.index_room r part tO
  have n1 : ¬ ((Lib.index (c :: r) part == -1) = true):=fun e=>by have:=beq_iff_eq.1 e; omega
  have n2 : ¬ ((Lib.index r part == -1) = true):=fun e=>by have:=beq_iff_eq.1 e; omega
  rw [if_neg n1,if_neg n2,hi]
  have e : (Lib.index r part + 1).toNat + part.length = ((Lib.index r part).toNat + part.length) + 1:=by omega
  rw [e,List.drop_succ_cons]
  rw [zE1 part hp (c :: r).length r.length _ (by simp only [List.length_drop,List.length_cons]; omega) (by rw [List.length_drop]; omega)]
theorem lrep_miss (part new : List UInt8) (c : UInt8) (r : List UInt8) (h : part.isPrefixOf (c :: r) = false) (k : Nat) : Lib.replaceK part new k (c :: r) = c :: Lib.replaceK part new k r:=by
 cases k with
 | zero=>rfl
 | succ k=>
  have hi:=index_skip part c r h
  unfold Lib.replaceK
  by_cases h1 : Lib.index r part = -1
  ·rw [if_pos h1] at hi
   rw [hi,h1]; rfl
  ·rw [if_neg h1] at hi
   have hge:=Lib.index_ge r part
   have n1 : ¬ ((Lib.index (c :: r) part == -1) = true):=fun e=>by have:=beq_iff_eq.1 e; omega
   have n2 : ¬ ((Lib.index r part == -1) = true):=fun e=>by have:=beq_iff_eq.1 e; omega
   rw [if_neg n1,if_neg n2,hi]
   have e : (Lib.index r part + 1).toNat = (Lib.index r part).toNat + 1:=by omega
   rw [e,List.take_succ_cons,show (Lib.index r part).toNat + 1 + part.length = ((Lib.index r part).toNat + part.length) + 1 from by omega,List.drop_succ_cons]
   rfl
theorem lrep_hit (part new : List UInt8) (s : List UInt8) (h : part.isPrefixOf s = true) (k : Nat) : Lib.replaceK part new (k + 1) s = new ++ Lib.replaceK part new k (s.drop part.length):=by
 have hi:=index_pre h
 rw [Lib.replaceK_hit part new k s 0 hi]
 simp
theorem cntS_is (part new : List UInt8) (hp : 1 ≤ part.length) : ∀ (k : Nat) (s : List UInt8),s.length ≤ k → (zDI part new s).1 = Lib.count s part ∧ (zDI part new s).2 = Lib.replaceK part new (Lib.count s part) s:=by
 intro k
 induction k with
 | zero=>
  intro s h
  obtain rfl : s = []:=List.length_eq_zero_iff.1 tO
  have hc : Lib.count [] part = 0:=by
   unfold Lib.count Lib.countFrom
   rw [index_nil part hp]; rfl
  rw [hc]
  exact ⟨rfl,rfl⟩
 | succ k ih=>
  intro s h
  cases s with
  | nil=>
   have hc : Lib.count [] part = 0:=by
    unfold Lib.count Lib.countFrom
    rw [index_nil part hp]; rfl
   rw [hc]
   exact ⟨rfl,rfl⟩
  | cons c r=>
   cases hb : part.isPrefixOf (c :: r) with
   | true=>
    obtain ⟨h1,h2⟩:=ih ((c :: r).drop part.length) (by simp only [List.length_drop,List.length_cons] at *; omega)
    rw [zF3 part new hp _ hb,lcount_hit part hp _ hb,Nat.add_comm 1,lrep_hit part new _ hb]
    exact ⟨by rw [h1],by rw [h2]⟩
   | false=>
    obtain ⟨h1,h2⟩:=ih r (by simp only [List.length_cons] at h; omega)
    rw [zF4 part new c r hb,lcount_miss part hp c r hb,lrep_miss part new c r hb]
    exact ⟨h1,by rw [h2]⟩
theorem cnt_count (part new s : List UInt8) (hp : 1 ≤ part.length) : (zDI part new s).1 = Lib.count s part:=(cntS_is part new hp s.length s (Nat.le_refl _)).1
theorem cnt_rep (part new s : List UInt8) (hp : 1 ≤ part.length) : (zDI part new s).2 = Lib.replaceAll s part new:=by
 unfold Lib.replaceAll Lib.replace
 by_cases he : (part == new) = true
 ·rw [if_pos he]
  obtain rfl:=beq_iff_eq.1 he
  exact cntS_same part hp s.length s (Nat.le_refl _)
 ·rw [if_neg he,(cntS_is part new hp s.length s (Nat.le_refl _)).2]
  unfold Lib.replaceNum
  rw [if_pos (.inl (by decide))]
theorem cnt_has (part new s : List UInt8) (hp : 1 ≤ part.length) : Lib.contains s part = decide (0 < (zDI part new s).1):=by
 rw [cnt_count part new s hp]
 unfold Lib.contains
 congr 1
 apply propext
 have hge:=Lib.index_ge s part
 unfold Lib.count Lib.countFrom
 by_cases h : (Lib.index s part == -1) = true
 ·rw [if_pos h]
  have:=beq_iff_eq.1 h
  constructor <;> intro <;> omega
 ·rw [if_neg h]
  have : Lib.index s part ≠ -1:=fun e=>h (tE e)
  constructor <;> intro <;> omega
theorem cnt_self (part new : List UInt8) (hp : 1 ≤ part.length) : zDI part new part = (1,new):=by
 have h : part.isPrefixOf part = true:=List.isPrefixOf_iff_prefix.2 (List.prefix_refl _)
 rw [zF3 part new hp part h,List.drop_length,cntS_nil]
 simp
end Go.AM
set_option maxRecDepth 100000
namespace Go.Proofs
open Go.Shelf Go.RowKit Go.AM
theorem Tryz.atoi_number : Tryz.ownAtoi_ren.f 172 = zAM:=by kernel_rfl
theorem Tryz.contains_number : Tryz.ownContains_ren.f 144 = zBL:=by kernel_rfl
theorem Tryz.count_number : Tryz.ownCount_ren.f 138 = zBp:=by kernel_rfl
theorem Tryz.replace_number : Tryz.ownReplace_ren.f 155 = zAu:=by kernel_rfl
theorem Tryz.extraReplace : Builder.Extra Tryz.prog Tryz.ownReplace_ren:={
 sizeBuilder:=by kernel_rfl
 liesBuilder:=by kernel_rfl
 t5:=Tryz.ownReplace.t5
 a5:=Tryz.ownReplace.a5
 z5:=Tryz.ownReplace.z5
 v5:=Tryz.ownReplace.v5
 infoByte:=by kernel_rfl
 cellsByte:=by kernel_rfl
 sizeByte:=by kernel_rfl
 neB5:=by decide }
section
variable {m : Int} {ev : Value}
theorem max_at {w : World} {M : AMap} {I : Nat → Prop} {H : Heap} (hS : Sim (gtQ m ev) w M I H) : w.cell? ⟨0,0,none⟩ = some (.int .i64 m):=by
 have h0:=hS.glob 0 (.int .i64 m) rfl
 cases h0 with
 | lref _ _ _ _ V hI hx hvv hr=>
  have h1:=hvv 0 (.int .i64 m) rfl
  have h2:=hr 0 (.int .i64 m) rfl
  rw [h1,rel_int' h2]
theorem range_at {w : World} {M : AMap} {I : Nat → Prop} {H : Heap} (hS : Sim (gtQ m ev) w M I H) : w.cell? ⟨6,0,none⟩ = some ev:=by
 have h0:=hS.glob 6 (.raw ev) rfl
 cases h0 with
 | lref _ _ _ _ V hI hx hvv hr=>
  have h1:=hvv 0 (.raw ev) rfl
  have h2:=hr 0 (.raw ev) rfl
  rw [h1,rel_raw' h2]
theorem relL_three {w : World} {M : AMap} {I : Nat → Prop} {n : Nat} {x y z : AV} {vs : List Value} (h : zBj w M I n [x,y,z] vs) : ∃ v u t,vs = [v,u,t] ∧ Rel w M I n x v ∧ Rel w M I n y u ∧ Rel w M I n z t:=by
 obtain ⟨hl,h⟩:=h
 match vs,hl with
 | [v,u,t],_=>exact ⟨v,u,t,rfl,h 0 x v rfl rfl,h 1 y u rfl rfl,h 2 z t rfl rfl⟩
theorem zBy (s : Bs) : (⟨s.toArray⟩ : ByteArray).size = s.length:=by simp [ByteArray.size]
theorem zD2 (s : Bs) : (⟨s.toArray⟩ : ByteArray).data.toList = s:=rfl
theorem atoi_ok (s : Bs) (H : Heap) (hf : zBg s) (hi : zGv (zGw s)) (hl : s.length ≤ 1000) : Go.AM.Good Tryz.prog (gtQ m ev) zAM [.str s] H (.tup [zf (zGw s),.nili]) H:=
 zBx Tryz.func117 (by kernel_rfl) (by kernel_rfl) fun w M I cargs hS hA=>by
  obtain ⟨v,rfl,hv⟩:=relL_one hA
  obtain rfl:=zB9 hv
  have ha : Lib.atoiAll (⟨s.toArray⟩ : ByteArray).data.toList = .ok (zGw s):=by rw [zD2,atoi_form hf,if_pos hi]
  have h:=Any.strconv_Atoi_ok Tryz.ownAtoi ⟨s.toArray⟩ (by rw [zBy]; omega) _ ha w
  rw [Tryz.atoi_number] at h
  refine h.mono ?_
  rintro e w' ⟨he,hw⟩
  refine ⟨_,he, ?_, ?_⟩
  ·rcases hw with rfl | ⟨t,rfl⟩
   ·exact RowKit.Below.refl _ _
   ·exact Lib.bytesWorld_below _ _ _
  ·refine .tup _ [_,_] rfl fun i c v h1 h2=>?_
   match i,h1,h2 with
   | 0,h1,h2=>
    cases h1; cases h2; exact .int _ _
   | 1,h1,h2=>
    cases h1; cases h2; exact .nili
   | i + 2,h1,h2=>simp at h1
theorem atoi_bad (hev : ∃ te pe,ev = .iface te pe) (s : Bs) (H : Heap) (hf : zBg s) (hi : ¬ zGv (zGw s)) (hl : s.length ≤ 1000) : ∃ n t,Go.AM.Good Tryz.prog (gtQ m ev) zAM [.str s] H (.tup [zf n,.iface t .undef]) H:=
 ⟨Lib.atoiSat s,Tryz.ownAtoi_ren.t 168,zBx Tryz.func117 (by kernel_rfl) (by kernel_rfl) fun w M I cargs hS hA=>by
  obtain ⟨v,rfl,hv⟩:=relL_one hA
  obtain rfl:=zB9 hv
  have ha : Lib.atoiAll (⟨s.toArray⟩ : ByteArray).data.toList = .range:=by rw [zD2,atoi_form hf,if_neg hi]
  have h:=Any.strconv_Atoi_range Tryz.ownAtoi ⟨s.toArray⟩ (by rw [zBy]; omega) ha ev w (range_at hS) (.inr hev)
  rw [Tryz.atoi_number] at h
  refine h.mono ?_
  rintro e w' ⟨N,he,_,_,hB⟩
  refine ⟨_,he,hB, ?_⟩
  refine .tup _ [_,_] rfl fun i c v h1 h2=>?_
  match i,h1,h2 with
  | 0,h1,h2=>
   cases h1; cases h2; exact .int _ _
  | 1,h1,h2=>
   cases h1; cases h2; exact .iface _ _ _ (.undef _)
  | i + 2,h1,h2=>simp at h1⟩
theorem contains_good (s part : Bs) (H : Heap) (hp : 1 ≤ part.length) (hl : s.length ≤ 1000) : Go.AM.Good Tryz.prog (gtQ m ev) zBL [.str s,.str part] H (.bool (decide (0 < (zDI part [] s).1))) H:=
 zBx Tryz.func26 (by kernel_rfl) (by kernel_rfl) fun w M I cargs hS hA=>by
  obtain ⟨v,u,rfl,hv,hu⟩:=zHA hA
  obtain rfl:=zB9 hv
  obtain rfl:=zB9 hu
  have h:=Any.strings_Contains { Tryz.ownContains with } ⟨s.toArray⟩ ⟨part.toArray⟩ m w (by rw [zBy]; omega) (max_at hS)
  rw [Tryz.contains_number,zD2,zD2,cnt_has part [] s hp] at h
  refine h.mono ?_
  rintro e w' ⟨he,rfl⟩
  exact ⟨_,he,RowKit.Below.refl _ _,.bool _⟩
theorem count_good (s part new : Bs) (H : Heap) (hp : 1 ≤ part.length) (hl : s.length ≤ 1000) : Go.AM.Good Tryz.prog (gtQ m ev) zBp [.str s,.str part] H (zP (zDI part new s).1) H:=
 zBx Tryz.func24 (by kernel_rfl) (by kernel_rfl) fun w M I cargs hS hA=>by
  obtain ⟨v,u,rfl,hv,hu⟩:=zHA hA
  obtain rfl:=zB9 hv
  obtain rfl:=zB9 hu
  have h:=Any.strings_Count_any { Tryz.ownCount with } ⟨s.toArray⟩ ⟨part.toArray⟩ m w (by rw [zBy]; omega) (max_at hS) (by rw [zBy]; exact hp)
  have e1 : Lib.countB ⟨s.toArray⟩ ⟨part.toArray⟩ = (zDI part new s).1:=(cnt_count part new s hp).symm
  rw [Tryz.count_number,e1] at h
  refine h.mono ?_
  rintro e w' ⟨he,rfl⟩
  exact ⟨_,he,RowKit.Below.refl _ _,.int _ _⟩
theorem replace_good (s part new : Bs) (H : Heap) (hp : 1 ≤ part.length) (hl : s.length ≤ 1000) (hn : new.length ≤ 1000) : Go.AM.Good Tryz.prog (gtQ m ev) zAu [.str s,.str part,.str new] H (.str (zDI part new s).2) H:=
 zBx Tryz.func25 (by kernel_rfl) (by kernel_rfl) fun w M I cargs hS hA=>by
  obtain ⟨v,u,x,rfl,hv,hu,hx⟩:=relL_three hA
  obtain rfl:=zB9 hv
  obtain rfl:=zB9 hu
  obtain rfl:=zB9 hx
  have hc : Lib.countB ⟨s.toArray⟩ ⟨part.toArray⟩ ≤ 1000:=by
   have:=Lib.countB_le ⟨part.toArray⟩ (by rw [zBy]; exact hp) _ ⟨s.toArray⟩ (Nat.le_refl _)
   rw [zBy] at this
   omega
  have hm : Lib.countB ⟨s.toArray⟩ ⟨part.toArray⟩ * new.length ≤ 1000 * 1000:=Nat.mul_le_mul hc hn
  have h:=Any.strings_ReplaceAll Tryz.ownReplace Tryz.extraReplace ⟨s.toArray⟩ ⟨part.toArray⟩ ⟨new.toArray⟩ m w (by rw [zBy]; omega) (max_at hS) (by rw [zBy]; exact hp) (by rw [zBy,zBy]; omega)
  rw [Tryz.replace_number,zD2,zD2,zD2,← cnt_rep part new s hp] at h
  refine h.mono ?_
  rintro e w' ⟨he,hB⟩
  exact ⟨_,he,hB,.str _⟩
end
end Go.Proofs
