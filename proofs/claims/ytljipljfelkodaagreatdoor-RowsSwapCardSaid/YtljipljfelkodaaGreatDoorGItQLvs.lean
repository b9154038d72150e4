/- Several texts of mine in one (ItQ, Atp, Itg, Lvs). Own work. -/
import Derived.Shelf.Strconv.AtoiAll
import Derived.Shelf.LaysC
import Derived.Shelf.LaysM
import Derived.Ground.NamesProg
import Derived.Test.YtljipljfelkodaaGreatDoorProg
import Derived.Test.YtljipljfelkodaaGreatDoorGFp2Fr3
import Derived.Lib.AtoiAll
import Derived.Test.YtljipljfelkodaaGreatDoorGFr7ToldQ
import Derived.KernelRfl
import Derived.Test.YtljipljfelkodaaGreatDoorGAm30Fp1
set_option linter.all false
namespace Go.Proofs
open Go.Shelf
def Tryz.ownAtoi_ren : Go.Shelf.Ren:=⟨fun | 172=>170 | 244=>185 | 245=>186 | 247=>195 | 279=>196 | 280=>197 | 281=>198 | 282=>199 | 287=>202 | 316=>203 | 171=>106 | 205=>204 | 321=>205 | 322=>206 | 243=>137 | 246=>156 | 283=>174 | 284=>175 | 285=>176 | 286=>177 | 129=>90 | 317=>189 | 318=>190 | 319=>191 | 320=>192 | 337=>200 | 338=>201 | n=>n,fun | 9=>9 | 3=>3 | 75=>26 | 76=>127 | 4=>4 | 5=>5 | 167=>242 | 37=>97 | 0=>0 | 85=>243 | 2=>2 | 168=>245 | 53=>151 | 175=>248 | 46=>105 | 210=>252 | 127=>139 | 145=>258 | 143=>256 | 21=>21 | 171=>225 | 173=>227 | 212=>238 | 51=>149 | 20=>20 | 213=>239 | 232=>253 | 233=>254 | 80=>102 | n=>n,fun | 15=>7 | 16=>8 | 17=>6 | 18=>9 | 19=>10 | n=>n⟩
theorem Tryz.ownAtoi : Go.Proofs.LaysC.n172 Tryz.prog Tryz.ownAtoi_ren:={
 mixed:=by kernel_rfl
 f129:=Tryz.func90.trans (congrArg some (by kernel_rfl))
 f171:=Tryz.func106.trans (congrArg some (by kernel_rfl))
 f172:=Tryz.func170.trans (congrArg some (by kernel_rfl))
 f205:=Tryz.func204.trans (congrArg some (by kernel_rfl))
 f243:=Tryz.func137.trans (congrArg some (by kernel_rfl))
 f244:=Tryz.func185.trans (congrArg some (by kernel_rfl))
 f245:=Tryz.func186.trans (congrArg some (by kernel_rfl))
 f246:=Tryz.func156.trans (congrArg some (by kernel_rfl))
 f247:=Tryz.func195.trans (congrArg some (by kernel_rfl))
 f279:=Tryz.func196.trans (congrArg some (by kernel_rfl))
 f280:=Tryz.func197.trans (congrArg some (by kernel_rfl))
 f281:=Tryz.func198.trans (congrArg some (by kernel_rfl))
 f282:=Tryz.func199.trans (congrArg some (by kernel_rfl))
 f283:=Tryz.func174.trans (congrArg some (by kernel_rfl))
 f284:=Tryz.func175.trans (congrArg some (by kernel_rfl))
 f285:=Tryz.func176.trans (congrArg some (by kernel_rfl))
 f286:=Tryz.func177.trans (congrArg some (by kernel_rfl))
 f287:=Tryz.func202.trans (congrArg some (by kernel_rfl))
 f316:=Tryz.func203.trans (congrArg some (by kernel_rfl))
 f317:=Tryz.func189.trans (congrArg some (by kernel_rfl))
 f318:=Tryz.func190.trans (congrArg some (by kernel_rfl))
 f319:=Tryz.func191.trans (congrArg some (by kernel_rfl))
 f320:=Tryz.func192.trans (congrArg some (by kernel_rfl))
 f321:=Tryz.func205.trans (congrArg some (by kernel_rfl))
 f322:=Tryz.func206.trans (congrArg some (by kernel_rfl))
 f337:=Tryz.func200.trans (congrArg some (by kernel_rfl))
 f338:=Tryz.func201.trans (congrArg some (by kernel_rfl))
 t0:=Tryz.underlying0
 a0:=Tryz.isAgg0
 z0:=Tryz.sizeOf0
 v0:=Tryz.zeroValue0
 t2:=Tryz.underlying2
 a2:=Tryz.isAgg2
 z2:=Tryz.sizeOf2
 v2:=Tryz.zeroValue2
 t3:=Tryz.underlying3
 a3:=Tryz.isAgg3
 z3:=Tryz.sizeOf3
 v3:=Tryz.zeroValue3
 t4:=Tryz.underlying4
 a4:=Tryz.isAgg4
 z4:=Tryz.sizeOf4
 v4:=Tryz.zeroValue4
 t5:=Tryz.underlying5
 a5:=Tryz.isAgg5
 z5:=Tryz.sizeOf5
 v5:=Tryz.zeroValue5
 t9:=Tryz.underlying9
 a9:=Tryz.isAgg9
 z9:=Tryz.sizeOf9
 v9:=Tryz.zeroValue9
 t20:=Tryz.underlying20
 a20:=Tryz.isAgg20
 z20:=Tryz.sizeOf20
 v20:=Tryz.zeroValue20
 t21:=Tryz.underlying21
 a21:=Tryz.isAgg21
 z21:=Tryz.sizeOf21
 v21:=Tryz.zeroValue21
 t37:=Tryz.underlying97
 a37:=Tryz.isAgg97
 z37:=Tryz.sizeOf97
 v37:=Tryz.zeroValue97
 t46:=Tryz.underlying105
 a46:=Tryz.isAgg105
 z46:=Tryz.sizeOf105
 v46:=Tryz.zeroValue105
 t51:=Tryz.underlying149
 a51:=Tryz.isAgg149
 z51:=Tryz.sizeOf149
 v51:=Tryz.zeroValue149
 t53:=Tryz.underlying151
 a53:=Tryz.isAgg151
 z53:=Tryz.sizeOf151
 v53:=Tryz.zeroValue151
 t75:=Tryz.underlying26
 a75:=Tryz.isAgg26
 z75:=Tryz.sizeOf26
 v75:=Tryz.zeroValue26
 t76:=Tryz.underlying127
 a76:=Tryz.isAgg127
 z76:=Tryz.sizeOf127
 v76:=Tryz.zeroValue127
 t85:=Tryz.underlying243
 a85:=Tryz.isAgg243
 z85:=Tryz.sizeOf243
 v85:=Tryz.zeroValue243
 t127:=Tryz.underlying139
 a127:=Tryz.isAgg139
 z127:=Tryz.sizeOf139
 v127:=Tryz.zeroValue139
 t143:=Tryz.underlying256
 a143:=Tryz.isAgg256
 z143:=Tryz.sizeOf256
 v143:=Tryz.zeroValue256
 t145:=Tryz.underlying258
 a145:=Tryz.isAgg258
 z145:=Tryz.sizeOf258
 v145:=Tryz.zeroValue258
 t167:=Tryz.underlying242
 a167:=Tryz.isAgg242
 z167:=Tryz.sizeOf242
 v167:=Tryz.zeroValue242
 t168:=Tryz.underlying245
 a168:=Tryz.isAgg245
 z168:=Tryz.sizeOf245
 v168:=Tryz.zeroValue245
 t171:=Tryz.underlying225
 a171:=Tryz.isAgg225
 z171:=Tryz.sizeOf225
 v171:=Tryz.zeroValue225
 t173:=Tryz.underlying227
 a173:=Tryz.isAgg227
 z173:=Tryz.sizeOf227
 v173:=Tryz.zeroValue227
 t175:=Tryz.underlying248
 a175:=Tryz.isAgg248
 z175:=Tryz.sizeOf248
 v175:=Tryz.zeroValue248
 t210:=Tryz.underlying252
 a210:=Tryz.isAgg252
 z210:=Tryz.sizeOf252
 v210:=Tryz.zeroValue252
 t212:=Tryz.underlying238
 a212:=Tryz.isAgg238
 z212:=Tryz.sizeOf238
 v212:=Tryz.zeroValue238
 t213:=Tryz.underlying239
 a213:=Tryz.isAgg239
 z213:=Tryz.sizeOf239
 t232:=Tryz.underlying253
 a232:=Tryz.isAgg253
 z232:=Tryz.sizeOf253
 v232:=Tryz.zeroValue253
 t233:=Tryz.underlying254
 a233:=Tryz.isAgg254
 z233:=Tryz.sizeOf254
 v233:=Tryz.zeroValue254
 g15:=by kernel_rfl
 g16:=by kernel_rfl
 g17:=by kernel_rfl
 g18:=by kernel_rfl
 g19:=by kernel_rfl
 t80:=Tryz.underlying102
 a80:=Tryz.isAgg102
 z80:=Tryz.sizeOf102
 v80:=Tryz.zeroValue102
 i0:=by kernel_rfl
 i2:=by kernel_rfl
 i3:=by kernel_rfl
 i4:=by kernel_rfl
 i5:=by kernel_rfl
 i9:=by kernel_rfl
 i20:=by kernel_rfl
 i21:=by kernel_rfl
 i37:=by kernel_rfl
 i46:=by kernel_rfl
 i51:=by kernel_rfl
 i53:=by kernel_rfl
 i75:=by kernel_rfl
 i76:=by kernel_rfl
 i80:=by kernel_rfl
 i85:=by kernel_rfl
 i127:=by kernel_rfl
 i143:=by kernel_rfl
 i145:=by kernel_rfl
 i167:=by kernel_rfl
 i168:=by kernel_rfl
 i171:=by kernel_rfl
 i173:=by kernel_rfl
 i175:=by kernel_rfl
 i210:=by kernel_rfl
 i212:=by kernel_rfl
 i232:=by kernel_rfl
 i233:=by kernel_rfl
 m15:=by kernel_rfl
 m16:=by kernel_rfl
 m17:=by kernel_rfl
 m18:=by kernel_rfl
 m19:=by kernel_rfl
 c0:=by kernel_rfl
 c2:=by kernel_rfl
 c3:=by kernel_rfl
 c4:=by kernel_rfl
 c5:=by kernel_rfl
 c9:=by kernel_rfl
 c20:=by kernel_rfl
 c21:=by kernel_rfl
 c37:=by kernel_rfl
 c46:=by kernel_rfl
 c51:=by kernel_rfl
 c53:=by kernel_rfl
 c75:=by kernel_rfl
 c76:=by kernel_rfl
 c80:=by kernel_rfl
 c85:=by kernel_rfl
 c127:=by kernel_rfl
 c143:=by kernel_rfl
 c145:=by kernel_rfl
 c167:=by kernel_rfl
 c168:=by kernel_rfl
 c171:=by kernel_rfl
 c173:=by kernel_rfl
 c175:=by kernel_rfl
 c210:=by kernel_rfl
 c212:=by kernel_rfl
 c213:=by kernel_rfl
 c232:=by kernel_rfl
 c233:=by kernel_rfl }
end Go.Proofs
namespace Go.AM
open Go
def fV (acc : Nat) : Bs → Nat
 | []=>acc
 | c :: r=>fV (acc * 10 + (c.toNat - 48)) r
theorem fV_fold (l : Bs) : ∀ acc,l.foldl (fun n c=>n * 10 + (c.toNat - 48)) acc = fV acc l:=by
 induction l with
 | nil=>exact fun _=>rfl
 | cons c r ih=>exact fun acc=>ih _
theorem fold_ge (l : Bs) : ∀ acc,acc ≤ fV acc l:=by
 induction l with
 | nil=>exact fun acc=>Nat.le_refl _
 | cons c r ih=>exact fun acc=>Nat.le_trans tO (ih (acc * 10 + (c.toNat - 48)))
theorem pu10 (l : Bs) : ∀ acc,l.all zGm = true → acc < 18446744073709551616 → Lib.parseUint10 acc l = if fV acc l < 18446744073709551616 then .ok (fV acc l) else .range:=by
 induction l with
 | nil=>
  intro acc _ h
  show Lib.NumEnd.ok acc = if acc < 18446744073709551616 then .ok acc else .range
  rw [if_pos h]
 | cons c r ih=>
  intro acc ha h
  simp only [List.all_cons,Bool.and_eq_true] at ha
  obtain ⟨hc,hr⟩:=ha
  have hd : 48 ≤ c.toNat ∧ c.toNat ≤ 57:=by simpa [zGm,Bool.and_eq_true] using hc
  have hge:=fold_ge r (acc * 10 + (c.toNat - 48))
  show Lib.parseUint10 acc (c :: r) = if fV (acc * 10 + (c.toNat - 48)) r < 18446744073709551616 then .ok (fV (acc * 10 + (c.toNat - 48)) r) else .range
  unfold Lib.parseUint10
  rw [if_pos hd]
  by_cases h1 : 1844674407370955162 ≤ acc
  ·rw [if_pos h1,if_neg tO]
  ·rw [if_neg h1]
   by_cases h2 : 18446744073709551616 ≤ acc * 10 + (c.toNat - 48)
   ·rw [if_pos h2,if_neg tO]
   ·rw [if_neg h2]
    exact ih _ hr tO
theorem pmag {l : Bs} (h0 : l ≠ []) (h : l.all zGm = true) : Lib.parseMag l = if zCi l < 18446744073709551616 then .ok (zCi l) else .range:=by
 unfold Lib.parseMag
 rw [if_neg h0]
 have e : zCi l = fV 0 l:=fV_fold l 0
 rw [e]
 exact pu10 l 0 h (by decide)
theorem atoi_form {s : Bs} (h : zC5 s) : Lib.atoiAll s = if zDC (zKX s) then .ok (zKX s) else .range:=by
 obtain ⟨h1,h2,h3⟩:=h
 cases s with
 | nil=>exact absurd rfl h1
 | cons c r=>
  by_cases hc : c = 45
  ·subst hc
   have hm : zCe (45 :: r) = (true,r):=rfl
   rw [hm] at h1 h3
   have hv : zKX (45 :: r) = -(zCi r : Int):=by unfold zKX; rw [hm]; rfl
   rw [hv]
   unfold Lib.atoiAll
   have e : (45 : UInt8).toNat = 45:=rfl
   simp only [e,or_true,if_true]
   rw [pmag h1 h3]
   by_cases hb : zCi r < 18446744073709551616
   ·rw [if_pos hb]
    simp only [not_true,false_and,if_false,true_and]
    by_cases hl : 9223372036854775808 < zCi r
    ·rw [if_pos hl,if_neg (fun h=>by have:=h.1; omega)]
    ·rw [if_neg hl,if_pos ⟨by omega,by omega⟩]
   ·rw [if_neg hb,if_neg (fun h=>by have:=h.1; omega)]
  ·have hm : zCe (c :: r) = (false,c :: r):=zJh (fun h=>hc (Option.some.inj h))
   rw [hm] at h1 h3
   have hv : zKX (c :: r) = (zCi (c :: r) : Int):=by unfold zKX; rw [hm]; rfl
   rw [hv]
   have hd : 48 ≤ c.toNat ∧ c.toNat ≤ 57:=by
    have h3' : (c :: r).all zGm = true:=h3
    simp only [List.all_cons,Bool.and_eq_true] at h3'
    simpa [zGm,Bool.and_eq_true] using h3'.1
   have n1 : ¬ c.toNat = 43:=by omega
   have n2 : ¬ c.toNat = 45:=by omega
   have h4:=pmag (l:=c :: r) h1 h3
   unfold Lib.atoiAll
   simp only [n1,n2,or_false,if_false]
   rw [h4]
   by_cases hb : zCi (c :: r) < 18446744073709551616
   ·rw [if_pos hb]
    simp only [not_false_eq_true,true_and,false_and,if_false]
    by_cases hl : 9223372036854775808 ≤ zCi (c :: r)
    ·rw [if_pos hl,if_neg (fun h=>by have:=h.2; omega)]
    ·rw [if_neg hl,if_pos ⟨by omega,by omega⟩]
   ·rw [if_neg hb,if_neg (fun h=>by have:=h.2; omega)]
end Go.AM
set_option maxRecDepth 100000
namespace Go.Proofs
open Go.Shelf Go.RowKit Go.AM
theorem Tryz.atoi_number : Tryz.ownAtoi_ren.f 172 = zAw:=by kernel_rfl
section
variable {m : Int} {ev : Value}
theorem range_at {w : World} {M : AMap} {I : Nat → Prop} {H : Heap} (hS : Sim (gtQ m ev) w M I H) : w.cell? ⟨8,0,none⟩ = some ev:=by
 have h0:=hS.glob 8 (.raw ev) rfl
 cases h0 with
 | lref _ _ _ _ V hI hx hvv hr=>
  have h1:=hvv 0 (.raw ev) rfl
  have h2:=hr 0 (.raw ev) rfl
  rw [h1,rel_raw' h2]
theorem str_size (s : Bs) : (⟨s.toArray⟩ : ByteArray).size = s.length:=by simp [ByteArray.size]
theorem str_list (s : Bs) : (⟨s.toArray⟩ : ByteArray).data.toList = s:=rfl
theorem atoi_ok (s : Bs) (H : Heap) (hf : zC5 s) (hi : zDC (zKX s)) (hl : s.length ≤ 1000) : Go.AM.Good Tryz.prog (gtQ m ev) zAw [.str s] H (.tup [zI (zKX s),.nili]) H:=
 zI7 Tryz.func170 (by kernel_rfl) (by kernel_rfl) fun w M I cargs hS hA=>by
  obtain ⟨v,rfl,hv⟩:=relL_one hA
  obtain rfl:=rel_str' hv
  have ha : Lib.atoiAll (⟨s.toArray⟩ : ByteArray).data.toList = .ok (zKX s):=by rw [str_list,atoi_form hf,if_pos hi]
  have h:=Any.strconv_Atoi_ok Tryz.ownAtoi ⟨s.toArray⟩ (by rw [str_size]; omega) _ ha w
  rw [Tryz.atoi_number] at h
  refine h.mono ?_
  rintro e w' ⟨he,hw⟩
  refine ⟨_,he, ?_, ?_⟩
  ·rcases hw with rfl | ⟨t,rfl⟩
   ·exact RowKit.Below.refl _ _
   ·exact Lib.bytesWorld_below _ _ _
  ·refine .tup _ [_,_] rfl fun i c v h1 h2=>?_
   match i,h1,h2 with
   | 0,h1,h2=>
    cases h1; cases h2; exact .int _ _
   | 1,h1,h2=>
    cases h1; cases h2; exact .nili
   | i + 2,h1,h2=>simp at h1
theorem atoi_bad (hev : ∃ te pe,ev = .iface te pe) (s : Bs) (H : Heap) (hf : zC5 s) (hi : ¬ zDC (zKX s)) (hl : s.length ≤ 1000) : ∃ n t,Go.AM.Good Tryz.prog (gtQ m ev) zAw [.str s] H (.tup [zI n,.iface t .undef]) H:=
 ⟨Lib.atoiSat s,Tryz.ownAtoi_ren.t 168,zI7 Tryz.func170 (by kernel_rfl) (by kernel_rfl) fun w M I cargs hS hA=>by
  obtain ⟨v,rfl,hv⟩:=relL_one hA
  obtain rfl:=rel_str' hv
  have ha : Lib.atoiAll (⟨s.toArray⟩ : ByteArray).data.toList = .range:=by rw [str_list,atoi_form hf,if_neg hi]
  have h:=Any.strconv_Atoi_range Tryz.ownAtoi ⟨s.toArray⟩ (by rw [str_size]; omega) ha ev w (range_at hS) (.inr hev)
  rw [Tryz.atoi_number] at h
  refine h.mono ?_
  rintro e w' ⟨N,he,_,_,hB⟩
  refine ⟨_,he,hB, ?_⟩
  refine .tup _ [_,_] rfl fun i c v h1 h2=>?_
  match i,h1,h2 with
  | 0,h1,h2=>
   cases h1; cases h2; exact .int _ _
  | 1,h1,h2=>
   cases h1; cases h2; exact .iface _ _ _ (.undef _)
  | i + 2,h1,h2=>simp at h1⟩
end
end Go.Proofs
set_option maxRecDepth 20000
namespace Go.AM
open Go Go.RowKit
section
variable {H : Type} {enc : TypeId × Value → H} {P : Program} {w : World} {held : Bool}
theorem laid_str {fuel : Nat} {t : TypeId} {cs : List Value} {l : List UInt8} {ps : List MemPlace} (hu : P.underlying t = some .string) (h : DataW.trod enc P w 0 (fun _=>true) held fuel t cs = some (.lit (.string l),ps)) : ∃ s : ByteArray,cs = [.string s] ∧ s.data.toList = l:=by
 cases fuel with
 | zero=>simp [DataW.trod] at h
 | succ fuel=>
  rcases cs with _ | ⟨c,_ | ⟨c',cs⟩⟩
  ·simp [DataW.trod,hu] at h
  ·cases c <;> simp [DataW.trod,hu] at h
   rename_i s
   exact ⟨s,rfl,h.2.1⟩
  ·simp [DataW.trod,hu] at h
theorem laid_arr {fuel n : Nat} {t e : TypeId} {cs : List Value} {ds : List (DataW H)} {ps : List MemPlace} (hu : P.underlying t = some (.array n e)) (hc : P.cellsOf e = 1) (hn : P.cellsOf t = n) (h : DataW.trod enc P w 0 (fun _=>true) held fuel t cs = some (.agg ds,ps)) :
  cs.length = n ∧ ds.length = n ∧ ∃ fuel',∀ (i : Nat) (c : Value) (d : DataW H),cs[i]? = some c → ds[i]? = some d → ∃ p,DataW.trod enc P w 0 (fun _=>true) held fuel' e [c] = some (d,p):=by
 cases fuel with
 | zero=>simp [DataW.trod] at h
 | succ fuel=>
  simp only [DataW.trod,hu] at h
  split at h
  case isFalse=>cases h
  rename_i hl
  rw [hn] at hl
  obtain ⟨r,hr,he⟩:=Option.map_eq_some_iff.1 h
  simp only [Prod.mk.injEq,DataW.agg.injEq] at he
  obtain ⟨rfl,_⟩:=he
  obtain ⟨l1,l2⟩:=zFd hr
  rw [List.length_range] at l1
  refine ⟨hl,by rw [List.length_map,l1],fuel,fun i c d h1 h2=>?_⟩
  have hi : i < n:=by rw [← hl]; exact (zg h1).1
  obtain ⟨y,e1,e2⟩:=l2 i i (by rw [List.getElem?_range hi])
  rw [List.getElem?_map,e1] at h2
  obtain rfl:=Option.some.inj h2
  rw [hc,Nat.mul_one] at e2
  have e3 : (cs.drop i).take 1 = [c]:=by
   have hlt:=(zg h1).1
   rw [List.drop_eq_getElem_cons hlt,(zg h1).2]
   rfl
  rw [e3] at e2
  exact ⟨_,e2⟩
theorem laid_strs {fuel : Nat} {t e : TypeId} {c : Value} {ls : List (List UInt8)} {rest : List (DataW H)} {ps : List MemPlace} (hu : P.underlying t = some (.slice e)) (hs : P.underlying e = some .string) (hc : P.cellsOf e = 1)
  (h : DataW.trod enc P w 0 (fun _=>true) held fuel t [c] = some (.slice (ls.map fun l=>.lit (.string l)) rest,ps)) (hne : ls ≠ []) : Rel w (fun _=>none) (zEr w) 0 (.lst (some false) 1 (ls.map AV.str)) c:=by
 cases fuel with
 | zero=>simp [DataW.trod] at h
 | succ fuel=>
  cases c
  case slice a len cap=>
   cases a with
   | none=>cases len <;> cases cap <;> simp [DataW.trod,hu] at h
   | some a=>
    simp only [DataW.trod,hu] at h
    split at h
    case isFalse=>cases h
    rename_i hb
    obtain ⟨elems,h1,h⟩:=Option.bind_eq_some_iff.1 h
    obtain ⟨rs,h2,he⟩:=Option.map_eq_some_iff.1 h
    simp only [Prod.mk.injEq,DataW.slice.injEq] at he
    obtain ⟨⟨he,_⟩,_⟩:=he
    obtain ⟨l1,l2⟩:=zFd h1
    rw [List.length_range] at l1
    have hll : ls.length = len:=by
     have:=congrArg List.length he
     rw [List.length_map,List.length_map] at this
     omega
    have cell : ∀ (i : Nat) (l : List UInt8),ls[i]? = some l → ∃ s : ByteArray,w.cell? (a.add i) = some (.string s) ∧ s.data.toList = l:=by
     intro i l hl
     have hi : i < len:=by rw [← hll]; exact (zg hl).1
     obtain ⟨y,e1,e2⟩:=l2 i i (by rw [List.getElem?_range hi])
     obtain ⟨ci,e3,e4⟩:=Option.bind_eq_some_iff.1 e2
     obtain ⟨e5,e6⟩:=cells_spec e3
     have hy : y.1 = .lit (.string l):=by
      have h3:=congrArg (fun x : List (DataW H)=>x[i]?) he
      simp only [List.getElem?_map,e1,hl,Option.map_some,Option.some.injEq] at h3
      exact h3
     have e4 : DataW.trod enc P w 0 (fun _=>true) held fuel e ci = some (.lit (.string l),y.2):=by rw [← hy]; exact e4
     obtain ⟨s,rfl,hsl⟩:=laid_str hs e4
     have h6:=e6 0 (.string s) rfl
     rw [hc,Nat.mul_one] at h6
     refine ⟨s, ?_,hsl⟩
     have : (a.add i).add 0 = a.add i:=by
      cases a; simp [Addr.add]
     rw [this] at h6
     exact h6
    have h0 : 0 < ls.length:=List.length_pos_iff.2 hne
    obtain ⟨s0,hs0,_⟩:=cell 0 _ (List.getElem?_eq_getElem h0)
    have hs0 : w.cell? a = some (.string s0):=by simpa [Addr.add] using hs0
    obtain ⟨g1,g2⟩:=zJd hs0
    obtain ⟨ab,ao,asp⟩:=a
    simp only at g1 g2
    subst g2
    have hlm : (ls.map AV.str).length = len:=by rw [List.length_map,hll]
    rw [← hlm]
    refine Rel.mk_lst (by simp) tO hb.2.2 g1 (fun x hx=>?_) (fun i j x c hi hj=>?_)
    ·obtain ⟨l,_,rfl⟩:=List.mem_map.1 hx
     exact rfl
    ·rw [List.getElem?_map] at hi
     obtain ⟨l,hl,rfl⟩:=Option.map_eq_some_iff.1 hi
     cases j with
     | zero=>
      have : c = .str l:=by simpa [AV.cells] using hj.symm
      subst this
      obtain ⟨s,e1,e2⟩:=cell i l hl
      refine ⟨.string s, ?_, ?_⟩
      ·simp only [Addr.add_lit] at e1
       simpa using e1
      ·rw [← e2]; exact rel_str _ _ _ _ s
     | succ j=>simp [AV.cells] at hj
  all_goals (simp [DataW.trod,hu] at h)
theorem laid_iface {fuel : Nat} {t : TypeId} {ms : Array (String × TypeId)} {cs : List Value} {nm : String} {d : DataW H} {ps : List MemPlace} (hu : P.underlying t = some (.interface ms)) (h : DataW.trod enc P w 0 (fun _=>true) held fuel t cs = some (.iface nm d,ps)) : ∃ u v,cs = [.iface u v]:=by
 cases fuel with
 | zero=>simp [DataW.trod] at h
 | succ fuel=>
  rcases cs with _ | ⟨c,_ | ⟨c',cs⟩⟩
  ·simp [DataW.trod,hu] at h
  ·cases c <;> simp [DataW.trod,hu] at h
   exact ⟨_,_,rfl⟩
  ·simp [DataW.trod,hu] at h
theorem glob_strs {fuel n g : Nat} {t e : TypeId} {cs : Array Value} {ls : List (List UInt8)} {ps : List MemPlace} (hcell : ∀ j : Nat,w.cell? ⟨g,j,none⟩ = cs[j]?) (hu : P.underlying t = some (.array n e)) (hs : P.underlying e = some .string) (hc : P.cellsOf e = 1) (hn : P.cellsOf t = n) (h0 : 0 < n)
  (h : DataW.trod enc P w 0 (fun _=>true) held fuel t cs.toList = some (.agg (ls.map fun l=>.lit (.string l)),ps)) : Rel w (fun _=>none) (zEr w) 0 (.lref (.agg (ls.map AV.str)) 0) (.pointer (some ⟨g,0,none⟩)) ∧ cs.size = ls.length:=by
 obtain ⟨h1,h2,fuel',h3⟩:=laid_arr hu hc hn h
 rw [List.length_map] at h2
 have h1' : cs.size = n:=by simpa using h1
 have hat : ∀ (j : Nat) (l : List UInt8),ls[j]? = some l → ∃ s : ByteArray,w.cell? ⟨g,j,none⟩ = some (.string s) ∧ s.data.toList = l:=fun j l hl=>by
  have hj : j < cs.size:=by rw [h1',← h2]; exact (zg hl).1
  obtain ⟨p,hp⟩:=h3 j cs[j] (.lit (.string l)) (by simp [hj]) (by rw [List.getElem?_map,hl]; rfl)
  obtain ⟨s,e1,e2⟩:=laid_str hs hp
  refine ⟨s, ?_,e2⟩
  rw [hcell j,Array.getElem?_eq_getElem hj]
  simpa using e1
 refine ⟨?_,by omega⟩
 obtain ⟨l0,hl0⟩ : ∃ l,ls[0]? = some l:=⟨_,List.getElem?_eq_getElem tO⟩
 obtain ⟨s0,hs0,_⟩:=hat 0 l0 hl0
 refine Rel.mk_lref (zJd hs0).1 ?_ fun j c hj=>?_
 ·show (AV.agg (ls.map AV.str)).bel 0 = true
  simp only [AV.bel,AV.belL_iff]
  intro x hx
  obtain ⟨l,_,rfl⟩:=List.mem_map.1 hx
  rfl
 ·rw [Nat.zero_add] at hj ⊢
  have hj : (ls.map AV.str)[j]? = some c:=hj
  rw [List.getElem?_map] at hj
  obtain ⟨l,hl,rfl⟩:=Option.map_eq_some_iff.1 hj
  obtain ⟨s,e1,e2⟩:=hat j l hl
  exact ⟨_,e1,by rw [← e2]; exact rel_str _ _ _ _ s⟩
theorem glob_strss {fuel n g : Nat} {t u e : TypeId} {cs : Array Value} {lss : List (List (List UInt8))} {ps : List MemPlace} (hcell : ∀ j : Nat,w.cell? ⟨g,j,none⟩ = cs[j]?) (hu : P.underlying t = some (.array n u)) (hu2 : P.underlying u = some (.slice e)) (hs : P.underlying e = some .string) (hc2 : P.cellsOf u = 1) (hc : P.cellsOf e = 1) (hn : P.cellsOf t = n) (h0 : 0 < n)
  (hne : ∀ ls ∈ lss,ls ≠ []) (h : DataW.trod enc P w 0 (fun _=>true) held fuel t cs.toList = some (.agg (lss.map fun ls=>.slice (ls.map fun l=>.lit (.string l)) []),ps)) : Rel w (fun _=>none) (zEr w) 0 (.lref (.agg (lss.map fun ls=>.lst (some false) 1 (ls.map AV.str))) 0) (.pointer (some ⟨g,0,none⟩)) ∧ cs.size = lss.length:=by
 obtain ⟨h1,h2,fuel',h3⟩:=laid_arr hu hc2 hn h
 rw [List.length_map] at h2
 have h1' : cs.size = n:=by simpa using h1
 have hat : ∀ (j : Nat) (ls : List (List UInt8)),lss[j]? = some ls → ∃ v : Value,w.cell? ⟨g,j,none⟩ = some v ∧ Rel w (fun _=>none) (zEr w) 0 (.lst (some false) 1 (ls.map AV.str)) v:=fun j ls hl=>by
  have hj : j < cs.size:=by rw [h1',← h2]; exact (zg hl).1
  obtain ⟨p,hp⟩:=h3 j cs[j] (.slice (ls.map fun l=>.lit (.string l)) []) (by simp [hj]) (by rw [List.getElem?_map,hl]; rfl)
  exact ⟨cs[j],by rw [hcell j,Array.getElem?_eq_getElem hj],laid_strs hu2 hs hc hp (hne ls (List.mem_of_getElem? hl))⟩
 refine ⟨?_,by omega⟩
 obtain ⟨l0,hl0⟩ : ∃ l,lss[0]? = some l:=⟨_,List.getElem?_eq_getElem tO⟩
 obtain ⟨s0,hs0,_⟩:=hat 0 l0 hl0
 refine Rel.mk_lref (zJd hs0).1 ?_ fun j c hj=>?_
 ·show (AV.agg (lss.map fun ls=>.lst (some false) 1 (ls.map AV.str))).bel 0 = true
  simp only [AV.bel,AV.belL_iff]
  intro x hx
  obtain ⟨l,_,rfl⟩:=List.mem_map.1 hx
  rfl
 ·rw [Nat.zero_add] at hj ⊢
  have hj : (lss.map fun ls=>AV.lst (some false) 1 (ls.map AV.str))[j]? = some c:=hj
  rw [List.getElem?_map] at hj
  obtain ⟨l,hl,rfl⟩:=Option.map_eq_some_iff.1 hj
  exact hat j l hl
end
end Go.AM
