/- Several texts of mine in one (Bu2, Bu1, Bu4, Bu5, Rt1). Own work. -/
import Derived.Test.YtkeblfepjkdleaaGreatDoorGAm30Fp1
import Derived.Test.YtkeblfepjkdleaaGreatDoorGFp2Fr3
import Derived.Test.YtkeblfepjkdleaaGreatDoorGSf0Rt0
import Derived.Test.YtkeblfepjkdleaaGreatDoorGRffRfi
import Derived.Test.YtkeblfepjkdleaaGreatDoorAc
import Derived.Test.YtkeblfepjkdleaaGreatDoorGRf5Rf3
set_option maxRecDepth 20000
set_option linter.all false
namespace Go.AM
section
variable {C:CSpec} {GT:zG_}
def zEl (n:Nd):Nat:=if n.kind=8 then tight n.num.toNat else 5
theorem zcH (n:Nd):(zEl n<5)=(zf n<9):=by
 unfold zEl zf;split
 ·have:=zD2 n.num.toNat;exact propext ⟨fun _=>by omega,fun _=>by omega⟩
 ·exact propext ⟨fun h=>by omega,fun h=>by omega⟩
theorem zia (n:Int) (H:Heap):EFun C GT zPu [zH n] H (v3 1 n) H:=by
 refine zJ<|sX ?_;refine sSA (.agg [.int .i64 1,zH n,.str []]) ?_
 exact zAa (o:=0) rfl rfl (zI hP) rfl rfl rfl hO
theorem zcI (n:Nd) (h:n.kind=8->1<=n.num/\n.num<=11) (H:Heap):EFun C GT zJz [ndV n] H (zH (zEl n)) H:=by
 have hb:=@zB H (.box (ndV n).cells);refine zJ ?_;unfold zEl;by_cases h8:n.kind=8
 ·obtain ⟨h1,h2⟩:=h h8;obtain ⟨k,hk⟩:∃ k:Nat,n.num=k:=⟨n.num.toNat,by omega⟩;rw [zlF h8,hk,zlo];unfold tight;by_cases h3:n.num<=6
  ·rw [zlF tO];refine sX ?_;refine zi (zle.2 h8)<|zA (.int IntKind.i64 n.num) zB rfl<|zn (zlY h3) ?_
   exact sRv
  ·rw [zlD tO];by_cases h4:n.num=7
   ·rw [zlF tO];refine sX ?_;refine zi (zle.2 h8)<|zA (.int IntKind.i64 n.num) zB rfl<|zi (zlf h3)<|zA (.int IntKind.i64 n.num) zB rfl<|zn (tE h4) ?_
    exact sRv
   ·rw [zlD tO];by_cases h5:n.num<=9
    ·rw [zlF tO];refine sX ?_;refine zi (zle.2 h8)<|zA (.int IntKind.i64 n.num) zB rfl<|zi (zlf h3)<|zA (.int IntKind.i64 n.num) zB rfl<|zi (tN h4)<|zA (.int IntKind.i64 n.num) zB rfl<|zn (zlY h5) ?_
     exact sRv
    ·rw [zlD tO];refine sX ?_;refine zi (zle.2 h8)<|zA (.int IntKind.i64 n.num) zB rfl<|zi (zlf h3)<|zA (.int IntKind.i64 n.num) zB rfl<|zi (tN h4)<|zA (.int IntKind.i64 n.num) zB rfl<|zi (zlf h5) ?_
     exact sRv
 ·rw [zlD h8];refine sX ?_;refine zn (zlz.2 h8) ?_;exact sRv
theorem zfV (k:Nat) (h:1<=k/\k<=11):part [.str [],.str [61],.str [60,62],.str [60],.str [60,61],.str [62],.str [62,61],.str [38],.str [43],.str [45],.str [42],.str [47]] ((k:Int).toNat*1) 1 false=some (.str (opT k)):=by
 obtain ⟨h1,h2⟩:=h;rw [zlo,znY];have:k=1\/k=2\/k=3\/k=4\/k=5\/k=6\/k=7\/k=8\/k=9\/k=10\/k=11:=by omega
 rcases this with rfl|rfl|rfl|rfl|rfl|rfl|rfl|rfl|rfl|rfl|rfl <;> rfl
theorem zcJ:zD6 [.str [],.str [],.str [],.str [],.str [],.str [],.str [],.str [],.str [],.str [],.str [],.str []] [(0,1),(1,1),(2,1),(3,1),(4,1),(5,1),(6,1),(7,1),(8,1),(9,1),(10,1),(11,1)] [.str [],.str [61],.str [60,62],.str [60],.str [60,61],.str [62],.str [62,61],.str [38],.str [43],.str [45],.str [42],.str [47]]=some [.str [],.str [61],.str [60,62],.str [60],.str [60,61],.str [62],.str [62,61],.str [38],.str [43],.str [45],.str [42],.str [47]]:=by
 simp [zD6,splice,AV.cells,AV.one]
theorem zcK (k:Nat) (h:1<=k/\k<=11) (H:Heap):EFun C GT zJE [zK k] H (.str (opT k)) H:=by
 refine zJ<|zx zcJ<|zBF (And.intro tO tO)<|zx (zfV k h) ?_
 exact sRv
theorem zfW (hI:∀ n:Nat,n<=9223372036854775807->∀ H,C zDQ [zK n] H (.str (zGC n)) H) (n:Nat) (hn:n<=9223372036854775807) (H:Heap):EFun C GT zG5 [v3 1 n] H (.str (zGC n)) H:=by
 have hi:=hI n hn;clear hI;refine zJ<|sX ?_
 exact sRv
theorem zfX (b:Bool) (H:Heap):EFun C GT zG5 [v3 3 (if b=true then 1 else 0)] H (.str (if b then zGA else zDc)) H:=by
 refine zJ ?_;cases b
 ·refine sX ?_;exact sRv
 ·refine sX ?_;exact sRv
theorem zZJ (k:Nat) (h:1<=k/\k<=6):part [.str [],.str [35,68,73,86,33],.str [35,86,65,76,85,69,33],.str [35,82,69,70,33],.str [35,78,65,77,69,33],.str [35,78,85,77,33],.str [35,78,79,78,69,33]] (0+(k:Int).toNat*1) 1 false=some (.str (wrongs.getD (k-1) [])):=by
 obtain ⟨h1,h2⟩:=h;rw [zlo,znY,zlx];have:k=1\/k=2\/k=3\/k=4\/k=5\/k=6:=by omega
 rcases this with rfl|rfl|rfl|rfl|rfl|rfl <;> rfl
theorem zZK:∀ n:Nat,(zGC n).length<=n+1:=by
 intro n;unfold zGC;split
 ·simp
 ·rw [zmx];have:∀ n:Nat,(zUt n).length<=n:=fun n=>by
   induction n using Nat.strongRecOn with
   |ind n ih=>
    by_cases h:n=0
    ·subst h;rw [zKF];simp
    ·rw [zI1 h,zlE];have:=ih (n/10) tO;omega
  have:=this n;omega
theorem zib (k:Nat) (h:k<26):(Utf8.encode ((65+k:Nat):Int)).data.toList=[UInt8.ofNat (65+k)]:=by
 have hv:Utf8.valid ((65+k:Nat):Int)=true:=by
  simp [Utf8.valid];omega
 unfold Utf8.encode;simp only [hv,zlp,zlo];rw [zlF tO]
theorem zZL (hI:∀ n:Nat,n<=9223372036854775807->∀ H,C zDQ [zK n] H (.str (zGC n)) H) (hO:∀ c r H,C zGM [zCx c r] H (.bool (okC c r)) H) (r:RefP) (h:okR r) (H:Heap):EFun C GT zKy [rV r] H (.tup [.str (zEA r),.nili]) H:=by
 obtain ⟨c,r,fc,fr⟩:=r;obtain ⟨h1,h2,h3,h4⟩:=h;obtain ⟨k,rfl⟩:∃ k:Nat,c=((k+1:Nat):Int):=⟨c.toNat-1,by simp at h1;omega⟩;obtain ⟨m,rfl⟩:∃ m:Nat,r=(m:Int):=⟨r.toNat,by simp at h3;omega⟩;simp only at h1 h2 h3 h4;have hi:=hI m tO;have ho:∀ H,C zGM [zCx ((k+1:Nat):Int) m] H (.bool true) H:=fun H=>by
  have:=hO ((k+1:Nat):Int) m H
  rwa [show okC ((k+1:Nat):Int) m=true from by simp [okC];omega] at this
 have w1:IntKind.i64.wrap (65+((k+1:Nat):Int))=((66+k:Nat):Int):=by rw [IntKind.wrap_i64];omega
 have w2:IntKind.i64.wrap (((66+k:Nat):Int)-1)=((65+k:Nat):Int):=by rw [IntKind.wrap_i64];omega
 have w3:IntKind.i32.wrap ((65+k:Nat):Int)=((65+k:Nat):Int):=by rw [IntKind.wrap_i32];omega
 have he:=zib k tO;have hd:(zGC m).length<=100:=by have:=zZK m;omega
 clear hI hO;refine zJ ?_;have hn:(Utf8.encode ((65+k:Nat):Int)).data.toList.length=1:=by rw [he];rfl
 have e:zEA ⟨((k+1:Nat):Int),m,fc,fr⟩=(match fr with|true=>((match fc with|true=>[36]|false=>[])++(Utf8.encode ((65+k:Nat):Int)).data.toList)++[36]|false=>(match fc with|true=>[36]|false=>[])++(Utf8.encode ((65+k:Nat):Int)).data.toList)++zGC m:=by
  unfold zEA;simp only [zlo];rw [he,show 64+(k+1)=65+k by omega];cases fc <;> cases fr <;> rfl
 clear he;rw [e];cases fc with
 |false=>
  cases fr with
  |false=>
   refine zCR (x:=rV ⟨((k+1:Nat):Int),m,false,false⟩) rfl<|zA _ zB rfl<|zM (ho _)<|zG<|zA _ zB rfl<|zG<|zA _ zB rfl<|zDh w1<|zDh w2<|zDh w3<|zBF (by simp only [zlH,zlE,zlL,hn];omega)<|zA _ zB rfl<|zG<|zA _ zB rfl<|zM (hi _)<|zBF (by simp only [zlH,zlE,zlL,hn];omega) ?_
   exact zAv rfl rfl rfl rfl ((Old.refl _).push _)
  |true=>
   refine zCR (x:=rV ⟨((k+1:Nat):Int),m,false,true⟩) rfl<|zA _ zB rfl<|zM (ho _)<|zG<|zA _ zB rfl<|zG<|zA _ zB rfl<|zDh w1<|zDh w2<|zDh w3<|zBF (by simp only [zlH,zlE,zlL,hn];omega)<|zA _ zB rfl<|zE<|zBF (by simp only [zlH,zlE,zlL,hn];omega)<|zA _ zB rfl<|zM (hi _)<|zBF (by simp only [zlH,zlE,zlL,hn];omega) ?_
   exact zAv rfl rfl rfl rfl ((Old.refl _).push _)
 |true=>
  cases fr with
  |false=>
   refine zCR (x:=rV ⟨((k+1:Nat):Int),m,true,false⟩) rfl<|zA _ zB rfl<|zM (ho _)<|zG<|zA _ zB rfl<|zE<|zA _ zB rfl<|zDh w1<|zDh w2<|zDh w3<|zBF (by simp only [zlH,zlE,zlL,hn];omega)<|zA _ zB rfl<|zG<|zA _ zB rfl<|zM (hi _)<|zBF (by simp only [zlH,zlE,zlL,hn];omega) ?_
   exact zAv rfl rfl rfl rfl ((Old.refl _).push _)
  |true=>
   refine zCR (x:=rV ⟨((k+1:Nat):Int),m,true,true⟩) rfl<|zA _ zB rfl<|zM (ho _)<|zG<|zA _ zB rfl<|zE<|zA _ zB rfl<|zDh w1<|zDh w2<|zDh w3<|zBF (by simp only [zlH,zlE,zlL,hn];omega)<|zA _ zB rfl<|zE<|zBF (by simp only [zlH,zlE,zlL,hn];omega)<|zA _ zB rfl<|zM (hi _)<|zBF (by simp only [zlH,zlE,zlL,hn];omega) ?_
   exact zAv rfl rfl rfl rfl ((Old.refl _).push _)
theorem zfY (hG:GT zEv=some zQN) (k:Nat) (h:1<=k/\k<=6) (H:Heap):EFun C GT zG5 [v3 4 k] H (.str (wrongs.getD (k-1) [])) H:=by
 refine zJ<|zCR (x:=v3 4 k) rfl<|zA (.int IntKind.i64 4) zB rfl<|zG<|zG<|zG<|zn (tT)<|zA (.int IntKind.i64 ↑k) zB rfl<|zn (tT)<|zA (.int IntKind.i64 ↑k) zB rfl<|zE<|zn (tT)<|sX ?_;refine zBF (And.intro tO tO)<|zhb hG<|zA9 (.str (wrongs.getD (k-1) [])) (zZJ k h) ?_
 exact sRv
end
def zTI (H0 H:Heap) (v:AV) (u:Bs):Prop:=(v=.lst (some true) 0 []/\u=[])\/∃ d,v=.sl (some true) d 1 0 u.length/\H0.length<=d/\H[d]?=some (.row 1 (u.map zo))/\H[d+1]?=some (.ty d zD7)/\u≠[]
def BAt (H0 H:Heap) (b:Nat) (u:Bs):Prop:=H0.length<=b/\H[b+1]?=some (.shp b zAC 2)/\∃ a v,H[b]?=some (.box [a,v])/\zTI H0 H v u/\(a=.ref b 0 0 0\/a=.nilp)
def BFz (H0 H:Heap) (b:Nat) (u:Bs):Prop:=H0.length<=b/\H[b+1]?=some (.shp b zAC 2)/\∃ (a:AV) (d h:Nat),H[b]?=some (.box [a,.sl (some true) d 1 0 u.length])/\H[d]?=some (.frz 1 (u.map zo))/\H[h]?=some (.hd d zD7 u.length)/\u≠[]
def KpB (b:Nat) (H H':Heap):Prop:=H.length<=H'.length/\∀ c x,c≠b->(∀ xs,x≠.row 1 xs)->H[c]?=some x->H'[c]?=some x
def BTo (H0 H H':Heap) (b:Nat) (u:Bs):Prop:=BAt H0 H' b u/\Old H0 H'/\KpB b H H'
theorem KpB.refl (b:Nat) (H:Heap):KpB b H H:=⟨zlK _,fun _ _ _ _ h=>h⟩
theorem KpB.trans {b:Nat} {H H1 H2:Heap} (h:KpB b H H1) (k:KpB b H1 H2):KpB b H H2:=⟨zmR h.1 k.1,fun c x hc hx h'=>k.2 c x hc hx (h.2 c x hc hx h')⟩
theorem KpB.push {b:Nat} {H H1:Heap} (h:KpB b H H1) (x:ABlk):KpB b H (H1++[x]):=⟨by rw [zlH];have:=h.1;omega,fun c y hc hy h'=>zD (h.2 c y hc hy h')⟩
theorem KpB.setB {b:Nat} {H H1:Heap} (h:KpB b H H1) (y:ABlk):KpB b H (H1.set b y):=⟨by rw [zlP];exact h.1,fun d x hd hx h'=>zC (fun e=>hd e.symm) (h.2 d x hd hx h')⟩
theorem BTo.trans {H0 H H1 H2:Heap} {b:Nat} {u u':Bs} (h:BTo H0 H H1 b u) (k:BTo H0 H1 H2 b u'):BTo H0 H H2 b u':=⟨k.1,k.2.1,h.2.2.trans k.2.2⟩
theorem zTI.keep {H0 H H':Heap} {v:AV} {u:Bs} (h:zTI H0 H v u) (k:∀ (c:Nat) (x:ABlk),(x=ABlk.row 1 (u.map zo)\/∃ d,x=ABlk.ty d zD7)->H[c]?=some x->H'[c]?=some x):zTI H0 H' v u:=by
 rcases h with h|⟨d,h1,h2,h3,h4,h5⟩
 ·exact .inl h
 ·exact .inr ⟨d,h1,h2,k _ _ (.inl rfl) h3,k _ _ (.inr ⟨d,rfl⟩) h4,h5⟩
theorem zTI.push {H0 H:Heap} {v:AV} {u:Bs} (h:zTI H0 H v u) (x:ABlk):zTI H0 (H++[x]) v u:=h.keep fun _ _ _ h=>zD h
theorem zTI.setBox {H0 H:Heap} {v:AV} {u:Bs} (h:zTI H0 H v u) {c:Nat} {cs:List AV} (hc:H[c]?=some (.box cs)) (x:ABlk):zTI H0 (H.set c x) v u:=h.keep fun e y hy h=>zC (fun he=>by
 rw [he,h] at hc;rcases hy with rfl|⟨d,rfl⟩ <;> cases hc) h
theorem zTI.one {H0 H:Heap} {v:AV} {u:Bs} (h:zTI H0 H v u):v.cells=[v]/\v.one=true:=by
 rcases h with ⟨rfl,_⟩|⟨d,rfl,_⟩ <;> exact ⟨rfl,rfl⟩
theorem zTI.row {H0 H:Heap} {v:AV} {u:Bs} (h:zTI H0 H v u) {b:Nat} (hb:v.blk=some b):∃ ys,H[b]?=some (.row 1 ys):=by
 rcases h with ⟨rfl,_⟩|⟨d,rfl,_,h,_⟩
 ·cases hb
 ·simp only [AV.blk,zlJ] at hb;subst hb;exact ⟨_,h⟩
theorem BAt.push {H0 H:Heap} {b:Nat} {u:Bs} (h:BAt H0 H b u) (x:ABlk):BAt H0 (H++[x]) b u:=by
 obtain ⟨h0,hs,a,v,hb,hw,ha⟩:=h;exact ⟨h0,zD hs,a,v,zD hb,hw.push _,ha⟩
theorem BFz.keep {H0 H H':Heap} {b:Nat} {u:Bs} (h:BFz H0 H b u) (hb:∀ x,H[b]?=some x->H'[b]?=some x) (k:∀ (c:Nat) (x:ABlk),(∀ cs,x≠ABlk.box cs)->H[c]?=some x->H'[c]?=some x):BFz H0 H' b u:=by
 obtain ⟨h0,hs,a,d,e,h1,h2,h3,h4⟩:=h;exact ⟨h0,k _ _ (fun _ e=>by cases e) hs,a,d,e,hb _ h1,k _ _ (fun _ e=>by cases e) h2,k _ _ (fun _ e=>by cases e) h3,h4⟩
section
variable {C:CSpec} {GT:zG_}
abbrev bR (b:Nat):AV:=.ref b 0 0 0
def zcL:AF:={ zCz with keep:=true }
def zcM:AF:={ zCa with keep:=true }
def appV (t:Nat) (s:Bool) (x:AV) (ys:List AV) (H:Heap):Option (AV×Heap):=match x with
 |.lst (some true) _ _=>if s=true/\ys.isEmpty=true then some (x,H) else if ys.isEmpty=false/\ys.length<=140737488355328 then some (.sl (some true) H.length 1 0 ys.length,H++[.row 1 ys]++[.ty H.length t]) else none
 |.sl q b k' off len=>if s=true/\ys.isEmpty=true then some (x,H) else match H[b]?,H[b+1]? with
  | some (.row k'' xs),some (.ty b' t')=>if ys.isEmpty=false/\k'=1/\k''=1/\b'=b/\t'=t/\off=0/\len<=xs.length/\len+ys.length<=140737488355328 then
    some (.sl q H.length 1 0 (len+ys.length),H.set b .dead++[.row 1 (xs.take len++ys)]++[.ty H.length t]) else none
  |_,_=>none
 |_=>none
def zcN (s:Bool) (y:AV) (H:Heap):Option (List AV):=match s with
 |true=>(match y with
  |.str z=>some (z.map zo)
  |_=>none)
 |false=>view H 1 y
theorem zUv (y:AV) (H:Heap):zcN false y H=view H 1 y:=rfl
theorem zKU {t:Nat} {s:Bool} {x y:AV} {H:Heap} {ys:List AV} (hy:zcN s y H=some ys):astep (.appT t s) [x,y] H=appV t s x ys H:=by
 cases s with
 |false=>
  have hy:view H 1 y=some ys:=hy;simp only [astep,zlO,zlj,hy];rfl
 |true=>
  cases y with
  |str z=>
   have hy:some (z.map zo)=some ys:=hy;cases hy;rfl
  |_=>cases hy
theorem zkg {H0 H:Heap} {v y:AV} {u t:Bs} {sb:Bool} {K:AV->Heap->Prop} (ho:zTI H0 H v u) (hH:Old H0 H) (hy:zcN sb y H=some (t.map zo)) (hl:u.length+t.length<=140737488355328) (ht:sb=true\/t≠[])
  (q:∀ v' H',zTI H0 H' v' (u++t)->Old H0 H'->H.length<=H'.length->(∀ c x,v.blk≠some c->H[c]?=some x->H'[c]?=some x)->K v' H'):actP (.appT zD7 sb) [v,y] H K:=by
 have hlt:(t.map zo).length=t.length:=zlM _;have hie:(t.map zo).isEmpty=t.isEmpty:=by cases t <;> rfl
 by_cases he:t=[]
 ·subst he;have hs:sb=true:=ht.resolve_right fun h=>h rfl;refine zQp (v:=v) (H':=H) ?_ (q v H (by simpa using ho) hH (zlK _) fun c y _ h=>h);rcases ho with ⟨rfl,rfl⟩|⟨d,rfl,_⟩
  ·rw [zKU hy];exact zlF ⟨hs,rfl⟩
  ·rw [zKU hy];exact zlF ⟨hs,rfl⟩
 have hne:t.isEmpty=false:=by simpa using he
 rcases ho with ⟨rfl,rfl⟩|⟨d,rfl,h1,h2,h3,h4⟩
 ·simp only [zlL,zlx] at hl;refine zQp (v:=.sl (some true) H.length 1 0 t.length) (H':=H++[.row 1 (t.map zo)]++[.ty H.length zD7]) ?_ ?_
  ·rw [zKU hy];simp only [appV,hie,hne,hlt];rw [zlD zS_,zlF ⟨trivial,hl⟩]
  ·refine q _ _ (.inr ⟨_,rfl,hH.1,zD zB, ?_,he⟩) ((hH.push _).push _) zS_ fun _ _ _ hx=>zD (zD hx);have:=@zB (H++[.row 1 (t.map zo)]) (.ty H.length zD7)
   rwa [zlH] at this
 ·refine zQp (v:=.sl (some true) H.length 1 0 (u.length+t.length)) (H':=H.set d .dead++[.row 1 (u.map zo++t.map zo)]++[.ty H.length zD7]) ?_ ?_
  ·rw [zKU hy];simp only [appV,hie,hne,hlt,h2,h3];rw [zlD zS_,zlF ⟨trivial,trivial,trivial,trivial,trivial,trivial,by simp,hl⟩];rw [zlw zS_]
  ·have hsl:(H.set d ABlk.dead).length=H.length:=zlP;refine q _ _ (.inr ⟨H.length,by rw [zlH],hH.1, ?_, ?_,by simp [he]⟩) (((hH.set h1 _).push _).push _) zS_ fun c x hc hx=>zD (zD (zC (fun e=>hc (by rw [e];rfl)) hx))
   ·rw [<-hsl,zlv];exact zD zB
   ·have:=@zB (H.set d .dead++[.row 1 (u.map zo++t.map zo)]) (.ty H.length zD7)
    rwa [zlH,hsl] at this
theorem zgt {F:AF} {H0 H H1 H':Heap} {fr:Fr} {b:Nat} {v v' r:AV} {u':Bs} (hs1:H1[b+1]?=some (.shp b zAC 2)) (hk1:KpB b H H1) (hb2:H'[b]?=some (.box [.ref b 0 0 0,v])) (ho':zTI H0 H' v' u') (hO':Old H0 H')
  (hf:∀ c x,c≠b->(∀ xs,x≠.row 1 xs)->H1[c]?=some x->H'[c]?=some x) (hl:H1.length<=H'.length) (h0:H0.length<=b) (hk:F.keep=true) (hr:(zBh fr (H'.set b (.box [.ref b 0 0 0,v'])) F.results).map tupled=some r) :
  retQ F H fr (H'.set b (.box [.ref b 0 0 0,v'])) (fun x H'=>x=r/\BTo H0 H H' b u'):=by
 have hbl:=(zl_ hb2);refine zNc (zMn hk hr) ⟨rfl,⟨h0,zC tO (hf _ _ tO (fun _ e=>by cases e) hs1),_,v',zli hbl,ho'.setBox hb2 _,.inl rfl⟩,hO'.set h0 _, ?_⟩;exact ⟨by rw [zlP];exact zmR hk1.1 hl,fun c x hc hx h=>zC (fun e=>hc e.symm) (hf c x hc hx (hk1.2 c x hc hx h))⟩
def CkB (C:CSpec):Prop:=∀ b a v H,H[b]?=some (.box [a,v])->H[b+1]?=some (.shp b zAC 2)->(a=.ref b 0 0 0\/a=.nilp)->C zAX [bR b] H (.tup []) (H.set b (.box [.ref b 0 0 0,v]))
theorem zfZ (hC:CkB C) (H0:Heap) (b:Nat) (u:Bs) (c:UInt8) (H:Heap) (hB:BAt H0 H b u) (hO:Old H0 H) (hl:u.length<=1000000):zE4 C GT zcL [bR b,zo c] H (fun v H'=>v=.nili/\BTo H0 H H' b (u++[c])):=by
 obtain ⟨h0,hs,a,v,hb,hw,ha⟩:=hB;have hbl:=(zl_ hb);have hc:=hC b a v H hb hs ha;obtain ⟨H1,e1⟩:∃ H1,H.set b (.box [.ref b 0 0 0,v])=H1:=⟨_,rfl⟩;have hb1:H1[b]?=some (.box [.ref b 0 0 0,v]):=by rw [<-e1];exact zli hbl
 have hs1:H1[b+1]?=some (.shp b zAC 2):=by rw [<-e1];exact zC tO hs
 have hw1:zTI H0 H1 v u:=by rw [<-e1];exact hw.setBox hb _
 have hO1:Old H0 H1:=by rw [<-e1];exact hO.set h0 _
 have hk1:KpB b H H1:=by rw [<-e1];exact (KpB.refl b H).setB _
 rw [e1] at hc;clear hC e1;unfold zE4;refine zCI hc (fun h=>nomatch h) ?_;refine zA v hb1 rfl ?_;refine zAb (vs':=[zo c]) rfl rfl ?_;refine zkg (t:=[c]) (H0:=H0) (hw1.push _) (hO1.push _) ((zUv _ _).trans zAu) (by simp;omega) (.inr zS_) fun v' H' ho' hO' hlt hf=>?_;have hnr:∀ {d:Nat} {x:ABlk},(∀ xs,x≠.row 1 xs)->H1[d]?=some x->v.blk≠some d:=fun hx h e=>by
  obtain ⟨ys,hy⟩:=hw1.row e;rw [h] at hy;exact hx _ (zlb hy)
 have hb2:=hf b _ (hnr (fun _ e=>by cases e) hb1) (zD hb1);rw [zlH] at hlt;refine zL (v:=v') [.ref b 0 0 0,v'] hb2 (zlR List.length ho'.one.1) ((zlR (fun l=>List.all l AV.one) ho'.one.1).trans (by simp [ho'.one.2])) rfl (zlR (splice [.ref b 0 0 0,v] 1) ho'.one.1) ?_;exact zgt hs1 hk1 hb2 ho' hO' (fun d x hd hx h=>hf d x (hnr hx h) (zD h)) (by simp at hlt;omega) h0 rfl rfl
theorem zfa (hC:CkB C) (H0:Heap) (b:Nat) (u t:Bs) (H:Heap) (hB:BAt H0 H b u) (hO:Old H0 H) (hl:u.length+t.length<=1000000):zE4 C GT zcM [bR b,.str t] H (fun v H'=>v=.tup [zK t.length,.nili]/\BTo H0 H H' b (u++t)):=by
 obtain ⟨h0,hs,a,v,hb,hw,ha⟩:=hB;have hbl:=(zl_ hb);have hc:=hC b a v H hb hs ha;obtain ⟨H1,e1⟩:∃ H1,H.set b (.box [.ref b 0 0 0,v])=H1:=⟨_,rfl⟩;have hb1:H1[b]?=some (.box [.ref b 0 0 0,v]):=by rw [<-e1];exact zli hbl
 have hs1:H1[b+1]?=some (.shp b zAC 2):=by rw [<-e1];exact zC tO hs
 have hw1:zTI H0 H1 v u:=by rw [<-e1];exact hw.setBox hb _
 have hO1:Old H0 H1:=by rw [<-e1];exact hO.set h0 _
 have hk1:KpB b H H1:=by rw [<-e1];exact (KpB.refl b H).setB _
 rw [e1] at hc;clear hC e1;unfold zE4;refine zCI hc (fun h=>nomatch h) ?_;refine zA v hb1 rfl ?_;refine zkg (t:=t) (H0:=H0) hw1 hO1 rfl tO (.inl rfl) fun v' H' ho' hO' hlt hf=>?_;have hnr:∀ {d:Nat} {x:ABlk},(∀ xs,x≠.row 1 xs)->H1[d]?=some x->v.blk≠some d:=fun hx h e=>by
  obtain ⟨ys,hy⟩:=hw1.row e;rw [h] at hy;exact hx _ (zlb hy)
 have hb2:=hf b _ (hnr (fun _ e=>by cases e) hb1) hb1;refine zL (v:=v') [.ref b 0 0 0,v'] hb2 (zlR List.length ho'.one.1) ((zlR (fun l=>List.all l AV.one) ho'.one.1).trans (by simp [ho'.one.2])) rfl (zlR (splice [.ref b 0 0 0,v] 1) ho'.one.1) ?_;exact zgt hs1 hk1 hb2 ho' hO' (fun d x hd hx h=>hf d x (hnr hx h) h) hlt h0 rfl rfl
end
def WbH (C:CSpec):Prop:=∀ H0 b u c H,BAt H0 H b u->Old H0 H->u.length<=1000000->∃ H',C zk [bR b,zo c] H .nili H'/\BTo H0 H H' b (u++[c])
def WtH (C:CSpec):Prop:=∀ H0 b u t H,BAt H0 H b u->Old H0 H->u.length+t.length<=1000000->∃ H',C za [bR b,.str t] H (.tup [zK t.length,.nili]) H'/\BTo H0 H H' b (u++t)
def zGd:AF:={ zJu with keep:=true }
def wrQ (H0 H:Heap) (b:Nat) (u:Bs):AV->Heap->Prop:=fun v H'=>v=.tup []/\BTo H0 H H' b u
theorem KpB.push0 (b:Nat) (H:Heap) (x:ABlk):KpB b H (H++[x]):=(KpB.refl b H).push x
section
variable {C:CSpec} {GT:zG_}
theorem zcO (hT:WtH C) (m:Nat) (hN:∀ H,C zIY [zK m] H (v3 1 m) H) (hS:∀ H,C zBp [v3 1 m] H (.str (zGC m)) H) (H0:Heap) (b:Nat) (u:Bs) (H:Heap) (hB:BAt H0 H b u) (hO:Old H0 H) (hl:u.length+(zGC m).length<=1000000) :
  zE4 C GT zGd [bR b,ndV (zKP m)] H (wrQ H0 H b (u++zGC m)):=by
 obtain ⟨H2,hw,h2⟩:=hT H0 b u (zGC m) _ (hB.push (.box (ndV (zKP m)).cells)) (hO.push _) hl;clear hT;unfold zE4;refine sX ?_;exact zNc (zMn rfl rfl) ⟨rfl,h2.1,h2.2.1,(KpB.push0 b H _).trans h2.2.2⟩
theorem zcP (hT:WtH C) (t:Bs) (hR:∀ H,C zBO [.str t,.str [34],.str [34,34]] H (.str (esc t)) H) (H0:Heap) (b:Nat) (u:Bs) (H:Heap) (hB:BAt H0 H b u) (hO:Old H0 H) (hl:u.length+((esc t).length+2)<=1000000) :
  zE4 C GT zGd [bR b,ndV (zHd t)] H (wrQ H0 H b (u++(34::esc t++[34]))):=by
 obtain ⟨H2,hw,h2⟩:=hT H0 b u (34::esc t++[34]) _ (hB.push (.box (ndV (zHd t)).cells)) (hO.push _) (by simp;omega);clear hT;unfold zE4;refine sX ?_;refine zBF (by simp;omega)<|zBF (by simp;omega)<|sX ?_
 exact zNc (zMn rfl rfl) ⟨rfl,h2.1,h2.2.1,(KpB.push0 b H _).trans h2.2.2⟩
theorem zcQ (hT:WtH C) (x:Bool) (hI:∀ H,C zCm [.bool x] H (v3 3 (if x=true then 1 else 0)) H) (hS:∀ H,C zBp [v3 3 (if x=true then 1 else 0)] H (.str (if x then zGA else zDc)) H) (H0:Heap) (b:Nat) (u:Bs) (H:Heap) (hB:BAt H0 H b u) (hO:Old H0 H) (hl:u.length+(if x then zGA else zDc:Bs).length<=1000000) :
  zE4 C GT zGd [bR b,ndV (zFC x)] H (wrQ H0 H b (u++(if x then zGA else zDc))):=by
 obtain ⟨H2,hw,h2⟩:=hT H0 b u (if x then zGA else zDc) _ (hB.push (.box (ndV (zFC x)).cells)) (hO.push _) hl;clear hT;unfold zE4;refine sX ?_;have e:((if x=true then (1:Int) else 0)==1)=x:=by cases x <;> rfl
 cases x with
 |true=>
  refine sX ?_;exact zNc (zMn rfl rfl) ⟨rfl,h2.1,h2.2.1,(KpB.push0 b H _).trans h2.2.2⟩
 |false=>
  refine sX ?_;exact zNc (zMn rfl rfl) ⟨rfl,h2.1,h2.2.1,(KpB.push0 b H _).trans h2.2.2⟩
theorem zcR (hT:WtH C) (k:Nat) (t:Bs) (hW:∀ H,C zCK [zK k] H (v3 4 k) H) (hS:∀ H,C zBp [v3 4 k] H (.str t) H) (H0:Heap) (b:Nat) (u:Bs) (H:Heap) (hB:BAt H0 H b u) (hO:Old H0 H) (hl:u.length+t.length<=1000000) :
  zE4 C GT zGd [bR b,ndV (zHg k)] H (wrQ H0 H b (u++t)):=by
 obtain ⟨H2,hw,h2⟩:=hT H0 b u t _ (hB.push (.box (ndV (zHg k)).cells)) (hO.push _) hl;clear hT;unfold zE4;refine sX ?_;exact zNc (zMn rfl rfl) ⟨rfl,h2.1,h2.2.1,(KpB.push0 b H _).trans h2.2.2⟩
theorem zcS (hT:WtH C) (r:RefP) (hN:∀ H,C zCT [rV r] H (.tup [.str (zEA r),.nili]) H) (H0:Heap) (b:Nat) (u:Bs) (H:Heap) (hB:BAt H0 H b u) (hO:Old H0 H) (hl:u.length+(zEA r).length<=1000000) (hb:b<H.length) :
  zE4 C GT zGd [bR b,ndV (zB3 r)] H (wrQ H0 H b (u++zEA r)):=by
 obtain ⟨H2,hw,h2⟩:=hT H0 b u (zEA r) _ (hB.push (.box (ndV (zB3 r)).cells)) (hO.push _) hl;have hn2:H2[H.length]?=some (.box (ndV (zB3 r)).cells):=h2.2.2.2 _ _ tO (by intro xs e;cases e) zB;clear hT;unfold zE4;refine sX ?_;exact zNc (zMn rfl rfl) ⟨rfl,h2.1,h2.2.1,(KpB.push0 b H _).trans h2.2.2⟩
end
def WrH (C:CSpec) (n:Nd):Prop:=∀ H0 b u H,BAt H0 H b u->Old H0 H->b<H.length->u.length+(txt n).length<=1000000->∃ H',C zCj [bR b,ndV n] H (.tup []) H'/\BTo H0 H H' b (u++txt n)
def BrH (C:CSpec) (n:Nd):Prop:=∀ x H0 b u H,BAt H0 H b u->Old H0 H->b<H.length->u.length+(brk x (txt n)).length<=1000000->∃ H',C zBf [bR b,ndV n,.bool x] H (.tup []) H'/\BTo H0 H H' b (u++brk x (txt n))
def zNk:AF:={ zG6 with keep:=true }
theorem BAt.lt {H0 H:Heap} {b:Nat} {u:Bs} (h:BAt H0 H b u):b<H.length:=by
 obtain ⟨_,_,a,v,hb,_⟩:=h;exact (zl_ hb)
section
variable {C:CSpec} {GT:zG_}
theorem zcT (hT:WtH C) (r o:RefP) (hN:∀ H,C zCT [rV r] H (.tup [.str (zEA r),.nili]) H) (hN2:∀ H,C zCT [rV o] H (.tup [.str (zEA o),.nili]) H) (H0:Heap) (b:Nat) (u:Bs) (H:Heap) (hB:BAt H0 H b u) (hO:Old H0 H) (hl:u.length+(zEA r++58::zEA o).length<=1000000) (hb:b<H.length) :
  zE4 C GT zGd [bR b,ndV (zA2 r o)] H (wrQ H0 H b (u++(zEA r++58::zEA o))):=by
 simp only [zlH,zlE] at hl;obtain ⟨H2,hw,h2⟩:=hT H0 b u (zEA r) _ (hB.push (.box (ndV (zA2 r o)).cells)) (hO.push _) tO;have hn2:H2[H.length]?=some (.box (ndV (zA2 r o)).cells):=h2.2.2.2 _ _ tO (by intro xs e;cases e) zB;obtain ⟨H3,hw3,h3⟩:=hT H0 b _ (58::zEA o) _ h2.1 h2.2.1 (by simp;omega);clear hT;unfold zE4;refine sX ?_;refine zBF (by simp;omega)<|sX ?_
 rw [<-List.append_assoc];exact zNc (zMn rfl rfl) ⟨rfl,h3.1,h3.2.1,((KpB.push0 b H _).trans h2.2.2).trans h3.2.2⟩
theorem zWS (hWb:WbH C) (n:Nd) (hW:WrH C n) (x:Bool) (H0:Heap) (b:Nat) (u:Bs) (H:Heap) (hB:BAt H0 H b u) (hO:Old H0 H) (hl:u.length+(brk x (txt n)).length<=1000000) (hb:b<H.length) :
  zE4 C GT zNk [bR b,ndV n,.bool x] H (wrQ H0 H b (u++brk x (txt n))):=by
 cases x with
 |true=>
  have hl:u.length+((txt n).length+2)<=1000000:=by simpa [brk] using hl
  obtain ⟨H2,hw2,h2⟩:=hWb H0 b u 40 _ (hB.push (.box (ndV n).cells)) (hO.push _) tO;have hn2:H2[H.length]?=some (.box (ndV n).cells):=h2.2.2.2 _ _ tO (by intro xs e;cases e) zB;obtain ⟨H3,hw3,h3⟩:=hW H0 b _ _ h2.1 h2.2.1 h2.1.lt (by simp;omega);obtain ⟨H4,hw4,h4⟩:=hWb H0 b _ 41 _ h3.1 h3.2.1 (by simp;omega);have e:u++brk true (txt n)=u++[40]++txt n++[41]:=by simp [brk]
  rw [e];clear hWb hW;unfold zE4;refine sX ?_;exact zNc (zMn rfl rfl) ⟨rfl,h4.1,h4.2.1,(((KpB.push0 b H _).trans h2.2.2).trans h3.2.2).trans h4.2.2⟩
 |false=>
  obtain ⟨H3,hw3,h3⟩:=hW H0 b _ _ (hB.push (.box (ndV n).cells)) (hO.push _) (by rw [zlH];omega) hl;clear hWb hW;unfold zE4;refine sX ?_;exact zNc (zMn rfl rfl) ⟨rfl,h3.1,h3.2.1,(KpB.push0 b H _).trans h3.2.2⟩
end
theorem zCd {s:Bs} {a:Nat} {c:UInt8} {r:Bs} (h:s.drop a=c::r):s[a]?=some c/\s.drop (a+1)=r:=by
 have h1:(s.drop a)[0]?=some c:=by rw [h];rfl
 rw [zlu,zm3] at h1;refine ⟨h1, ?_⟩;have:=zlR List.tail h
 rwa [List.tail_drop] at this
theorem zFX {s:Bs} {a:Nat} {x v:Bs} (h:s.drop a=x++v):s.drop (a+x.length)=v:=by
 rw [<-List.drop_drop,h,List.drop_left]
theorem zTJ {s:Bs} {a:Nat} {c:UInt8} {r:Bs} (h:s.drop a=c::r):a<s.length:=(zg (zCd h).1).1
theorem zQa {s:Bs} {a:Nat} {x v:Bs} (h:s.drop a=x++v) (ha:a<=s.length):a+x.length<=s.length:=by
 have:=zlR List.length h;rw [zlg,zlH] at this;omega
theorem zXg:∀ (x v:Bs),(∀ c∈x,zh c=true)->(∀ c,v.head?=some c->zh c=false)->zd5 (x++v)=x.length
 |[],[],_,_=>rfl
 |[],c::r,_,h=>by rw [zl2,zd5,zlD (by rw [h c rfl];simp)];rfl
 |c::x,v,h,k=>by rw [zl5,zd5,zlF (h c zS_),zXg x v (fun d hd=>h d (by simp [hd])) k];rfl
def Sep (v:Bs):Prop:=∀ c,v.head?=some c->zh c=false/\c≠34/\c≠40/\c≠58
theorem zUw {c:UInt8} (h:zh c=true):c≠32/\c≠34/\c≠35:=by
 refine ⟨?_, ?_, ?_⟩ <;> (rintro rfl;revert h;decide)
theorem zR3 {s:Bs} {a:Nat} {c:UInt8} {r:Bs} (h:s.drop a=c::r) (hc:c≠32):tok s a=zBk s a:=by
 unfold tok;rw [zDm (by rw [(zCd h).1];simpa using hc)]
theorem zfb {s:Bs} {a:Nat} (h:s.drop a=[]):tok s a=.fin:=by
 have h0:s[a]?=none:=zm1.2 (List.drop_eq_nil_iff.1 h);unfold tok;rw [zDm (by rw [h0];simp)];unfold zBk;rw [h0]
theorem zR4 {s:Bs} {a:Nat} {x v:Bs} (h:s.drop a=x++v) (hx:x≠[]) (hw:∀ c∈x,zh c=true) (hv:∀ c,v.head?=some c->zh c=false):zBk s a=.word (a+x.length) x:=by
 obtain ⟨c,r,rfl⟩:=zmD hx;have hc:=hw c zS_;have hr:zDI s a=a+(c::r).length:=by unfold zDI;rw [h,zXg _ _ hw hv]
 unfold zBk;rw [(zCd h).1];simp only;rw [zlF hc,hr]
 congr 1
 unfold sub;rw [h,zmu,List.take_left]
theorem zHJ {s:Bs} {a:Nat} {x v:Bs} (h:s.drop a=x++v) (hx:x≠[]) (hw:∀ c∈x,zh c=true) (hv:∀ c,v.head?=some c->zh c=false):tok s a=.word (a+x.length) x:=by
 rw [<-zR4 h hx hw hv];obtain ⟨c,r,rfl⟩:=zmD hx;exact zR3 h (zUw (hw c zS_)).1
theorem zcU:∀ (t v:Bs) (i:Nat),v.head?≠some 34->quo (esc t++34::v) i=some (t,i+(esc t).length+1)
 |[],[],i,_=>by simp [esc,quo]
 |[],d::v,i,h=>by
  have hd:d≠34:=fun e=>h (by rw [e];rfl);simp [esc,quo,hd]
 |c::t,v,i,h=>by
  have ih:=zcU t v;by_cases hc:c=34
  ·subst hc;simp only [esc,zlp,zl5];rw [quo,zlF rfl,zlF rfl,ih (i+2) h];simp only [zlW,zlJ,zlT,zlE,true_and];omega
  ·simp only [esc,zlD hc,zl5];have hne:∃ d r,esc t++34::v=d::r:=zmD zS_;obtain ⟨d,r,he⟩:=hne;have h1:=ih (i+1) h;rw [he] at h1 ⊢;rw [quo,zlD hc,h1];simp only [zlW,zlJ,zlT,zlE,true_and];omega
theorem zWT {s:Bs} {a:Nat} {t v:Bs} (h:s.drop a=(34::esc t++[34])++v) (hv:v.head?≠some 34):tok s a=.txt (a+(34::esc t++[34]).length) t:=by
 have h':s.drop a=34::(esc t++34::v):=by rw [h];simp
 rw [zR3 h' zD_];unfold zBk;rw [(zCd h').1];simp only;rw [zlD zD_,zlF trivial,(zCd h').2,zcU t v _ hv];simp only [zlH,zlE,zlL,zl5]
 congr 1
 omega
theorem zfc (v:Bs):∀ k:Nat,1<=k->k<=6->zK1 (wrongs.getD (k-1) []++v) wrongs 1=some (k,(wrongs.getD (k-1) []).length):=by
 intro k h1 h6;have:k=1\/k=2\/k=3\/k=4\/k=5\/k=6:=by omega
 rcases this with rfl|rfl|rfl|rfl|rfl|rfl <;> simp [wrongs,zK1]
theorem zWU {s:Bs} {a k:Nat} {v:Bs} (hk:1<=k/\k<=6) (h:s.drop a=wrongs.getD (k-1) []++v):tok s a=.bad (a+(wrongs.getD (k-1) []).length) k:=by
 have h35:∃ r,wrongs.getD (k-1) []=35::r:=by
  have:k=1\/k=2\/k=3\/k=4\/k=5\/k=6:=by omega
  rcases this with rfl|rfl|rfl|rfl|rfl|rfl <;> exact ⟨_,rfl⟩
 obtain ⟨r,hr⟩:=h35;have hb:=zfc v k hk.1 hk.2;rw [<-h] at hb;rw [hr,zl5] at h;rw [zR3 h zD_];unfold zBk;rw [(zCd h).1];simp only;rw [zlD zD_,zlD zD_,zlF trivial,hb]
def zgu (c:UInt8) (v:Bs):Bool:=match v with
 |[]=>true
 |d::_=>!(decide ((c=60/\d=62)\/(c=60/\d=61)\/(c=62/\d=61)))
theorem zFA {s:Bs} {a:Nat} {c:UInt8} {v:Bs} (h:s.drop a=c::v) (hc:c≠32/\zh c=false/\c≠34/\c≠35) (ho:zgu c v=true):tok s a=.sign (a+1) [c]:=by
 obtain ⟨h1,h2⟩:=zCd h;rw [zR3 h hc.1];unfold zBk;rw [h1];simp only;rw [zlD (by rw [hc.2.1];simp),zlD hc.2.2.1,zlD hc.2.2.2];cases v with
 |nil=>
  have:s[a+1]?=none:=zm1.2 (List.drop_eq_nil_iff.1 h2);rw [this]
 |cons d r=>
  rw [(zCd h2).1];simp only;rw [zlD fun k=>?_];unfold zgu at ho;simp only [zlY k,Bool.not_true] at ho;cases ho
theorem zTK {s:Bs} {a:Nat} {c d:UInt8} {v:Bs} (h:s.drop a=c::d::v) (ho:(c=60/\d=62)\/(c=60/\d=61)\/(c=62/\d=61)):tok s a=.sign (a+2) [c,d]:=by
 obtain ⟨h1,h2⟩:=zCd h;have hc:c=60\/c=62:=by rcases ho with h|h|h <;> simp [h.1]
 have hc2:c≠32/\zh c=false/\c≠34/\c≠35:=by rcases hc with rfl|rfl <;> decide
 rw [zR3 h hc2.1];unfold zBk;rw [h1];simp only;rw [zlD (by rw [hc2.2.1];simp),zlD hc2.2.2.1,zlD hc2.2.2.2,(zCd h2).1];simp only;rw [zlF ho]
def Beg (v:Bs):Prop:=∃ c r,v=c::r/\(zh c=true\/c=34\/c=35\/c=45\/c=40)
theorem zkh {s:Bs} {a op:Nat} {v:Bs} (hop:1<=op/\op<=11) (h:s.drop a=opT op++v) (hv:Beg v):zIK s a=some (op,a+(opT op).length):=by
 obtain ⟨c,r,rfl,hc⟩:=hv;have h1:c≠61/\c≠62:=by
  refine ⟨?_, ?_⟩ <;> (rintro rfl;revert hc;decide)
 have k:op=1\/op=2\/op=3\/op=4\/op=5\/op=6\/op=7\/op=8\/op=9\/op=10\/op=11:=by omega
 have one:∀ x:UInt8,(x≠32/\zh x=false/\x≠34/\x≠35)->zgu x (c::r)=true:=fun x _=>by
  unfold zgu;simp [h1.1,h1.2]
 unfold zIK;rcases k with rfl|rfl|rfl|rfl|rfl|rfl|rfl|rfl|rfl|rfl|rfl
 all_goals first
  |(rw [zFA (v:=c::r) h zD_ (one _ zD_)];rfl)
  |(rw [zTK (v:=c::r) h zD_];rfl)
def Stop (l:Nat) (s:Bs) (a:Nat):Prop:=∀ op e,zIK s a=some (op,e)->tight op<l
end Go.AM
