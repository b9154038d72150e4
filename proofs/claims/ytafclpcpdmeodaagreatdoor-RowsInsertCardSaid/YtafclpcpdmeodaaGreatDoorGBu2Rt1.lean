/- Several texts of mine in one (Bu2, Bu1, Bu4, Bu5, Rt1). Own work. -/
import Derived.Test.YtafclpcpdmeodaaGreatDoorGAm30Fp1
import Derived.Test.YtafclpcpdmeodaaGreatDoorGFp2Fr3
import Derived.Test.YtafclpcpdmeodaaGreatDoorGSf0Rt0
import Derived.Test.YtafclpcpdmeodaaGreatDoorGRffRfi
import Derived.Test.YtafclpcpdmeodaaGreatDoorXc
import Derived.Test.YtafclpcpdmeodaaGreatDoorGRf5Rf3
set_option linter.all false
set_option maxRecDepth 20000
namespace Go.AM
section
variable {C:CSpec} {GT:Nat->Option AV}
def zEe (n:Nd):Nat:=if n.kind=8 then tight n.num.toNat else 5
theorem tightP_lt (n:Nd):(zEe n<5)=(zf n<9):=by
 unfold zEe zf;split
 ·have:=zDv n.num.toNat;exact propext ⟨fun _=>by omega,fun _=>by omega⟩
 ·exact propext ⟨fun h=>by omega,fun h=>by omega⟩
theorem pnum_ev (n:Int) (H:Heap):EFun C GT zPZ [zJ n] H (v3 1 n) H:=by
 refine zI<|sX ?_;refine sSA (AV.agg [.int .i64 1,zJ n,AV.str []]) ?_
 exact zAV (o:=0) rfl rfl (zH hP) rfl rfl rfl hO
theorem ptight_ev (n:Nd) (h:n.kind=8->1<=n.num/\n.num<=11) (H:Heap):EFun C GT zJi [ndV n] H (zJ (zEe n)) H:=by
 have hb:=@zB H (.box (ndV n).cells);refine zI ?_;unfold zEe;by_cases h8:n.kind=8
 ·obtain ⟨h1,h2⟩:=h h8;obtain ⟨k,hk⟩:∃ k:Nat,n.num=k:=⟨n.num.toNat,by omega⟩;rw [zQQ h8,hk,zQy];unfold tight;by_cases h3:n.num<=6
  ·rw [zQQ tO];refine sX ?_;refine zk (zQo.2 h8)<|zA (AV.int IntKind.i64 n.num) zB rfl<|zp (zQj h3) ?_
   exact sRv
  ·rw [zQN tO];by_cases h4:n.num=7
   ·rw [zQQ tO];refine sX ?_;refine zk (zQo.2 h8)<|zA (AV.int IntKind.i64 n.num) zB rfl<|zk (zQs h3)<|zA (AV.int IntKind.i64 n.num) zB rfl<|zp (tE h4) ?_
    exact sRv
   ·rw [zQN tO];by_cases h5:n.num<=9
    ·rw [zQQ tO];refine sX ?_;refine zk (zQo.2 h8)<|zA (AV.int IntKind.i64 n.num) zB rfl<|zk (zQs h3)<|zA (AV.int IntKind.i64 n.num) zB rfl<|zk (tN h4)<|zA (AV.int IntKind.i64 n.num) zB rfl<|zp (zQj h5) ?_
     exact sRv
    ·rw [zQN tO];refine sX ?_;refine zk (zQo.2 h8)<|zA (AV.int IntKind.i64 n.num) zB rfl<|zk (zQs h3)<|zA (AV.int IntKind.i64 n.num) zB rfl<|zk (tN h4)<|zA (AV.int IntKind.i64 n.num) zB rfl<|zk (zQs h5) ?_
     exact sRv
 ·rw [zQN h8];refine sX ?_;refine zp (zQ8.2 h8) ?_;exact sRv
theorem opT_part (k:Nat) (h:1<=k/\k<=11):part [AV.str [],.str [61],.str [60,62],.str [60],.str [60,61],.str [62],.str [62,61],.str [38],.str [43],.str [45],.str [42],.str [47]] ((k:Int).toNat*1) 1 false=some (.str (opT k)):=by
 obtain ⟨h1,h2⟩:=h;rw [zQy,zSh];have:k=1\/k=2\/k=3\/k=4\/k=5\/k=6\/k=7\/k=8\/k=9\/k=10\/k=11:=by omega
 rcases this with rfl|rfl|rfl|rfl|rfl|rfl|rfl|rfl|rfl|rfl|rfl <;> rfl
theorem sign_fill:zEf [.str [],.str [],.str [],.str [],.str [],.str [],.str [],.str [],.str [],.str [],.str [],.str []] [(0,1),(1,1),(2,1),(3,1),(4,1),(5,1),(6,1),(7,1),(8,1),(9,1),(10,1),(11,1)] [.str [],.str [61],.str [60,62],.str [60],.str [60,61],.str [62],.str [62,61],.str [38],.str [43],.str [45],.str [42],.str [47]]=some [AV.str [],.str [61],.str [60,62],.str [60],.str [60,61],.str [62],.str [62,61],.str [38],.str [43],.str [45],.str [42],.str [47]]:=by
 simp [zEf,splice,AV.cells,AV.one]
theorem signOf_ev (k:Nat) (h:1<=k/\k<=11) (H:Heap):EFun C GT zIy [zK k] H (.str (opT k)) H:=by
 refine zI<|zy sign_fill<|zBA (And.intro tO tO)<|zy (opT_part k h) ?_
 exact sRv
theorem show_num (hI:∀ n:Nat,n<=9223372036854775807->∀ H,C zDL [zK n] H (.str (zF1 n)) H) (n:Nat) (hn:n<=9223372036854775807) (H:Heap):EFun C GT zGt [v3 1 n] H (.str (zF1 n)) H:=by
 have hi:=hI n hn;clear hI;refine zI<|sX ?_
 exact sRv
theorem show_tru (b:Bool) (H:Heap):EFun C GT zGt [v3 3 (if b=true then 1 else 0)] H (.str (if b then zFz else zDY)) H:=by
 refine zI ?_;cases b
 ·refine sX ?_;exact sRv
 ·refine sX ?_;exact sRv
theorem texts_part (k:Nat) (h:1<=k/\k<=6):part [AV.str [],.str [35,68,73,86,33],.str [35,86,65,76,85,69,33],.str [35,82,69,70,33],.str [35,78,65,77,69,33],.str [35,78,85,77,33],.str [35,78,79,78,69,33]] (0+(k:Int).toNat*1) 1 false=some (.str (wrongs.getD (k-1) [])):=by
 obtain ⟨h1,h2⟩:=h;rw [zQy,zSh,zQ7];have:k=1\/k=2\/k=3\/k=4\/k=5\/k=6:=by omega
 rcases this with rfl|rfl|rfl|rfl|rfl|rfl <;> rfl
theorem digT_short:∀ n:Nat,(zF1 n).length<=n+1:=by
 intro n;unfold zF1;split
 ·simp
 ·rw [zR7];have:∀ n:Nat,(decL n).length<=n:=fun n=>by
   induction n using Nat.strongRecOn with
   |ind n ih=>
    by_cases h:n=0
    ·subst h;rw [zJy];simp
    ·rw [zIl h,zQO];have:=ih (n/10) tO;omega
  have:=this n;omega
theorem enc_let (k:Nat) (h:k<26):(Utf8.encode ((65+k:Nat):Int)).data.toList=[UInt8.ofNat (65+k)]:=by
 have hv:Utf8.valid ((65+k:Nat):Int)=true:=by
  simp [Utf8.valid];omega
 unfold Utf8.encode;simp only [hv,zQz,zQy];rw [zQQ tO]
theorem refName_ev (hI:∀ n:Nat,n<=9223372036854775807->∀ H,C zDL [zK n] H (.str (zF1 n)) H) (hO:∀ c r H,C zGA [zCs c r] H (.bool (okC c r)) H) (r:RefP) (h:okR r) (H:Heap):EFun C GT zKh [rV r] H (.tup [.str (zD2 r),.nili]) H:=by
 obtain ⟨c,r,fc,fr⟩:=r;obtain ⟨h1,h2,h3,h4⟩:=h;obtain ⟨k,rfl⟩:∃ k:Nat,c=((k+1:Nat):Int):=⟨c.toNat-1,by simp at h1;omega⟩;obtain ⟨m,rfl⟩:∃ m:Nat,r=(m:Int):=⟨r.toNat,by simp at h3;omega⟩;simp only at h1 h2 h3 h4;have hi:=hI m tO;have ho:∀ H,C zGA [zCs ((k+1:Nat):Int) m] H (.bool true) H:=fun H=>by
  have:=hO ((k+1:Nat):Int) m H
  rwa [show okC ((k+1:Nat):Int) m=true from by simp [okC];omega] at this
 have w1:IntKind.i64.wrap (65+((k+1:Nat):Int))=((66+k:Nat):Int):=by rw [IntKind.wrap_i64];omega
 have w2:IntKind.i64.wrap (((66+k:Nat):Int)-1)=((65+k:Nat):Int):=by rw [IntKind.wrap_i64];omega
 have w3:IntKind.i32.wrap ((65+k:Nat):Int)=((65+k:Nat):Int):=by rw [IntKind.wrap_i32];omega
 have he:=enc_let k tO;have hd:(zF1 m).length<=100:=by have:=digT_short m;omega
 clear hI hO;refine zI ?_;have hn:(Utf8.encode ((65+k:Nat):Int)).data.toList.length=1:=by rw [he];rfl
 have e:zD2 ⟨((k+1:Nat):Int),m,fc,fr⟩=(match fr with|true=>((match fc with|true=>[36]|false=>[])++(Utf8.encode ((65+k:Nat):Int)).data.toList)++[36]|false=>(match fc with|true=>[36]|false=>[])++(Utf8.encode ((65+k:Nat):Int)).data.toList)++zF1 m:=by
  unfold zD2;simp only [zQy];rw [he,show 64+(k+1)=65+k by omega];cases fc <;> cases fr <;> rfl
 clear he;rw [e];cases fc with
 |false=>
  cases fr with
  |false=>
   refine zBr (x:=rV ⟨((k+1:Nat):Int),m,false,false⟩) rfl<|zA _ zB rfl<|zM (ho _)<|zG<|zA _ zB rfl<|zG<|zA _ zB rfl<|zFR w1<|zFR w2<|zFR w3<|zBA (by simp only [zQR,zQO,zQV,hn];omega)<|zA _ zB rfl<|zG<|zA _ zB rfl<|zM (hi _)<|zBA (by simp only [zQR,zQO,zQV,hn];omega) ?_
   exact zAq rfl rfl rfl rfl ((Old.refl _).push _)
  |true=>
   refine zBr (x:=rV ⟨((k+1:Nat):Int),m,false,true⟩) rfl<|zA _ zB rfl<|zM (ho _)<|zG<|zA _ zB rfl<|zG<|zA _ zB rfl<|zFR w1<|zFR w2<|zFR w3<|zBA (by simp only [zQR,zQO,zQV,hn];omega)<|zA _ zB rfl<|zD<|zBA (by simp only [zQR,zQO,zQV,hn];omega)<|zA _ zB rfl<|zM (hi _)<|zBA (by simp only [zQR,zQO,zQV,hn];omega) ?_
   exact zAq rfl rfl rfl rfl ((Old.refl _).push _)
 |true=>
  cases fr with
  |false=>
   refine zBr (x:=rV ⟨((k+1:Nat):Int),m,true,false⟩) rfl<|zA _ zB rfl<|zM (ho _)<|zG<|zA _ zB rfl<|zD<|zA _ zB rfl<|zFR w1<|zFR w2<|zFR w3<|zBA (by simp only [zQR,zQO,zQV,hn];omega)<|zA _ zB rfl<|zG<|zA _ zB rfl<|zM (hi _)<|zBA (by simp only [zQR,zQO,zQV,hn];omega) ?_
   exact zAq rfl rfl rfl rfl ((Old.refl _).push _)
  |true=>
   refine zBr (x:=rV ⟨((k+1:Nat):Int),m,true,true⟩) rfl<|zA _ zB rfl<|zM (ho _)<|zG<|zA _ zB rfl<|zD<|zA _ zB rfl<|zFR w1<|zFR w2<|zFR w3<|zBA (by simp only [zQR,zQO,zQV,hn];omega)<|zA _ zB rfl<|zD<|zBA (by simp only [zQR,zQO,zQV,hn];omega)<|zA _ zB rfl<|zM (hi _)<|zBA (by simp only [zQR,zQO,zQV,hn];omega) ?_
   exact zAq rfl rfl rfl rfl ((Old.refl _).push _)
theorem show_bad (hG:GT zEq=some zP3) (k:Nat) (h:1<=k/\k<=6) (H:Heap):EFun C GT zGt [v3 4 k] H (.str (wrongs.getD (k-1) [])) H:=by
 refine zI<|zBr (x:=v3 4 k) rfl<|zA (AV.int IntKind.i64 4) zB rfl<|zG<|zG<|zG<|zp (tT)<|zA (AV.int IntKind.i64 ↑k) zB rfl<|zp (tT)<|zA (AV.int IntKind.i64 ↑k) zB rfl<|zD<|zp (tT)<|sX ?_;refine zBA (And.intro tO tO)<|sOffG hG<|zA4 (.str (wrongs.getD (k-1) [])) (texts_part k h) ?_
 exact sRv
end
end Go.AM
set_option maxRecDepth 20000
namespace Go.AM
def OwnT (H0 H:Heap) (v:AV) (u:Bs):Prop:=(v=.lst (some true) 0 []/\u=[])\/∃ d,v=.sl (some true) d 1 0 u.length/\H0.length<=d/\H[d]?=some (.row 1 (u.map zo))/\H[d+1]?=some (.ty d zDz)/\u≠[]
def BAt (H0 H:Heap) (b:Nat) (u:Bs):Prop:=H0.length<=b/\H[b+1]?=some (.shp b zAB 2)/\∃ a v,H[b]?=some (.box [a,v])/\OwnT H0 H v u/\(a=.ref b 0 0 0\/a=.nilp)
def BFz (H0 H:Heap) (b:Nat) (u:Bs):Prop:=H0.length<=b/\H[b+1]?=some (.shp b zAB 2)/\∃ (a:AV) (d h:Nat),H[b]?=some (.box [a,.sl (some true) d 1 0 u.length])/\H[d]?=some (.frz 1 (u.map zo))/\H[h]?=some (.hd d zDz u.length)/\u≠[]
def KpB (b:Nat) (H H':Heap):Prop:=H.length<=H'.length/\∀ c x,c≠b->(∀ xs,x≠.row 1 xs)->H[c]?=some x->H'[c]?=some x
def BTo (H0 H H':Heap) (b:Nat) (u:Bs):Prop:=BAt H0 H' b u/\Old H0 H'/\KpB b H H'
theorem KpB.refl (b:Nat) (H:Heap):KpB b H H:=⟨zQU _,fun _ _ _ _ h=>h⟩
theorem KpB.trans {b:Nat} {H H1 H2:Heap} (h:KpB b H H1) (k:KpB b H1 H2):KpB b H H2:=⟨zRb h.1 k.1,fun c x hc hx h'=>k.2 c x hc hx (h.2 c x hc hx h')⟩
theorem KpB.push {b:Nat} {H H1:Heap} (h:KpB b H H1) (x:ABlk):KpB b H (H1++[x]):=⟨by rw [zQR];have:=h.1;omega,fun c y hc hy h'=>zF (h.2 c y hc hy h')⟩
theorem KpB.setB {b:Nat} {H H1:Heap} (h:KpB b H H1) (y:ABlk):KpB b H (H1.set b y):=⟨by rw [zQZ];exact h.1,fun d x hd hx h'=>zC (fun e=>hd e.symm) (h.2 d x hd hx h')⟩
theorem BTo.trans {H0 H H1 H2:Heap} {b:Nat} {u u':Bs} (h:BTo H0 H H1 b u) (k:BTo H0 H1 H2 b u'):BTo H0 H H2 b u':=⟨k.1,k.2.1,h.2.2.trans k.2.2⟩
theorem OwnT.keep {H0 H H':Heap} {v:AV} {u:Bs} (h:OwnT H0 H v u) (k:∀ (c:Nat) (x:ABlk),(x=ABlk.row 1 (u.map zo)\/∃ d,x=ABlk.ty d zDz)->H[c]?=some x->H'[c]?=some x):OwnT H0 H' v u:=by
 rcases h with h|⟨d,h1,h2,h3,h4,h5⟩
 ·exact .inl h
 ·exact .inr ⟨d,h1,h2,k _ _ (.inl rfl) h3,k _ _ (.inr ⟨d,rfl⟩) h4,h5⟩
theorem OwnT.push {H0 H:Heap} {v:AV} {u:Bs} (h:OwnT H0 H v u) (x:ABlk):OwnT H0 (H++[x]) v u:=h.keep fun _ _ _ h=>zF h
theorem OwnT.setBox {H0 H:Heap} {v:AV} {u:Bs} (h:OwnT H0 H v u) {c:Nat} {cs:List AV} (hc:H[c]?=some (.box cs)) (x:ABlk):OwnT H0 (H.set c x) v u:=h.keep fun e y hy h=>zC (fun he=>by
 rw [he,h] at hc;rcases hy with rfl|⟨d,rfl⟩ <;> cases hc) h
theorem OwnT.one {H0 H:Heap} {v:AV} {u:Bs} (h:OwnT H0 H v u):v.cells=[v]/\v.one=true:=by
 rcases h with ⟨rfl,_⟩|⟨d,rfl,_⟩ <;> exact ⟨rfl,rfl⟩
theorem OwnT.row {H0 H:Heap} {v:AV} {u:Bs} (h:OwnT H0 H v u) {b:Nat} (hb:v.blk=some b):∃ ys,H[b]?=some (.row 1 ys):=by
 rcases h with ⟨rfl,_⟩|⟨d,rfl,_,h,_⟩
 ·cases hb
 ·simp only [AV.blk,zQT] at hb;subst hb;exact ⟨_,h⟩
theorem BAt.push {H0 H:Heap} {b:Nat} {u:Bs} (h:BAt H0 H b u) (x:ABlk):BAt H0 (H++[x]) b u:=by
 obtain ⟨h0,hs,a,v,hb,hw,ha⟩:=h;exact ⟨h0,zF hs,a,v,zF hb,hw.push _,ha⟩
theorem BFz.keep {H0 H H':Heap} {b:Nat} {u:Bs} (h:BFz H0 H b u) (hb:∀ x,H[b]?=some x->H'[b]?=some x) (k:∀ (c:Nat) (x:ABlk),(∀ cs,x≠ABlk.box cs)->H[c]?=some x->H'[c]?=some x):BFz H0 H' b u:=by
 obtain ⟨h0,hs,a,d,e,h1,h2,h3,h4⟩:=h;exact ⟨h0,k _ _ (fun _ e=>by cases e) hs,a,d,e,hb _ h1,k _ _ (fun _ e=>by cases e) h2,k _ _ (fun _ e=>by cases e) h3,h4⟩
section
variable {C:CSpec} {GT:Nat->Option AV}
abbrev bR (b:Nat):AV:=.ref b 0 0 0
def a_wbyte:AF:={ zCu with keep:=true }
def a_wtext:AF:={ zCV with keep:=true }
def appV (t:Nat) (s:Bool) (x:AV) (ys:List AV) (H:Heap):Option (AV×Heap):=match x with
 |.lst (some true) _ _=>if s=true/\ys.isEmpty=true then some (x,H) else if ys.isEmpty=false/\ys.length<=140737488355328 then some (.sl (some true) H.length 1 0 ys.length,H++[.row 1 ys]++[.ty H.length t]) else none
 |.sl q b k' off len=>if s=true/\ys.isEmpty=true then some (x,H) else match H[b]?,H[b+1]? with
  | some (.row k'' xs),some (.ty b' t')=>if ys.isEmpty=false/\k'=1/\k''=1/\b'=b/\t'=t/\off=0/\len<=xs.length/\len+ys.length<=140737488355328 then
    some (.sl q H.length 1 0 (len+ys.length),H.set b .dead++[.row 1 (xs.take len++ys)]++[.ty H.length t]) else none
  |_,_=>none
 |_=>none
def appSrc (s:Bool) (y:AV) (H:Heap):Option (List AV):=match s with
 |true=>(match y with
  |.str z=>some (z.map zo)
  |_=>none)
 |false=>view H 1 y
theorem appSrc_false (y:AV) (H:Heap):appSrc false y H=view H 1 y:=rfl
theorem zKC {t:Nat} {s:Bool} {x y:AV} {H:Heap} {ys:List AV} (hy:appSrc s y H=some ys):astep (.appT t s) [x,y] H=appV t s x ys H:=by
 cases s with
 |false=>
  have hy:view H 1 y=some ys:=hy;simp only [astep,zQY,zQt,hy];rfl
 |true=>
  cases y with
  |str z=>
   have hy:some (z.map zo)=some ys:=hy;cases hy;rfl
  |_=>cases hy
theorem sAppT {H0 H:Heap} {v y:AV} {u t:Bs} {sb:Bool} {K:AV->Heap->Prop} (ho:OwnT H0 H v u) (hH:Old H0 H) (hy:appSrc sb y H=some (t.map zo)) (hl:u.length+t.length<=140737488355328) (ht:sb=true\/t≠[])
  (q:∀ v' H',OwnT H0 H' v' (u++t)->Old H0 H'->H.length<=H'.length->(∀ c x,v.blk≠some c->H[c]?=some x->H'[c]?=some x)->K v' H'):actP (.appT zDz sb) [v,y] H K:=by
 have hlt:(t.map zo).length=t.length:=zQW _;have hie:(t.map zo).isEmpty=t.isEmpty:=by cases t <;> rfl
 by_cases he:t=[]
 ·subst he;have hs:sb=true:=ht.resolve_right fun h=>h rfl;refine sAct (v:=v) (H':=H) ?_ (q v H (by simpa using ho) hH (zQU _) fun c y _ h=>h);rcases ho with ⟨rfl,rfl⟩|⟨d,rfl,_⟩
  ·rw [zKC hy];exact zQQ ⟨hs,rfl⟩
  ·rw [zKC hy];exact zQQ ⟨hs,rfl⟩
 have hne:t.isEmpty=false:=by simpa using he
 rcases ho with ⟨rfl,rfl⟩|⟨d,rfl,h1,h2,h3,h4⟩
 ·simp only [zQV,zQ7] at hl;refine sAct (v:=.sl (some true) H.length 1 0 t.length) (H':=H++[.row 1 (t.map zo)]++[.ty H.length zDz]) ?_ ?_
  ·rw [zKC hy];simp only [appV,hie,hne,hlt];rw [zQN (by simp),zQQ ⟨trivial,hl⟩]
  ·refine q _ _ (.inr ⟨_,rfl,hH.1,zF zB, ?_,he⟩) ((hH.push _).push _) (by simp) fun _ _ _ hx=>zF (zF hx);have:=@zB (H++[.row 1 (t.map zo)]) (.ty H.length zDz)
   rwa [zQR] at this
 ·refine sAct (v:=.sl (some true) H.length 1 0 (u.length+t.length)) (H':=H.set d .dead++[.row 1 (u.map zo++t.map zo)]++[.ty H.length zDz]) ?_ ?_
  ·rw [zKC hy];simp only [appV,hie,hne,hlt,h2,h3];rw [zQN (by simp),zQQ ⟨trivial,trivial,trivial,trivial,trivial,trivial,by simp,hl⟩];rw [zQ6 (by simp)]
  ·have hsl:(H.set d ABlk.dead).length=H.length:=zQZ;refine q _ _ (.inr ⟨H.length,by rw [zQR],hH.1, ?_, ?_,by simp [he]⟩) (((hH.set h1 _).push _).push _) (by simp) fun c x hc hx=>zF (zF (zC (fun e=>hc (by rw [e];rfl)) hx))
   ·rw [<-hsl,zQ5];exact zF zB
   ·have:=@zB (H.set d .dead++[.row 1 (u.map zo++t.map zo)]) (.ty H.length zDz)
    rwa [zQR,hsl] at this
theorem wb_end {F:AF} {H0 H H1 H':Heap} {fr:Fr} {b:Nat} {v v' r:AV} {u':Bs} (hs1:H1[b+1]?=some (.shp b zAB 2)) (hk1:KpB b H H1) (hb2:H'[b]?=some (.box [.ref b 0 0 0,v])) (ho':OwnT H0 H' v' u') (hO':Old H0 H')
  (hf:∀ c x,c≠b->(∀ xs,x≠.row 1 xs)->H1[c]?=some x->H'[c]?=some x) (hl:H1.length<=H'.length) (h0:H0.length<=b) (hk:F.keep=true) (hr:(zBa fr (H'.set b (.box [.ref b 0 0 0,v'])) F.results).map tupled=some r) :
  retQ F H fr (H'.set b (.box [.ref b 0 0 0,v'])) (fun x H'=>x=r/\BTo H0 H H' b u'):=by
 have hbl:=(zg hb2).1;refine zNE (zLF hk hr) ⟨rfl,⟨h0,zC tO (hf _ _ tO (fun _ e=>by cases e) hs1),_,v',zQr hbl,ho'.setBox hb2 _,.inl rfl⟩,hO'.set h0 _, ?_⟩;exact ⟨by rw [zQZ];exact zRb hk1.1 hl,fun c x hc hx h=>zC (fun e=>hc e.symm) (hf c x hc hx (hk1.2 c x hc hx h))⟩
def CkB (C:CSpec):Prop:=∀ b a v H,H[b]?=some (.box [a,v])->H[b+1]?=some (.shp b zAB 2)->(a=.ref b 0 0 0\/a=.nilp)->C zAS [bR b] H (.tup []) (H.set b (.box [.ref b 0 0 0,v]))
theorem wbyte_ev (hC:CkB C) (H0:Heap) (b:Nat) (u:Bs) (c:UInt8) (H:Heap) (hB:BAt H0 H b u) (hO:Old H0 H) (hl:u.length<=1000000):zEy C GT a_wbyte [bR b,zo c] H (fun v H'=>v=.nili/\BTo H0 H H' b (u++[c])):=by
 obtain ⟨h0,hs,a,v,hb,hw,ha⟩:=hB;have hbl:=(zg hb).1;have hc:=hC b a v H hb hs ha;obtain ⟨H1,e1⟩:∃ H1,H.set b (.box [.ref b 0 0 0,v])=H1:=⟨_,rfl⟩;have hb1:H1[b]?=some (.box [.ref b 0 0 0,v]):=by rw [<-e1];exact zQr hbl
 have hs1:H1[b+1]?=some (.shp b zAB 2):=by rw [<-e1];exact zC tO hs
 have hw1:OwnT H0 H1 v u:=by rw [<-e1];exact hw.setBox hb _
 have hO1:Old H0 H1:=by rw [<-e1];exact hO.set h0 _
 have hk1:KpB b H H1:=by rw [<-e1];exact (KpB.refl b H).setB _
 rw [e1] at hc;clear hC e1;unfold zEy;refine zCM hc (fun h=>nomatch h) ?_;refine zA v hb1 rfl ?_;refine zAW (vs':=[zo c]) rfl rfl ?_;refine sAppT (t:=[c]) (H0:=H0) (hw1.push _) (hO1.push _) ((appSrc_false _ _).trans zAo) (by simp;omega) (.inr (by simp)) fun v' H' ho' hO' hlt hf=>?_;have hnr:∀ {d:Nat} {x:ABlk},(∀ xs,x≠.row 1 xs)->H1[d]?=some x->v.blk≠some d:=fun hx h e=>by
  obtain ⟨ys,hy⟩:=hw1.row e;rw [h] at hy;exact hx _ (zQl hy)
 have hb2:=hf b _ (hnr (fun _ e=>by cases e) hb1) (zF hb1);rw [zQR] at hlt;refine zL (v:=v') [.ref b 0 0 0,v'] hb2 (zQb List.length ho'.one.1) ((zQb (fun l=>List.all l AV.one) ho'.one.1).trans (by simp [ho'.one.2])) rfl (zQb (splice [AV.ref b 0 0 0,v] 1) ho'.one.1) ?_;exact wb_end hs1 hk1 hb2 ho' hO' (fun d x hd hx h=>hf d x (hnr hx h) (zF h)) (by simp at hlt;omega) h0 rfl rfl
theorem wtext_ev (hC:CkB C) (H0:Heap) (b:Nat) (u t:Bs) (H:Heap) (hB:BAt H0 H b u) (hO:Old H0 H) (hl:u.length+t.length<=1000000):zEy C GT a_wtext [bR b,.str t] H (fun v H'=>v=.tup [zK t.length,.nili]/\BTo H0 H H' b (u++t)):=by
 obtain ⟨h0,hs,a,v,hb,hw,ha⟩:=hB;have hbl:=(zg hb).1;have hc:=hC b a v H hb hs ha;obtain ⟨H1,e1⟩:∃ H1,H.set b (.box [.ref b 0 0 0,v])=H1:=⟨_,rfl⟩;have hb1:H1[b]?=some (.box [.ref b 0 0 0,v]):=by rw [<-e1];exact zQr hbl
 have hs1:H1[b+1]?=some (.shp b zAB 2):=by rw [<-e1];exact zC tO hs
 have hw1:OwnT H0 H1 v u:=by rw [<-e1];exact hw.setBox hb _
 have hO1:Old H0 H1:=by rw [<-e1];exact hO.set h0 _
 have hk1:KpB b H H1:=by rw [<-e1];exact (KpB.refl b H).setB _
 rw [e1] at hc;clear hC e1;unfold zEy;refine zCM hc (fun h=>nomatch h) ?_;refine zA v hb1 rfl ?_;refine sAppT (t:=t) (H0:=H0) hw1 hO1 rfl tO (.inl rfl) fun v' H' ho' hO' hlt hf=>?_;have hnr:∀ {d:Nat} {x:ABlk},(∀ xs,x≠.row 1 xs)->H1[d]?=some x->v.blk≠some d:=fun hx h e=>by
  obtain ⟨ys,hy⟩:=hw1.row e;rw [h] at hy;exact hx _ (zQl hy)
 have hb2:=hf b _ (hnr (fun _ e=>by cases e) hb1) hb1;refine zL (v:=v') [.ref b 0 0 0,v'] hb2 (zQb List.length ho'.one.1) ((zQb (fun l=>List.all l AV.one) ho'.one.1).trans (by simp [ho'.one.2])) rfl (zQb (splice [AV.ref b 0 0 0,v] 1) ho'.one.1) ?_;exact wb_end hs1 hk1 hb2 ho' hO' (fun d x hd hx h=>hf d x (hnr hx h) h) hlt h0 rfl rfl
end
end Go.AM
set_option maxRecDepth 20000
namespace Go.AM
def WbH (C:CSpec):Prop:=∀ H0 b u c H,BAt H0 H b u->Old H0 H->u.length<=1000000->∃ H',C zj [bR b,zo c] H .nili H'/\BTo H0 H H' b (u++[c])
def WtH (C:CSpec):Prop:=∀ H0 b u t H,BAt H0 H b u->Old H0 H->u.length+t.length<=1000000->∃ H',C za [bR b,.str t] H (.tup [zK t.length,.nili]) H'/\BTo H0 H H' b (u++t)
def zGS:AF:={ zJd with keep:=true }
def wrQ (H0 H:Heap) (b:Nat) (u:Bs):AV->Heap->Prop:=fun v H'=>v=.tup []/\BTo H0 H H' b u
theorem KpB.push0 (b:Nat) (H:Heap) (x:ABlk):KpB b H (H++[x]):=(KpB.refl b H).push x
section
variable {C:CSpec} {GT:Nat->Option AV}
theorem write_num (hT:WtH C) (m:Nat) (hN:∀ H,C zIH [zK m] H (v3 1 m) H) (hS:∀ H,C zBl [v3 1 m] H (.str (zF1 m)) H) (H0:Heap) (b:Nat) (u:Bs) (H:Heap) (hB:BAt H0 H b u) (hO:Old H0 H) (hl:u.length+(zF1 m).length<=1000000) :
  zEy C GT zGS [bR b,ndV (zJ7 m)] H (wrQ H0 H b (u++zF1 m)):=by
 obtain ⟨H2,hw,h2⟩:=hT H0 b u (zF1 m) _ (hB.push (.box (ndV (zJ7 m)).cells)) (hO.push _) hl;clear hT;unfold zEy;refine sX ?_;exact zNE (zLF rfl rfl) ⟨rfl,h2.1,h2.2.1,(KpB.push0 b H _).trans h2.2.2⟩
theorem write_txt (hT:WtH C) (t:Bs) (hR:∀ H,C zBJ [.str t,.str [34],.str [34,34]] H (.str (esc t)) H) (H0:Heap) (b:Nat) (u:Bs) (H:Heap) (hB:BAt H0 H b u) (hO:Old H0 H) (hl:u.length+((esc t).length+2)<=1000000) :
  zEy C GT zGS [bR b,ndV (zHP t)] H (wrQ H0 H b (u++(34::esc t++[34]))):=by
 obtain ⟨H2,hw,h2⟩:=hT H0 b u (34::esc t++[34]) _ (hB.push (.box (ndV (zHP t)).cells)) (hO.push _) (by simp;omega);clear hT;unfold zEy;refine sX ?_;refine zBA (by simp;omega)<|zBA (by simp;omega)<|sX ?_
 exact zNE (zLF rfl rfl) ⟨rfl,h2.1,h2.2.1,(KpB.push0 b H _).trans h2.2.2⟩
theorem write_tru (hT:WtH C) (x:Bool) (hI:∀ H,C zCh [.bool x] H (v3 3 (if x=true then 1 else 0)) H) (hS:∀ H,C zBl [v3 3 (if x=true then 1 else 0)] H (.str (if x then zFz else zDY)) H) (H0:Heap) (b:Nat) (u:Bs) (H:Heap) (hB:BAt H0 H b u) (hO:Old H0 H) (hl:u.length+(if x then zFz else zDY:Bs).length<=1000000) :
  zEy C GT zGS [bR b,ndV (zE5 x)] H (wrQ H0 H b (u++(if x then zFz else zDY))):=by
 obtain ⟨H2,hw,h2⟩:=hT H0 b u (if x then zFz else zDY) _ (hB.push (.box (ndV (zE5 x)).cells)) (hO.push _) hl;clear hT;unfold zEy;refine sX ?_;have e:((if x=true then (1:Int) else 0)==1)=x:=by cases x <;> rfl
 cases x with
 |true=>
  refine sX ?_;exact zNE (zLF rfl rfl) ⟨rfl,h2.1,h2.2.1,(KpB.push0 b H _).trans h2.2.2⟩
 |false=>
  refine sX ?_;exact zNE (zLF rfl rfl) ⟨rfl,h2.1,h2.2.1,(KpB.push0 b H _).trans h2.2.2⟩
theorem write_bad (hT:WtH C) (k:Nat) (t:Bs) (hW:∀ H,C zCF [zK k] H (v3 4 k) H) (hS:∀ H,C zBl [v3 4 k] H (.str t) H) (H0:Heap) (b:Nat) (u:Bs) (H:Heap) (hB:BAt H0 H b u) (hO:Old H0 H) (hl:u.length+t.length<=1000000) :
  zEy C GT zGS [bR b,ndV (zHR k)] H (wrQ H0 H b (u++t)):=by
 obtain ⟨H2,hw,h2⟩:=hT H0 b u t _ (hB.push (.box (ndV (zHR k)).cells)) (hO.push _) hl;clear hT;unfold zEy;refine sX ?_;exact zNE (zLF rfl rfl) ⟨rfl,h2.1,h2.2.1,(KpB.push0 b H _).trans h2.2.2⟩
theorem write_ref (hT:WtH C) (r:RefP) (hN:∀ H,C zCO [rV r] H (.tup [.str (zD2 r),.nili]) H) (H0:Heap) (b:Nat) (u:Bs) (H:Heap) (hB:BAt H0 H b u) (hO:Old H0 H) (hl:u.length+(zD2 r).length<=1000000) (hb:b<H.length) :
  zEy C GT zGS [bR b,ndV (zBz r)] H (wrQ H0 H b (u++zD2 r)):=by
 obtain ⟨H2,hw,h2⟩:=hT H0 b u (zD2 r) _ (hB.push (.box (ndV (zBz r)).cells)) (hO.push _) hl;have hn2:H2[H.length]?=some (.box (ndV (zBz r)).cells):=h2.2.2.2 _ _ tO (by intro xs e;cases e) zB;clear hT;unfold zEy;refine sX ?_;exact zNE (zLF rfl rfl) ⟨rfl,h2.1,h2.2.1,(KpB.push0 b H _).trans h2.2.2⟩
end
end Go.AM
set_option maxRecDepth 20000
namespace Go.AM
def WrH (C:CSpec) (n:Nd):Prop:=∀ H0 b u H,BAt H0 H b u->Old H0 H->b<H.length->u.length+(txt n).length<=1000000->∃ H',C zCe [bR b,ndV n] H (.tup []) H'/\BTo H0 H H' b (u++txt n)
def BrH (C:CSpec) (n:Nd):Prop:=∀ x H0 b u H,BAt H0 H b u->Old H0 H->b<H.length->u.length+(brk x (txt n)).length<=1000000->∃ H',C zBb [bR b,ndV n,.bool x] H (.tup []) H'/\BTo H0 H H' b (u++brk x (txt n))
def zNM:AF:={ zGu with keep:=true }
theorem BAt.lt {H0 H:Heap} {b:Nat} {u:Bs} (h:BAt H0 H b u):b<H.length:=by
 obtain ⟨_,_,a,v,hb,_⟩:=h;exact (zg hb).1
section
variable {C:CSpec} {GT:Nat->Option AV}
theorem write_box (hT:WtH C) (r o:RefP) (hN:∀ H,C zCO [rV r] H (.tup [.str (zD2 r),.nili]) H) (hN2:∀ H,C zCO [rV o] H (.tup [.str (zD2 o),.nili]) H) (H0:Heap) (b:Nat) (u:Bs) (H:Heap) (hB:BAt H0 H b u) (hO:Old H0 H) (hl:u.length+(zD2 r++58::zD2 o).length<=1000000) (hb:b<H.length) :
  zEy C GT zGS [bR b,ndV (zAx r o)] H (wrQ H0 H b (u++(zD2 r++58::zD2 o))):=by
 simp only [zQR,zQO] at hl;obtain ⟨H2,hw,h2⟩:=hT H0 b u (zD2 r) _ (hB.push (.box (ndV (zAx r o)).cells)) (hO.push _) tO;have hn2:H2[H.length]?=some (.box (ndV (zAx r o)).cells):=h2.2.2.2 _ _ tO (by intro xs e;cases e) zB;obtain ⟨H3,hw3,h3⟩:=hT H0 b _ (58::zD2 o) _ h2.1 h2.2.1 (by simp;omega);clear hT;unfold zEy;refine sX ?_;refine zBA (by simp;omega)<|sX ?_
 rw [<-List.append_assoc];exact zNE (zLF rfl rfl) ⟨rfl,h3.1,h3.2.1,((KpB.push0 b H _).trans h2.2.2).trans h3.2.2⟩
theorem brackets_ev (hWb:WbH C) (n:Nd) (hW:WrH C n) (x:Bool) (H0:Heap) (b:Nat) (u:Bs) (H:Heap) (hB:BAt H0 H b u) (hO:Old H0 H) (hl:u.length+(brk x (txt n)).length<=1000000) (hb:b<H.length) :
  zEy C GT zNM [bR b,ndV n,.bool x] H (wrQ H0 H b (u++brk x (txt n))):=by
 cases x with
 |true=>
  have hl:u.length+((txt n).length+2)<=1000000:=by simpa [brk] using hl
  obtain ⟨H2,hw2,h2⟩:=hWb H0 b u 40 _ (hB.push (.box (ndV n).cells)) (hO.push _) tO;have hn2:H2[H.length]?=some (.box (ndV n).cells):=h2.2.2.2 _ _ tO (by intro xs e;cases e) zB;obtain ⟨H3,hw3,h3⟩:=hW H0 b _ _ h2.1 h2.2.1 h2.1.lt (by simp;omega);obtain ⟨H4,hw4,h4⟩:=hWb H0 b _ 41 _ h3.1 h3.2.1 (by simp;omega);have e:u++brk true (txt n)=u++[40]++txt n++[41]:=by simp [brk]
  rw [e];clear hWb hW;unfold zEy;refine sX ?_;exact zNE (zLF rfl rfl) ⟨rfl,h4.1,h4.2.1,(((KpB.push0 b H _).trans h2.2.2).trans h3.2.2).trans h4.2.2⟩
 |false=>
  obtain ⟨H3,hw3,h3⟩:=hW H0 b _ _ (hB.push (.box (ndV n).cells)) (hO.push _) (by rw [zQR];omega) hl;clear hWb hW;unfold zEy;refine sX ?_;exact zNE (zLF rfl rfl) ⟨rfl,h3.1,h3.2.1,(KpB.push0 b H _).trans h3.2.2⟩
end
end Go.AM
set_option maxRecDepth 20000
namespace Go.AM
theorem zCY {s:Bs} {a:Nat} {c:UInt8} {r:Bs} (h:s.drop a=c::r):s[a]?=some c/\s.drop (a+1)=r:=by
 have h1:(s.drop a)[0]?=some c:=by rw [h];rfl
 rw [zQ4,zSD] at h1;refine ⟨h1, ?_⟩;have:=zQb List.tail h
 rwa [List.tail_drop] at this
theorem zFN {s:Bs} {a:Nat} {x v:Bs} (h:s.drop a=x++v):s.drop (a+x.length)=v:=by
 rw [<-List.drop_drop,h,List.drop_left]
theorem drop_lt {s:Bs} {a:Nat} {c:UInt8} {r:Bs} (h:s.drop a=c::r):a<s.length:=(zg (zCY h).1).1
theorem zQH {s:Bs} {a:Nat} {x v:Bs} (h:s.drop a=x++v) (ha:a<=s.length):a+x.length<=s.length:=by
 have:=zQb List.length h;rw [zQp,zQR] at this;omega
theorem runL_app:∀ (x v:Bs),(∀ c∈x,zh c=true)->(∀ c,v.head?=some c->zh c=false)->runL (x++v)=x.length
 |[],[],_,_=>rfl
 |[],c::r,_,h=>by rw [zRC,runL,zQN (by rw [h c rfl];simp)];rfl
 |c::x,v,h,k=>by rw [zRF,runL,zQQ (h c (by simp)),runL_app x v (fun d hd=>h d (by simp [hd])) k];rfl
def Sep (v:Bs):Prop:=∀ c,v.head?=some c->zh c=false/\c≠34/\c≠40/\c≠58
theorem wordly_blank {c:UInt8} (h:zh c=true):c≠32/\c≠34/\c≠35:=by
 refine ⟨?_, ?_, ?_⟩ <;> (rintro rfl;revert h;decide)
theorem tok_nb {s:Bs} {a:Nat} {c:UInt8} {r:Bs} (h:s.drop a=c::r) (hc:c≠32):tok s a=zBg s a:=by
 unfold tok;rw [zDh (by rw [(zCY h).1];simpa using hc)]
theorem tok_finR {s:Bs} {a:Nat} (h:s.drop a=[]):tok s a=.fin:=by
 have h0:s[a]?=none:=zSB.2 (List.drop_eq_nil_iff.1 h);unfold tok;rw [zDh (by rw [h0];simp)];unfold zBg;rw [h0]
theorem tokAt_word {s:Bs} {a:Nat} {x v:Bs} (h:s.drop a=x++v) (hx:x≠[]) (hw:∀ c∈x,zh c=true) (hv:∀ c,v.head?=some c->zh c=false):zBg s a=.word (a+x.length) x:=by
 obtain ⟨c,r,rfl⟩:=zRM hx;have hc:=hw c (by simp);have hr:zDE s a=a+(c::r).length:=by unfold zDE;rw [h,runL_app _ _ hw hv]
 unfold zBg;rw [(zCY h).1];simp only;rw [zQQ hc,hr]
 congr 1
 unfold sub;rw [h,zR4,List.take_left]
theorem zG7 {s:Bs} {a:Nat} {x v:Bs} (h:s.drop a=x++v) (hx:x≠[]) (hw:∀ c∈x,zh c=true) (hv:∀ c,v.head?=some c->zh c=false):tok s a=.word (a+x.length) x:=by
 rw [<-tokAt_word h hx hw hv];obtain ⟨c,r,rfl⟩:=zRM hx;exact tok_nb h (wordly_blank (hw c (by simp))).1
theorem quo_esc:∀ (t v:Bs) (i:Nat),v.head?≠some 34->quo (esc t++34::v) i=some (t,i+(esc t).length+1)
 |[],[],i,_=>by simp [esc,quo]
 |[],d::v,i,h=>by
  have hd:d≠34:=fun e=>h (by rw [e];rfl);simp [esc,quo,hd]
 |c::t,v,i,h=>by
  have ih:=quo_esc t v;by_cases hc:c=34
  ·subst hc;simp only [esc,zQz,zRF];rw [quo,zQQ rfl,zQQ rfl,ih (i+2) h];simp only [zQg,zQT,zQd,zQO,true_and];omega
  ·simp only [esc,zQN hc,zRF];have hne:∃ d r,esc t++34::v=d::r:=zRM (by simp);obtain ⟨d,r,he⟩:=hne;have h1:=ih (i+1) h;rw [he] at h1 ⊢;rw [quo,zQN hc,h1];simp only [zQg,zQT,zQd,zQO,true_and];omega
theorem tok_txt_app {s:Bs} {a:Nat} {t v:Bs} (h:s.drop a=(34::esc t++[34])++v) (hv:v.head?≠some 34):tok s a=.txt (a+(34::esc t++[34]).length) t:=by
 have h':s.drop a=34::(esc t++34::v):=by rw [h];simp
 rw [tok_nb h' (by decide)];unfold zBg;rw [(zCY h').1];simp only;rw [zQN (by decide),zQQ trivial,(zCY h').2,quo_esc t v _ hv];simp only [zQR,zQO,zQV,zRF]
 congr 1
 omega
theorem badL_app (v:Bs):∀ k:Nat,1<=k->k<=6->zKk (wrongs.getD (k-1) []++v) wrongs 1=some (k,(wrongs.getD (k-1) []).length):=by
 intro k h1 h6;have:k=1\/k=2\/k=3\/k=4\/k=5\/k=6:=by omega
 rcases this with rfl|rfl|rfl|rfl|rfl|rfl <;> simp [wrongs,zKk]
theorem tok_bad_app {s:Bs} {a k:Nat} {v:Bs} (hk:1<=k/\k<=6) (h:s.drop a=wrongs.getD (k-1) []++v):tok s a=.bad (a+(wrongs.getD (k-1) []).length) k:=by
 have h35:∃ r,wrongs.getD (k-1) []=35::r:=by
  have:k=1\/k=2\/k=3\/k=4\/k=5\/k=6:=by omega
  rcases this with rfl|rfl|rfl|rfl|rfl|rfl <;> exact ⟨_,rfl⟩
 obtain ⟨r,hr⟩:=h35;have hb:=badL_app v k hk.1 hk.2;rw [<-h] at hb;rw [hr,zRF] at h;rw [tok_nb h (by decide)];unfold zBg;rw [(zCY h).1];simp only;rw [zQN (by decide),zQN (by decide),zQQ trivial,hb]
def oneB (c:UInt8) (v:Bs):Bool:=match v with
 |[]=>true
 |d::_=>!(decide ((c=60/\d=62)\/(c=60/\d=61)\/(c=62/\d=61)))
theorem zE4 {s:Bs} {a:Nat} {c:UInt8} {v:Bs} (h:s.drop a=c::v) (hc:c≠32/\zh c=false/\c≠34/\c≠35) (ho:oneB c v=true):tok s a=.sign (a+1) [c]:=by
 obtain ⟨h1,h2⟩:=zCY h;rw [tok_nb h hc.1];unfold zBg;rw [h1];simp only;rw [zQN (by rw [hc.2.1];simp),zQN hc.2.2.1,zQN hc.2.2.2];cases v with
 |nil=>
  have:s[a+1]?=none:=zSB.2 (List.drop_eq_nil_iff.1 h2);rw [this]
 |cons d r=>
  rw [(zCY h2).1];simp only;rw [zQN fun k=>?_];unfold oneB at ho;simp only [zQj k,Bool.not_true] at ho;cases ho
theorem tok_sign2_app {s:Bs} {a:Nat} {c d:UInt8} {v:Bs} (h:s.drop a=c::d::v) (ho:(c=60/\d=62)\/(c=60/\d=61)\/(c=62/\d=61)):tok s a=.sign (a+2) [c,d]:=by
 obtain ⟨h1,h2⟩:=zCY h;have hc:c=60\/c=62:=by rcases ho with h|h|h <;> simp [h.1]
 have hc2:c≠32/\zh c=false/\c≠34/\c≠35:=by rcases hc with rfl|rfl <;> decide
 rw [tok_nb h hc2.1];unfold zBg;rw [h1];simp only;rw [zQN (by rw [hc2.2.1];simp),zQN hc2.2.2.1,zQN hc2.2.2.2,(zCY h2).1];simp only;rw [zQQ ho]
def Beg (v:Bs):Prop:=∃ c r,v=c::r/\(zh c=true\/c=34\/c=35\/c=45\/c=40)
theorem op_app {s:Bs} {a op:Nat} {v:Bs} (hop:1<=op/\op<=11) (h:s.drop a=opT op++v) (hv:Beg v):zH1 s a=some (op,a+(opT op).length):=by
 obtain ⟨c,r,rfl,hc⟩:=hv;have h1:c≠61/\c≠62:=by
  refine ⟨?_, ?_⟩ <;> (rintro rfl;revert hc;decide)
 have k:op=1\/op=2\/op=3\/op=4\/op=5\/op=6\/op=7\/op=8\/op=9\/op=10\/op=11:=by omega
 have one:∀ x:UInt8,(x≠32/\zh x=false/\x≠34/\x≠35)->oneB x (c::r)=true:=fun x _=>by
  unfold oneB;simp [h1.1,h1.2]
 unfold zH1;rcases k with rfl|rfl|rfl|rfl|rfl|rfl|rfl|rfl|rfl|rfl|rfl
 all_goals first
  |(rw [zE4 (v:=c::r) h (by decide) (one _ (by decide))];rfl)
  |(rw [tok_sign2_app (v:=c::r) h (by decide)];rfl)
def Stop (l:Nat) (s:Bs) (a:Nat):Prop:=∀ op e,zH1 s a=some (op,e)->tight op<l
end Go.AM
