/- Texts of mine in one. Own work. -/
import Derived.Test.YtmfmhljpddpfnaaGreatDoorGAm23Am35
import Derived.Test.YtmfmhljpddpfnaaGreatDoorGWtcMg4
import Derived.Test.YtmfmhljpddpfnaaGreatDoorGOn1Rq4
import Derived.Test.YtmfmhljpddpfnaaGreatDoorLc
import Derived.Test.YtmfmhljpddpfnaaGreatDoorGRq5Alq
import Derived.Test.YtmfmhljpddpfnaaGreatDoorGGprWt3
import Derived.Test.YtmfmhljpddpfnaaGreatDoorGAlgBg3
set_option maxHeartbeats 8000000
set_option maxRecDepth 20000
set_option linter.all false
namespace Go.AM
def zQb (b:Bx) (r:Int):List (Int×Int):=(List.range (b.c1+1-b.c0).toNat).map fun j:Nat=>(b.c0+(j:Int),r)
def zCB (b:Bx):List (Int×Int):=(List.range (b.r1+1-b.r0).toNat).flatMap fun i:Nat=>zQb b (b.r0+(i:Int))
theorem zRo (b:Bx) (r:Int):(zQb b r).length=(b.c1+1-b.c0).toNat:=by unfold zQb;simp
theorem zO2 {b:Bx} (h:b.ok=true):1<=b.c0/\b.c0<=b.c1/\b.c1<=26/\1<=b.r0/\b.r0<=b.r1/\b.r1<=99:=by
 unfold Bx.ok okC at h;simp only [zTo,zoY] at h;omega
theorem zU6 (b:Bx) (n:Nat):((List.range n).flatMap fun i:Nat=>zQb b (b.r0+(i:Int))).length=n*(b.c1+1-b.c0).toNat:=by
 induction n with
 |zero=>simp
 |succ n ih=>rw [List.range_succ,zoG,zoP,ih];simp [zRo,Nat.succ_mul]
theorem zWV (b:Bx) (n:Nat):((List.range (n+1)).flatMap fun i:Nat=>zQb b (b.r0+(i:Int)))=((List.range n).flatMap fun i:Nat=>zQb b (b.r0+(i:Int)))++zQb b (b.r0+(n:Int)):=by
 rw [List.range_succ,zoG];simp
theorem zHq {b:Bx} (h:b.ok=true):(zCB b).length<=2574:=by
 have h:=zO2 h;unfold zCB;rw [zU6];have h1:(b.r1+1-b.r0).toNat<=99:=by omega
 have h2:(b.c1+1-b.c0).toNat<=26:=by omega
 exact zmK (znv h1 h2) zD_
theorem zMZ {b:Bx} (h:b.ok=true) {p:Int×Int} (hp:p∈zCB b):b.c0<=p.1/\p.1<=b.c1/\b.r0<=p.2/\p.2<=b.r1:=by
 have h:=zO2 h;unfold zCB zQb at hp;obtain ⟨i,hi,hp⟩:=znc.1 hp;obtain ⟨j,hj,rfl⟩:=zmf.1 hp;have hi:=znL.1 hi;have hj:=znL.1 hj;simp only;omega
section
variable {C:CSpec} {GT:zG_}
theorem zfk (hO:∀ c r H,C zFS [ze c r] H (.bool (okC c r)) H) (b:Bx) (H:Heap):EFun C GT zMl [bxV b] H (.bool b.ok) H:=by
 have h1:=hO b.c0 b.r0;have h2:=hO b.c1 b.r1;clear hO;unfold Bx.ok;cases e1:okC b.c0 b.r0 with
 |false=>
  rw [e1] at h1;cases e2:okC b.c1 b.r1 with
  |false=>
   rw [e2] at h2;refine zH<|zAV (x:=bxV b) rfl<|sW ?_
   exact sRv
  |true=>
   rw [e2] at h2;refine zH<|zAV (x:=bxV b) rfl<|sW ?_
   exact sRv
 |true=>
  rw [e1] at h1;cases e2:okC b.c1 b.r1 with
  |false=>
   rw [e2] at h2;refine zH<|zAV (x:=bxV b) rfl<|sW ?_
   exact sRv
  |true=>
   rw [e2] at h2;simp only [zmN];by_cases hc:b.c0<=b.c1
   ·rw [zoj hc,zmN];refine zH<|zAV (x:=bxV b) rfl<|sW ?_
    exact sRv
   ·rw [zop hc,zmW];refine zH<|zAV (x:=bxV b) rfl<|sW ?_
    exact sRv
theorem zcc (hO:∀ c r H,C zDW [ze c r] H (.bool (okC c r)) H) (b:Bx) (H:Heap):EFun C GT zI1 [bxV b] H (.bool b.ok) H:=by
 have h1:=hO b.c0 b.r0;have h2:=hO b.c1 b.r1;clear hO;unfold Bx.ok;cases e1:okC b.c0 b.r0 with
 |false=>
  rw [e1] at h1;cases e2:okC b.c1 b.r1 with
  |false=>
   rw [e2] at h2;refine zH<|zAV (x:=bxV b) rfl<|sW ?_
   exact sRv
  |true=>
   rw [e2] at h2;refine zH<|zAV (x:=bxV b) rfl<|sW ?_
   exact sRv
 |true=>
  rw [e1] at h1;cases e2:okC b.c1 b.r1 with
  |false=>
   rw [e2] at h2;refine zH<|zAV (x:=bxV b) rfl<|sW ?_
   exact sRv
  |true=>
   rw [e2] at h2;simp only [zmN];by_cases hc:b.c0<=b.c1
   ·rw [zoj hc,zmN];refine zH<|zAV (x:=bxV b) rfl<|sW ?_
    exact sRv
   ·rw [zop hc,zmW];refine zH<|zAV (x:=bxV b) rfl<|sW ?_
    exact sRv
end
def toX (b:Bx) (n:Nat):List (Int×Int):=(List.range n).flatMap fun i:Nat=>zQb b (b.r0+(i:Int))
theorem zTW (b:Bx) (r:Int) (j:Nat) (h:j<(b.c1+1-b.c0).toNat):(zQb b r).take (j+1)=(zQb b r).take j++[(b.c0+(j:Int),r)]:=by
 have:(zQb b r)[j]?=some (b.c0+(j:Int),r):=by unfold zQb;rw [zoX,zmb h];rfl
 rw [znw,this];rfl
section
variable {C:CSpec} {GT:zG_}
theorem zcd (b:Bx) (hb:b.ok=true) (H:Heap):EFun C GT zI3 [bxV b] H (zJ7 2 ((zCB b).map cV)) H:=by
 have hk:=zO2 hb;have hcl:=zHq hb;obtain ⟨m,hm⟩:∃ m,(b.r1+1-b.r0).toNat=m:=⟨_,rfl⟩;obtain ⟨n,hn⟩:∃ n,(b.c1+1-b.c0).toNat=n:=⟨_,rfl⟩;have htl:∀ i,(toX b i).length=i*n:=fun i=>by rw [<-hn];exact zU6 b i
 have hmn:m<=99/\n<=26:=by omega
 have hall:toX b m=zCB b:=by rw [<-hm];rfl
 have hmul:∀ i,i<=m->i*n<=2574:=fun i h=>zmK (znv (zmK h hmn.1) hmn.2) zD_;refine zH<|zAV (x:=bxV b) rfl<|sW ?_;refine zAr (fun x:Nat×AV=>[(4,zK (b.r0+(x.1:Int))),(3,x.2),(1,.ref H.length 0 0 0)]) (fun x H'=>Old (H++[ABlk.box (bxV b).cells]) H'/\x.1<=m/\Owns (H++[ABlk.box (bxV b).cells]) H' x.2 2 ((toX b x.1).map cV)) (fun x=>m-x.1) (0,.lst (some true) 0 []) (by simp;rfl) ⟨Old.refl _,by simp,.inl ⟨rfl,by simp [toX]⟩⟩ (fun x H1 hi=>?_)
 obtain ⟨i,out⟩:=x;obtain ⟨hO,hi,ho⟩:=hi;dsimp only at hi ho ⊢;have hbx:H1[H.length]?=some (.box (bxV b).cells):=zFB hO zB;by_cases hlt:i<m
 case neg=>
  have e:i=m:=by omega
  subst e;rw [hall] at ho;have hOH:Old H H1:=((Old.refl H).push _).trans hO;obtain ⟨H5,hf5,hO5,_⟩:=(ho.weaken (H0:=H) zS_).frz hOH;refine sW ?_;exact zIw rfl rfl hf5 (zNU _ _ _) hO5
 have hil:=htl i;have hml:=hmul i tO;have hrow:(zQb b (b.r0+(i:Int))).length=n:=by rw [zRo,hn]
 have hsucc:toX b (i+1)=toX b i++zQb b (b.r0+(i:Int)):=zWV b i;refine sW ?_;refine zAr (fun y:Nat×AV=>[(5,zK (b.c0+(y.1:Int))),(4,zK (b.r0+(i:Int))),(3,y.2),(1,.ref H.length 0 0 0)]) (fun y H'=>Old (H++[ABlk.box (bxV b).cells]) H'/\y.1<=n/\Owns (H++[ABlk.box (bxV b).cells]) H' y.2 2 ((toX b i++(zQb b (b.r0+(i:Int))).take y.1).map cV)) (fun y=>n-y.1) (0,out) (by simp;rfl) ⟨hO,by simp,by simpa using ho⟩ (fun y H2 hj=>?_);obtain ⟨j,out2⟩:=y;obtain ⟨hO2,hj,ho2⟩:=hj;dsimp only at hj ho2 ⊢;have hbx2:H2[H.length]?=some (.box (bxV b).cells):=zFB hO2 zB;by_cases hjl:j<n
 case neg=>
  have e:j=n:=by omega
  subst e;rw [zox tO,<-hsucc] at ho2;have w1:IntKind.i64.wrap (b.r0+(i:Int)+1)=b.r0+((i+1:Nat):Int):=by rw [IntKind.wrap_i64];omega
  refine sW ?_;refine zCl w1 ?_;exact zAJ (i+1,out2) rfl ⟨hO2,by simp only;omega,ho2⟩ (by simp only;omega)
 have htk:=zTW b (b.r0+(i:Int)) j tO;have w2:IntKind.i64.wrap (b.c0+(j:Int)+1)=b.c0+((j+1:Nat):Int):=by rw [IntKind.wrap_i64];omega
 refine sW ?_;refine zAA (vs':=[cV (b.c0+(j:Int),b.r0+(i:Int))]) rfl rfl ?_;refine zA0 (H0:=H++[ABlk.box (bxV b).cells]) (ho2.push _) (hO2.push _) zAR tO (by simp only [zoU,zoP,zon,zoN,zoT];omega) zS_ (fun v2 H4 ho4 hO4 _ hfr=>?_);refine zCl w2 ?_;refine zAJ (j+1,v2) rfl ⟨hO4,by simp only;omega, ?_⟩ (by simp only;omega);simp only;rw [htk,<-List.append_assoc,zov];exact ho4
theorem zfl (b:Bx) (hb:b.ok=true) (hB:∀ H,C zFR [bxV b] H (.bool b.ok) H) (H:Heap):EFun C GT zI6 [bxV b] H (.tup [zJ7 2 ((zCB b).map cV),.nili]) H:=by
 have hk:=zO2 hb;have hcl:=zHq hb;obtain ⟨m,hm⟩:∃ m,(b.r1+1-b.r0).toNat=m:=⟨_,rfl⟩;obtain ⟨n,hn⟩:∃ n,(b.c1+1-b.c0).toNat=n:=⟨_,rfl⟩;have htl:∀ i,(toX b i).length=i*n:=fun i=>by rw [<-hn];exact zU6 b i
 have hmn:m<=99/\n<=26:=by omega
 have hall:toX b m=zCB b:=by rw [<-hm];rfl
 have hmul:∀ i,i<=m->i*n<=2574:=fun i h=>zmK (znv (zmK h hmn.1) hmn.2) zD_;rw [hb] at hB;refine zH<|zAV (x:=bxV b) rfl<|sW ?_;refine zAr (fun x:Nat×AV=>[(5,zK (b.r0+(x.1:Int))),(4,x.2),(1,.ref H.length 0 0 0)]) (fun x H'=>Old (H++[ABlk.box (bxV b).cells]) H'/\x.1<=m/\Owns (H++[ABlk.box (bxV b).cells]) H' x.2 2 ((toX b x.1).map cV)) (fun x=>m-x.1) (0,.lst (some true) 0 []) (by simp;rfl) ⟨Old.refl _,by simp,.inl ⟨rfl,by simp [toX]⟩⟩ (fun x H1 hi=>?_)
 obtain ⟨i,out⟩:=x;obtain ⟨hO,hi,ho⟩:=hi;dsimp only at hi ho ⊢;have hbx:H1[H.length]?=some (.box (bxV b).cells):=zFB hO zB;by_cases hlt:i<m
 case neg=>
  have e:i=m:=by omega
  subst e;rw [hall] at ho;have hOH:Old H H1:=((Old.refl H).push _).trans hO;obtain ⟨H5,hf5,hO5,_⟩:=(ho.weaken (H0:=H) zS_).frz hOH;refine sW ?_;exact zIw rfl rfl (zJZ hf5 fun _=>rfl) (zfQ _ _ _) hO5
 have hil:=htl i;have hml:=hmul i tO;have hrow:(zQb b (b.r0+(i:Int))).length=n:=by rw [zRo,hn]
 have hsucc:toX b (i+1)=toX b i++zQb b (b.r0+(i:Int)):=zWV b i;refine sW ?_;refine zAr (fun y:Nat×AV=>[(6,zK (b.c0+(y.1:Int))),(5,zK (b.r0+(i:Int))),(4,y.2),(1,.ref H.length 0 0 0)]) (fun y H'=>Old (H++[ABlk.box (bxV b).cells]) H'/\y.1<=n/\Owns (H++[ABlk.box (bxV b).cells]) H' y.2 2 ((toX b i++(zQb b (b.r0+(i:Int))).take y.1).map cV)) (fun y=>n-y.1) (0,out) (by simp;rfl) ⟨hO,by simp,by simpa using ho⟩ (fun y H2 hj=>?_);obtain ⟨j,out2⟩:=y;obtain ⟨hO2,hj,ho2⟩:=hj;dsimp only at hj ho2 ⊢;have hbx2:H2[H.length]?=some (.box (bxV b).cells):=zFB hO2 zB;by_cases hjl:j<n
 case neg=>
  have e:j=n:=by omega
  subst e;rw [zox tO,<-hsucc] at ho2;have w1:IntKind.i64.wrap (b.r0+(i:Int)+1)=b.r0+((i+1:Nat):Int):=by rw [IntKind.wrap_i64];omega
  refine sW ?_;refine zCl w1 ?_;exact zAJ (i+1,out2) rfl ⟨hO2,by simp only;omega,ho2⟩ (by simp only;omega)
 have htk:=zTW b (b.r0+(i:Int)) j tO;have w2:IntKind.i64.wrap (b.c0+(j:Int)+1)=b.c0+((j+1:Nat):Int):=by rw [IntKind.wrap_i64];omega
 refine sW ?_;refine zAA (vs':=[cV (b.c0+(j:Int),b.r0+(i:Int))]) rfl rfl ?_;refine zA0 (H0:=H++[ABlk.box (bxV b).cells]) (ho2.push _) (hO2.push _) zAR tO (by simp only [zoU,zoP,zon,zoN,zoT];omega) zS_ (fun v2 H4 ho4 hO4 _ hfr=>?_);refine zCl w2 ?_;refine zAJ (j+1,v2) rfl ⟨hO4,by simp only;omega, ?_⟩ (by simp only;omega);simp only;rw [htk,<-List.append_assoc,zov];exact ho4
theorem zfm (b:Bx) (hb:b.ok=false) (hB:∀ H,C zFR [bxV b] H (.bool b.ok) H) (H:Heap):EFun C GT zI6 [bxV b] H (.tup [.lst (some true) 0 [],zFo 1]) H:=by
 rw [hb] at hB;refine zH<|zAV (x:=bxV b) rfl<|sW ?_
 exact sRv
end
theorem zk2 {H:Heap} {K:AV->Heap->Prop} (q:K (.mp H.length) (H++[.mp [] []])):actP .mkmap [] H K:=zMj rfl q
theorem sMset {b:Nat} {ks:List (Int×Int)} {vs:List AV} {p:Int×Int} {v kv:AV} {H:Heap} {K:AV->Heap->Prop} (hb:H[b]?=some (.mp ks vs)) (hk:zWZ kv=some p) (hn:v.noRef=true) {ks':List (Int×Int)} {vs':List AV} (hp:mput p v ks vs=(ks',vs'))
  (q:K .undef (H.set b (.mp ks' vs'))):actP .mset [.mp b,kv,v] H K:=zMj (by simp only [astep,zcx,hb,hk,hn,zoz,zoe,hp]) q
theorem zk3 {m kv r z:AV} {ok:Bool} {H:Heap} {K:AV->Heap->Prop} (h:zWa H z ok m kv=some r) (q:K r H):actP (.mget z ok) [m,kv] H K:=zMj (by simp only [astep,h,zoe]) q
theorem zk4 {n0 b:Nat} {H:Heap} {ks:List (Int×Int)} {vs:List AV} (hb:n0<=b) (h:H[b]?=some (.mp ks vs)):zDm n0 (.mp b) H=some (.mps ks vs,H.set b .dead):=by
 simp only [zDm];rw [zWl tO,h]
theorem zWW {p:Int×Int}:∀ {ks:List (Int×Int)},p ∉ ks->mfind p ks=none
 |[],_=>rfl
 |x::ks,h=>by
  simp only [zmG,not_or] at h;unfold mfind;rw [zWl h.1,zWW h.2];rfl
def txV (f:Fil):AV:=.str f.text
theorem zce (l:List Fil) (p:Int×Int):(match mfind p (l.map zO8) with
  |some i=>((l.map txV)[i]?).map fun v=>if false then AV.tup [v,.bool true] else v
  |none=>some (if false then AV.tup [.str [],.bool false] else .str []))=some (.str (zCA l p)):=by
 induction l with
 |nil=>rfl
 |cons f r ih=>
  simp only [zoa,mfind,zCA];by_cases h:p=zO8 f
  ·rw [zoQ h,zoQ h];rfl
  ·rw [zWl h,zWl h];cases hm:mfind p (r.map zO8) with
   |none=>rw [hm] at ih;exact ih
   |some i=>rw [hm] at ih;exact ih
theorem zYR {H:Heap} {m:AV} {l:List Fil} (hm:mview H m=some (l.map zO8,l.map txV)) (c r:Int):zWa H (.str []) false m (ze c r)=some (.str (zCA l (c,r))):=by
 have e:zWZ (ze c r)=some (c,r):=rfl;unfold zWa;rw [hm];simp only [e];exact zce l (c,r)
theorem zfn {l:List Fil} {f:Fil} (h:Srtd (l++[f])):mput (zO8 f) (txV f) (l.map zO8) (l.map txV)=((l++[f]).map zO8,(l++[f]).map txV):=by
 have hp:=zoC.1 h;have hn:zO8 f ∉ l.map zO8:=fun hm=>by
  obtain ⟨g,hg,e⟩:=zmf.1 hm;have:=hp.2.2 g hg f zS_;have e1:g.col=f.col:=zod Prod.fst e;have e2:g.row=f.row:=zod Prod.snd e;omega
 unfold mput;rw [zWW hn];simp
def zL1 (b:Bx) (c r:Int):Bool:=b.ok&&(okC c r&&(decide (c+b.c1-b.c0<=26)&&decide (r+b.r1-b.r0<=99)))
def shX (b:Bx) (c r:Int):List (Int×Int):=(zCB b).map fun p=>(p.1+(c-b.c0),p.2+(r-b.r0))
theorem zYS {b:Bx} (h:b.ok=true):(b.c1,b.r1)∈zCB b:=by
 have h:=zO2 h;unfold zCB;refine znc.2 ⟨(b.r1-b.r0).toNat,znL.2 tO, ?_⟩;unfold zQb;refine zmf.2 ⟨(b.c1-b.c0).toNat,znL.2 tO, ?_⟩;exact Prod.ext (by show b.c0+((b.c1-b.c0).toNat:Int)=b.c1;omega) (by show b.r0+((b.r1-b.r0).toNat:Int)=b.r1;omega)
theorem zib {b:Bx} {c r:Int} (h1:b.ok=true) (h2:okC c r=true):zL1 b c r=true↔∀ p∈zCB b,okC (p.1+(c-b.c0)) (p.2+(r-b.r0))=true:=by
 have hb:=zO2 h1;have ht:=(zHI c r).1 h2;unfold zL1;rw [h1,h2];simp only [zmN,zTo,zoY];constructor
 ·intro ⟨h3,h4⟩ p hp;have:=zMZ h1 hp;rw [zHI];omega
 ·intro h;have:=(zHI _ _).1 (h _ (zYS h1));simp only at this;omega
section
variable {C:CSpec} {GT:zG_}
theorem zfo (lv:AV) (l:List Fil) (H:Heap) (hv:view H 3 lv=some (l.map zf)) (hs:Srtd l) (hl:l.length<=1000):EFun C GT zKB [lv] H (.mps (l.map zO8) (l.map txV)) H:=by
 have hlm:(l.map zf).length=l.length:=zoU _;have hv0:=zHx ((Old.refl H).push [ABlk.mp [] []]) hv;refine zH<|zk2<|zjD l.length hv0 hlm ?_;refine zAr (fun i:Nat=>[(9,zL i),(3,.mp H.length),(7,lv),(8,zL l.length)]) (fun i H'=>Old H H'/\i<=l.length/\H'[H.length]?=some (.mp ((l.take i).map zO8) ((l.take i).map txV))) (fun i=>l.length-i) 0 rfl ⟨(Old.refl H).push _,by simp,zB⟩ (fun i H1 hi=>?_)
 obtain ⟨hO,hi,hb⟩:=hi;dsimp only;have hv1:=zHx hO hv;by_cases hlt:i<l.length
 ·obtain ⟨g,hg⟩:∃ g,l[i]?=some g:=⟨_,zoO hlt⟩;have hgm:(l.map zf)[i]?=some (zf g):=by rw [zoX,hg];rfl
  have htk:l.take (i+1)=l.take i++[g]:=by rw [znw,hg];rfl
  have hput:=zfn (l:=l.take i) (f:=g) (by rw [<-htk];exact hs.sublist (List.take_sublist _ _));rw [<-htk] at hput;have hbl:=(zl_ hb);refine sW ?_;refine zLM i (zf g) hv1 rfl hgm (fun p hp=>?_);refine zAe (zf g) hp rfl<|sS (zf g) (AV.cells (zf g)) ?_;refine sW ?_;refine sMset (zE tO (zG hb)) rfl rfl hput<|zQ (r:=i+1) rfl tO ?_;refine zAJ (i+1) rfl ⟨((hO.push _).set hO.1 _).set (zoR _) _,by omega, ?_⟩ tO
  exact zOc (by simp;omega)
 ·have he:l.take i=l:=zox tO;rw [he] at hb;refine sW ?_;exact zIw rfl rfl (zk4 (zoR _) hb) rfl (hO.set (zoR _) _)
theorem zic (v:AV) (l:List Fil) (hv:zCS v 3 (l.map zf)) (hl:l.length<=200) (H:Heap):EFun C GT zKg [v] H (.tup [v,.nili]) H:=by
 obtain ⟨q,k,rfl,hk⟩:=hv;have hv:zCS (.lst q k (l.map zf)) 3 (l.map zf):=⟨q,k,rfl,hk⟩;have hlm:(l.map zf).length=l.length:=zoU _;refine zH<|zAk l.length hv hlm<|sW ?_
 exact sRv
theorem zid (v:AV) (l:List Fil) (hv:zCS v 3 (l.map zf)) (hl:200<l.length) (H:Heap):EFun C GT zKg [v] H (.tup [.lst (some true) 0 [],zFo 4]) H:=by
 have hlm:(l.map zf).length=l.length:=zoU _;refine zH<|zAk l.length hv hlm<|sW ?_
 exact sRv
theorem zYT (hCe:∀ b,b.ok=true->∀ H,C zGe [bxV b] H (.tup [zJ7 2 ((zCB b).map cV),.nili]) H) (hCn:∀ b,b.ok=false->∀ H,C zGe [bxV b] H (.tup [.lst (some true) 0 [],zFo 1]) H)
  (hK:∀ c r H,C zAg [ze c r] H (if okC c r=true then .nili else zFo 1) H) (b:Bx) (c r:Int) (H:Heap) (R:AV) (hR1:zL1 b c r=true->.tup [zJ7 2 ((zCB b).map cV),zJ7 2 ((shX b c r).map cV),.nili]=R) (hR0:zL1 b c r=false->.tup [.lst (some true) 0 [],.lst (some true) 0 [],zFo 1]=R) :
  EFun C GT zKA [bxV b,ze c r] H R H:=by
 have hk0:=hK c r;cases hb:b.ok with
 |false=>
  have hc:=hCn b hb;obtain rfl:=hR0 (by unfold zL1;rw [hb];rfl);clear hCe hCn hK hk0;refine zH<|zAV (x:=bxV b) rfl<|zAV (x:=ze c r) rfl<|sW ?_
  exact sRv
 |true=>
  have hc:=hCe b hb;have hcl:=zHq hb;have hbk:=zO2 hb;cases ho:okC c r with
  |false=>
   rw [ho] at hk0;have hk0:∀ H,C zAg [ze c r] H (zFo 1) H:=hk0;obtain rfl:=hR0 (by unfold zL1;rw [hb,ho];rfl);clear hCe hCn hK;refine zH<|zAV (x:=bxV b) rfl<|zAV (x:=ze c r) rfl<|sW ?_
   exact sRv
  |true=>
   rw [ho] at hk0;have hk0:∀ H,C zAg [ze c r] H .nili H:=hk0;have kOk:∀ c r,okC c r=true->∀ H,C zAg [ze c r] H .nili H:=fun c r h H=>by have:=hK c r H;rwa [zoQ h] at this
   have kNo:∀ c r,okC c r=false->∀ H,C zAg [ze c r] H (zFo 1) H:=fun c r h H=>by have:=hK c r H;rwa [zWl (by rw [h];simp)] at this
   have hma:=zib hb ho;have hto:=(zHI c r).1 ho;have hmem:=fun p (hp:p∈zCB b)=>zMZ hb hp;have hsh:∀ i p,(zCB b)[i]?=some p->(shX b c r).take (i+1)=(shX b c r).take i++[(p.1+(c-b.c0),p.2+(r-b.r0))]:=fun i p hp=>by
    have:(shX b c r)[i]?=some (p.1+(c-b.c0),p.2+(r-b.r0)):=by unfold shX;rw [zoX,hp];rfl
    rw [znw,this];rfl
   have hshl:(shX b c r).length=(zCB b).length:=by unfold shX;simp
   obtain ⟨S,hS⟩:∃ S,shX b c r=S:=⟨_,rfl⟩;obtain ⟨L,hL⟩:∃ L,zCB b=L:=⟨_,rfl⟩;rw [hS] at hsh hR1 hshl;rw [hL] at hc hcl hsh hR1 hma hmem hshl;have hLm:(L.map cV).length=L.length:=zoU _;have fl:=fun n H=>(by cases (L.map cV) <;> rfl:zDm n (zJ7 2 (L.map cV)) H=some (zJ7 2 (L.map cV),H));obtain ⟨lv,hlv⟩:∃ lv,zJ7 2 (L.map cV)=lv:=⟨_,rfl⟩;have hlO:zCS lv 2 (L.map cV):=hlv ▸ zQs _ _;have hlb:∀ n,lv.bel n=true:=fun n=>hlv ▸ zNU _ _ _;rw [hlv] at hc hR1 fl;clear hCe hCn hK;refine zH<|zAV (x:=bxV b) rfl<|zAV (x:=ze c r) rfl<|sW ?_;refine zAk L.length hlO hLm ?_
   obtain ⟨Hs,hHs⟩:∃ Hs,(H++[ABlk.box (bxV b).cells])++[ABlk.box (ze c r).cells]=Hs:=⟨_,rfl⟩;obtain ⟨b3,hb3⟩:∃ b3,(H++[ABlk.box (bxV b).cells]).length=b3:=⟨_,rfl⟩;have hOs:Old H Hs:=hHs ▸ ((Old.refl H).push _).push _;have g2:Hs[H.length]?=some (.box (bxV b).cells):=hHs ▸ zG zB;have g3:Hs[b3]?=some (.box (ze c r).cells):=hHs ▸ hb3 ▸ zB;rw [hHs,hb3];clear hHs hb3;refine zAr (fun x:Nat×AV=>[(23,zL x.1),(5,x.2),(2,.ref H.length 0 0 0),(3,.ref b3 0 0 0),(21,lv),(4,lv),(22,zL L.length)]) (fun x H'=>Old Hs H'/\x.1<=L.length/\Owns Hs H' x.2 2 ((S.take x.1).map cV)/\∀ j p,j<x.1->L[j]?=some p->okC (p.1+(c-b.c0)) (p.2+(r-b.r0))=true) (fun x=>L.length-x.1) (0,.lst (some true) 0 []) rfl ⟨Old.refl _,by simp,.inl ⟨rfl,by simp⟩,fun j p h=>absurd h (zmU _)⟩ (fun x H1 hi=>?_);obtain ⟨i,out⟩:=x;obtain ⟨hO,hi,ho,hall⟩:=hi;dsimp only at hi ho hall ⊢;have k2:H1[H.length]?=some (.box (bxV b).cells):=zFB hO g2;have k3:H1[b3]?=some (.box (ze c r).cells):=zFB hO g3;have hOH:Old H H1:=hOs.trans hO;have lt2:=(zl_ k2);have lt3:=(zl_ k3);by_cases hlt:i<L.length
   case neg=>
    have e:i=L.length:=by omega
    subst e;have hm:zL1 b c r=true:=hma.2 fun p hp=>by
     obtain ⟨j,hj⟩:=zo6 hp;exact hall j p (zl_ hj) hj
    obtain rfl:=hR1 hm;rw [show S.take L.length=S from zox tO] at ho;obtain ⟨H5,hf5,hO5,_⟩:=(ho.weaken hOs.1).frz hOH;refine sW ?_;exact zIw (v0:=.tup [lv,out,.nili]) rfl rfl (by simp only [zDm,zKR,fl,hf5]) (by simp [AV.bel,AV.belL,zNU,hlb]) hO5
   obtain ⟨p,hp⟩:∃ p,L[i]?=some p:=⟨_,zoO hlt⟩;have hpm:(L.map cV)[i]?=some (cV p):=by rw [zoX,hp];rfl
   have hsi:=hsh i p hp;have hpb:=hmem p (zoc hp);have w1:IntKind.i64.wrap (c-b.c0)=c-b.c0:=by rw [IntKind.wrap_i64];omega
   have w3:IntKind.i64.wrap (r-b.r0)=r-b.r0:=by rw [IntKind.wrap_i64];omega
   have kp:∀ H,okC (p.1+(c-b.c0)) (p.2+(r-b.r0))=true->C zAg [cV (p.1+(c-b.c0),p.2+(r-b.r0))] H .nili H:=fun H h=>kOk _ _ h H;have kq:∀ H,okC (p.1+(c-b.c0)) (p.2+(r-b.r0))=false->C zAg [cV (p.1+(c-b.c0),p.2+(r-b.r0))] H (zFo 1) H:=fun H h=>kNo _ _ h H;have hstep:okC (p.1+(c-b.c0)) (p.2+(r-b.r0))=true->∀ j q,j<i+1->L[j]?=some q->okC (q.1+(c-b.c0)) (q.2+(r-b.r0))=true:=fun h j q hj hq=>by
    by_cases e:j=i
    ·subst e;rw [hp] at hq;cases hq;exact h
    ·exact hall j q tO hq
   have hbad:okC (p.1+(c-b.c0)) (p.2+(r-b.r0))=false->zL1 b c r=false:=fun h=>by
    cases hm:zL1 b c r with
    |false=>rfl
    |true=>have:=hma.1 hm p (zoc hp);rw [h] at this;cases this
   clear kOk kNo hsh hall hma hmem;obtain ⟨u,hu⟩:∃ u,p.1+(c-b.c0)=u:=⟨_,rfl⟩;obtain ⟨v,hv⟩:∃ v,p.2+(r-b.r0)=v:=⟨_,rfl⟩;have w2:IntKind.i64.wrap (p.1+(c-b.c0))=u:=by rw [IntKind.wrap_i64];omega
   have w4:IntKind.i64.wrap (p.2+(r-b.r0))=v:=by rw [IntKind.wrap_i64];omega
   rw [hu] at kp kq hstep hbad hsi;rw [hv] at kp kq hstep hbad hsi;refine sW ?_;refine zBg i (cV p) hlO rfl hpm<|sW ?_
   cases hok:okC u v with
   |false=>
    have kq:=fun H=>kq H hok;obtain rfl:=hR0 (hbad hok);clear kp;refine sS (cV p) (AV.cells (cV p)) ?_;refine sW ?_;refine zCl w1<|zCl w2<|sS (zK u) [zK u,zK p.2] ?_;refine sW ?_;refine zCl w3<|zCl w4<|sS (zK v) [zK u,zK v] ?_;refine sW ?_
    exact zAQ rfl rfl rfl rfl ((((hOH.push _).set tA _).set tA _).set tA _)
   |true=>
    have kp:=fun H=>kp H hok;have hstep:=hstep hok;clear kq hbad;refine sS (cV p) (AV.cells (cV p)) ?_;refine sW ?_;refine zCl w1<|zCl w2<|sS (zK u) [zK u,zK p.2] ?_;refine sW ?_;refine zCl w3<|zCl w4<|sS (zK v) [zK u,zK v] ?_;refine sW ?_;refine zAA (vs':=[cV (u,v)]) rfl rfl ?_;refine zA0 (H0:=Hs) ((((ho.pushSet _ _).set (fun e=>by have:=(ho.lt e).2;omega) _).set (fun e=>by have:=(ho.lt e).2;omega) _).push _) ((((hO.pushSet _ _).set hO.1 _).set hO.1 _).push _) zAR tO (by simp only [zoU,zon,zoN,zoT];omega) zS_ (fun v2 H4 ho4 hO4 _ hfr=>?_)
    refine zQ (r:=i+1) rfl tO ?_;refine zAJ (i+1,v2) rfl ⟨hO4,by simp only;omega, ?_,hstep⟩ (by simp only;omega);simp only;rw [hsi,zov];exact ho4
theorem zk5 (n:Int) (h:-1000<=n/\n<=1000) (H:Heap):EFun C GT zP1 [zK n] H (.bool false) H:=by
 have e1:decide (n>1000)=false:=tF;have e2:decide (n < -1000)=false:=tF;refine zH<|sX ?_
 exact zMB (v0:=.bool (decide (n < -1000))) (by rw [e2]) rfl rfl rfl rfl hO
theorem zfp (hO:∀ c r H,C zFS [ze c r] H (.bool (okC c r)) H) (hF:∀ n,-1000<=n/\n<=1000->∀ H,C zJg [zK n] H (.bool false) H) (r:RefP) (h:okR r) (cols rows:Int) (hc:-1000<=cols/\cols<=1000) (hr:-1000<=rows/\rows<=1000) (H:Heap) :
  EFun C GT zMq [rV r,zK cols,zK rows] H (.tup [rV ((inR (zLu cols rows r)).getD noRef),.bool (inR (zLu cols rows r)).isSome]) H:=by
 obtain ⟨c,w,fc,fr⟩:=r;have hk:=(zLt _).2 h;obtain ⟨h1,h2,h3,h4⟩:=h;have hk:okC c w=true:=hk;simp only at h1 h2 h3 h4;have w1:IntKind.i64.wrap (c+cols)=c+cols:=by rw [IntKind.wrap_i64];omega
 have w2:IntKind.i64.wrap (w+rows)=w+rows:=by rw [IntKind.wrap_i64];omega
 have f1:=hF cols hc;have f2:=hF rows hr;have o1:=hO c w;rw [hk] at o1;clear hF;cases fc with
 |true=>
  cases fr with
  |true=>
   have o2:=hO c w;have ei:inR (zLu cols rows ⟨c,w,true,true⟩)=if okC c w then some ⟨c,w,true,true⟩ else none:=rfl
   clear hO;rw [ei];refine zH ?_;cases e:okC c w with
   |true=>
    rw [e] at o2;refine sX ?_;refine sSA (rV { col:=c,row:=w,fc:=true,fr:=true }) ?_;exact zj (o:=0) rfl rfl (zJ hP) rfl rfl rfl rfl hO
   |false=>grind
  |false=>
   have o2:=hO c (w+rows);have ei:inR (zLu cols rows ⟨c,w,true,false⟩)=if okC c (w+rows) then some ⟨c,(w+rows),true,false⟩ else none:=rfl
   clear hO;rw [ei];refine zH ?_;cases e:okC c (w+rows) with
   |true=>
    rw [e] at o2;refine sX ?_;refine zCl w2<|zM [.int .i64 c,.int .i64 (w+rows),.bool true,.bool false] hP rfl rfl rfl rfl<|sX ?_;refine zM [.int .i64 c,.int .i64 (w+rows),.bool true,.bool false] hP rfl rfl rfl rfl ?_
    exact zj (o:=0) rfl rfl (zJ hP) rfl rfl rfl rfl hO
   |false=>
    rw [e] at o2;refine sX ?_;refine zCl w2<|zM [.int .i64 c,.int .i64 (w+rows),.bool true,.bool false] hP rfl rfl rfl rfl<|sX ?_;refine sSA (.agg zP) ?_
    exact zj (o:=0) rfl rfl (zJ hP) rfl rfl rfl rfl hO
 |false=>
  cases fr with
  |true=>
   have o2:=hO (c+cols) w;have ei:inR (zLu cols rows ⟨c,w,false,true⟩)=if okC (c+cols) w then some ⟨(c+cols),w,false,true⟩ else none:=rfl
   clear hO;rw [ei];refine zH ?_;cases e:okC (c+cols) w with
   |true=>
    rw [e] at o2;refine sX ?_;refine zCl w1<|zM [.int .i64 (c+cols),.int .i64 w,.bool false,.bool true] hP rfl rfl rfl rfl<|sX ?_;refine zM [.int .i64 (c+cols),.int .i64 w,.bool false,.bool true] hP rfl rfl rfl rfl ?_
    exact zj (o:=0) rfl rfl (zJ hP) rfl rfl rfl rfl hO
   |false=>
    rw [e] at o2;refine sX ?_;refine zCl w1<|zM [.int .i64 (c+cols),.int .i64 w,.bool false,.bool true] hP rfl rfl rfl rfl<|sX ?_;refine sSA (.agg zP) ?_
    exact zj (o:=0) rfl rfl (zJ hP) rfl rfl rfl rfl hO
  |false=>
   have o2:=hO (c+cols) (w+rows);have ei:inR (zLu cols rows ⟨c,w,false,false⟩)=if okC (c+cols) (w+rows) then some ⟨(c+cols),(w+rows),false,false⟩ else none:=rfl
   clear hO;rw [ei];refine zH ?_;cases e:okC (c+cols) (w+rows) with
   |true=>
    rw [e] at o2;refine sX ?_;refine zCl w1<|zM [.int .i64 (c+cols),.int .i64 w,.bool false,.bool false] hP rfl rfl rfl rfl<|sX ?_;refine zCl w2<|zM [.int .i64 (c+cols),.int .i64 (w+rows),.bool false,.bool false] hP rfl rfl rfl rfl<|sX ?_;refine zM [.int .i64 (c+cols),.int .i64 (w+rows),.bool false,.bool false] hP rfl rfl rfl rfl ?_
    exact zj (o:=0) rfl rfl (zJ hP) rfl rfl rfl rfl hO
   |false=>
    rw [e] at o2;refine sX ?_;refine zCl w1<|zM [.int .i64 (c+cols),.int .i64 w,.bool false,.bool false] hP rfl rfl rfl rfl<|sX ?_;refine zCl w2<|zM [.int .i64 (c+cols),.int .i64 (w+rows),.bool false,.bool false] hP rfl rfl rfl rfl<|sX ?_;refine sSA (.agg zP) ?_
    exact zj (o:=0) rfl rfl (zJ hP) rfl rfl rfl rfl hO
theorem zcf (hS:∀ r,okR r->∀ cols rows:Int,-1000<=cols/\cols<=1000->-1000<=rows/\rows<=1000->∀ H,C zIx [rV r,zK cols,zK rows] H (.tup [rV ((inR (zLu cols rows r)).getD noRef),.bool (inR (zLu cols rows r)).isSome]) H)
  (r:RefP) (h:okR r) (cols rows:Int) (hc:-1000<=cols/\cols<=1000) (hr:-1000<=rows/\rows<=1000) (bc br:Nat) (H:Heap) (h1:H[bc]?=some (.box [zK cols])) (h2:H[br]?=some (.box [zK rows])) :
  EFun C GT zJA [rV r,bR bc,bR br] H (.tup [rV ((inR (zLu cols rows r)).getD noRef),.bool (inR (zLu cols rows r)).isSome]) H:=by
 have hs:=hS r h cols rows hc hr;clear hS;refine zH<|sX ?_;refine sSA (rV ((inR (zLu cols rows r)).getD noRef)) ?_
 exact zj (o:=0) rfl rfl (zJ hP) rfl rfl rfl rfl hO
theorem zfq (hE:EcH C) (hE1:E1H C) (n:Nd) (cols rows:Int) (hOn:OnH C (zL0 cols rows) n) (hN:NkH C n)
  (hM:∀ bc br l,(bc,.box [zK cols])∈l->(br,.box [zK rows])∈l->zgK C zEi [bR bc,bR br] l (zL0 cols rows).ref) (H:Heap) :
  EFun C GT zMp [ndV n,zK cols,zK rows] H (.tup [ndV (onN (zL0 cols rows) n),.nili]) H:=by
 refine zH<|sX ?_;refine zG2 ?_ ?_
 all_goals
  refine sX ?_;refine zI (onE hE1 hOn rfl _ _ [((H++[ABlk.box (ndV n).cells]).length,.box [zK cols]),(((H++[ABlk.box (ndV n).cells])++[ABlk.box (zK cols).cells]).length,.box [zK rows])] _ (hM _ _ _ zS_ zS_) (zcG hP hP))<|sSA (ndV (onN (zL0 cols rows) n)) ?_
  exact zj (o:=0) rfl rfl (zJ (zS (zQZ hP))) rfl rfl rfl rfl ((zLx hO _ _).set (by simp only [zoW,zoP,zoN,zoT];omega) _)
end
section
variable {C:CSpec} {GT:zG_}
variable {k0:Int} {row:Bool} {at_ many cols rows:Int} {bx:Bx}
theorem zcg (g:RefP->Option RefP) (h3:(k0==3)=false) (h4:(k0==4)=false) (hR:RRef C (ccV k0 row at_ many cols rows bx) g) (a b:RefP) (ha:okR a) (hb:okR b) :
  ∃ a' b',(∀ H,EFun C GT zIY [(ccV k0 row at_ many cols rows bx),rV a,rV b] H (.tup [rV a',rV b',.bool (zJ2 g a b).isSome]) H)/\∀ x,zJ2 g a b=some x->(a',b')=x:=by
 obtain ⟨a',h1,q1⟩:=hR a ha;obtain ⟨b',h2,q2⟩:=hR b hb;refine ⟨a',b',fun H=>?_,fun x hx=>?_⟩
 case refine_2=>
  unfold zJ2 at hx;cases e1:g a with
  |none=>rw [e1] at hx;cases hx
  |some y=>grind
 clear q1 q2;have e:(zJ2 g a b).isSome=((g a).isSome&&(g b).isSome):=by
  unfold zJ2;cases g a <;> cases g b <;> rfl
 rw [e];clear hR e;refine zH ?_;cases ea:(g a).isSome with
 |true=>
  rw [ea] at h1;refine sX ?_;refine sSA (rV a') ?_;refine sX ?_;refine sSA (rV b') ?_;refine sX ?_;refine zG2 ?_ ?_
  ·refine sX ?_;refine sSA (rV a') ?_;refine sSA (rV b') ?_;exact zMy (o:=0) (o':=0) rfl rfl (zJ hP) rfl (zJ hP) rfl rfl rfl rfl hO
  ·refine sSA (rV a') ?_;refine sX ?_;refine sSA (rV b') ?_;exact zMy (o:=0) (o':=0) rfl rfl (zJ hP) rfl (zJ hP) rfl rfl rfl rfl hO
 |false=>
  rw [ea] at h1;refine sX ?_;refine sSA (rV a') ?_;refine sX ?_;refine sSA (rV b') ?_;refine sX ?_;refine zG2 ?_ ?_
  ·refine sX ?_;refine sSA (rV a') ?_;refine sSA (rV b') ?_;exact zMy (o:=0) (o':=0) rfl rfl (zJ hP) rfl (zJ hP) rfl rfl rfl rfl hO
  ·refine sSA (rV a') ?_;refine sX ?_;refine sSA (rV b') ?_;exact zMy (o:=0) (o':=0) rfl rfl (zJ hP) rfl (zJ hP) rfl rfl rfl rfl hO
end
section
variable {C:CSpec} {GT:zG_}
theorem zch (hI:InH C) (r:RefP) (h:okR r) (cols rows:Int) (hc:-26<=cols/\cols<=26) (hr:-99<=rows/\rows<=99) (H:Heap) :
  EFun C GT zJD [rV r,zK cols,zK rows] H (.tup [rV ((inR (zLu cols rows r)).getD noRef),.bool (inR (zLu cols rows r)).isSome]) H:=by
 obtain ⟨c,w,fc,fr⟩:=r;have hk:=(zLt _).2 h;obtain ⟨h1,h2,h3,h4⟩:=h;have hk:okC c w=true:=hk;simp only at h1 h2 h3 h4;have w1:IntKind.i64.wrap (c+cols)=c+cols:=by rw [IntKind.wrap_i64];omega
 have w2:IntKind.i64.wrap (w+rows)=w+rows:=by rw [IntKind.wrap_i64];omega
 have o1:=hI c w;rw [hk] at o1;cases fc with
 |true=>
  cases fr with
  |true=>
   have ei:inR (zLu cols rows ⟨c,w,true,true⟩)=if okC c w then some ⟨c,w,true,true⟩ else none:=rfl
   clear hI;rw [ei];cases e:okC c w with
   |true=>
    refine zH<|zAV (x:=rV ⟨c,w,true,true⟩) rfl<|sW ?_;refine sS (rV ⟨c,w,true,true⟩) (AV.cells (rV ⟨c,w,true,true⟩)) ?_
    exact zj (o:=0) rfl rfl (zJ (zS zB)) rfl rfl rfl rfl hO
   |false=>
    exact absurd (hk.symm.trans e) zD_
  |false=>
   have ei:inR (zLu cols rows ⟨c,w,true,false⟩)=if okC c (w+rows) then some ⟨c,(w+rows),true,false⟩ else none:=rfl
   have o2:=hI c (w+rows);clear hI;rw [ei];cases e:okC c (w+rows) with
   |true=>
    rw [e] at o2;refine zH<|zAV (x:=rV ⟨c,w,true,false⟩) rfl<|sW ?_;refine zCl w2<|zM [.int .i64 c,.int .i64 (w+rows),.bool true,.bool false] hP rfl rfl rfl rfl<|sW ?_;refine zM [.int .i64 c,.int .i64 (w+rows),.bool true,.bool false] hP rfl rfl rfl rfl ?_
    exact zj (o:=0) rfl rfl (zJ (zS (zE tA zB))) rfl rfl rfl rfl hO
   |false=>
    rw [e] at o2;refine zH<|zAV (x:=rV ⟨c,w,true,false⟩) rfl<|sW ?_;refine zCl w2<|zM [.int .i64 c,.int .i64 (w+rows),.bool true,.bool false] hP rfl rfl rfl rfl<|sW ?_;refine sS (.agg zP) (AV.cells (.agg zP)) ?_
    exact zj (o:=0) rfl rfl (zJ (zS (zE tA zB))) rfl rfl rfl rfl hO
 |false=>
  cases fr with
  |true=>
   have ei:inR (zLu cols rows ⟨c,w,false,true⟩)=if okC (c+cols) w then some ⟨(c+cols),w,false,true⟩ else none:=rfl
   have o2:=hI (c+cols) w;clear hI;rw [ei];cases e:okC (c+cols) w with
   |true=>
    rw [e] at o2;refine zH<|zAV (x:=rV ⟨c,w,false,true⟩) rfl<|sW ?_;refine zCl w1<|zM [.int .i64 (c+cols),.int .i64 w,.bool false,.bool true] hP rfl rfl rfl rfl<|sW ?_;refine zM [.int .i64 (c+cols),.int .i64 w,.bool false,.bool true] hP rfl rfl rfl rfl ?_
    exact zj (o:=0) rfl rfl (zJ (zS (zE tA zB))) rfl rfl rfl rfl hO
   |false=>
    rw [e] at o2;refine zH<|zAV (x:=rV ⟨c,w,false,true⟩) rfl<|sW ?_;refine zCl w1<|zM [.int .i64 (c+cols),.int .i64 w,.bool false,.bool true] hP rfl rfl rfl rfl<|sW ?_;refine sS (.agg zP) (AV.cells (.agg zP)) ?_
    exact zj (o:=0) rfl rfl (zJ (zS (zE tA zB))) rfl rfl rfl rfl hO
  |false=>
   have ei:inR (zLu cols rows ⟨c,w,false,false⟩)=if okC (c+cols) (w+rows) then some ⟨(c+cols),(w+rows),false,false⟩ else none:=rfl
   have o2:=hI (c+cols) (w+rows);clear hI;rw [ei];cases e:okC (c+cols) (w+rows) with
   |true=>
    rw [e] at o2;refine zH<|zAV (x:=rV ⟨c,w,false,false⟩) rfl<|sW ?_;refine zCl w1<|zM [.int .i64 (c+cols),.int .i64 w,.bool false,.bool false] hP rfl rfl rfl rfl<|sW ?_;refine zCl w2<|zM [.int .i64 (c+cols),.int .i64 (w+rows),.bool false,.bool false] hP rfl rfl rfl rfl<|sW ?_;refine zM [.int .i64 (c+cols),.int .i64 (w+rows),.bool false,.bool false] hP rfl rfl rfl rfl ?_
    exact zj (o:=0) rfl rfl (zJ (zS (zE tA (zE tA zB)))) rfl rfl rfl rfl hO
   |false=>
    rw [e] at o2;refine zH<|zAV (x:=rV ⟨c,w,false,false⟩) rfl<|sW ?_;refine zCl w1<|zM [.int .i64 (c+cols),.int .i64 w,.bool false,.bool false] hP rfl rfl rfl rfl<|sW ?_;refine zCl w2<|zM [.int .i64 (c+cols),.int .i64 (w+rows),.bool false,.bool false] hP rfl rfl rfl rfl<|sW ?_;refine sS (.agg zP) (AV.cells (.agg zP)) ?_
    exact zj (o:=0) rfl rfl (zJ (zS (zE tA (zE tA zB)))) rfl rfl rfl rfl hO
end
end Go.AM
