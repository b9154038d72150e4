/- Several texts of mine in one (De7, Gde). Own work. -/
import Derived.Test.YtkeblfepjkdleaaGreatDoorGAm30Fp1
import Derived.Test.YtkeblfepjkdleaaGreatDoorGDe3De4
import Derived.Test.YtkeblfepjkdleaaGreatDoorGCh1Bg3
import Derived.Test.YtkeblfepjkdleaaGreatDoorGGprDe2
import Derived.Test.YtkeblfepjkdleaaGreatDoorAc
set_option maxHeartbeats 8000000
set_option maxRecDepth 100000
set_option linter.all false
namespace Go.AM
theorem sBlkE {L:List Nat} {K:Post} {fr F:Fr} {H:Heap} (h:zT fr L=F) (k:K .normal F H):zJi 1 L K (.exit 1) fr H:=by
 show K .normal (zT fr L) H;rw [h];exact k
theorem zgX {l:List Fil} (hn:(l.map zLh).Nodup) {row:Bool} {at_ many:Int} (h0:0<=many) (rw_:Bs->Nat×Bs):((zNp (zGx row at_ many) rw_ l).map zLh).Nodup:=by
 refine zdR hn fun f _ g _ hf hg e=>?_;unfold zGx at hf hg e;cases h1:gone at_ many (kF row f) with
 |true=>rw [zlF h1] at hf;cases hf
 |false=>
  cases h2:gone at_ many (kF row g) with
  |true=>rw [zlF h2] at hg;cases hg
  |false=>
   rw [zlD (by rw [h1];decide),zlD (by rw [h2];decide)] at e;obtain ⟨c,w,t⟩:=f;obtain ⟨c',w',t'⟩:=g;have h1:=zly h1;have h2:=zly h2;unfold zTd back kF zLh at *;cases row <;> simp only [zlO,zlj,zlp] at e h1 h2 ⊢ <;> (split at e <;> split at e <;> simp only [zlT] at e ⊢ <;> omega)
section
variable {C:CSpec} {GT:zG_} {row:Bool} {at_ many:Int}
def zgY:AC:=zEw.rest.first.body.behind 1
def zgZ:AC:=zEw.rest.first.body.behind 6
theorem zXu {K:Post} {H0 H:Heap} (g:Fil) (e2:Nat) (t2:Bs) (hrw:∀ H,C zBx [.str g.text,ccV 3 row at_ many 0 0 ⟨0,0,0,0⟩] H (.tup [.str t2,zK e2]) H) (b i:Nat) (lv out:AV) (xs:List AV) (hb:H[b]?=some (.box (zl g).cells)) (hO:Old H0 H) (hbl:H0.length<=b) (ho:Owns H0 H out 3 xs) (hx:xs.length<=200)
  (hret:∀ fr' H',e2≠0->zL0 fr' 8=.lst (some true) 0 []->zL0 fr' 9=zK e2->Old H0 H'->K .ret fr' H')
  (hnext:∀ fr' H' out',e2=0->zT fr' [12,3,2,1,0,13]=[(12,out'),(3,zH many),(2,zH at_),(1,.bool row),(0,lv),(13,zK i)]->Old H0 H'->Owns H0 H' out' 3 (xs++[zl ⟨g.col,g.row,t2⟩])->K .normal fr' H') :
  EW C GT zgZ K [(3,zH many),(2,zH at_),(1,.bool row),(0,lv),(13,zK i),(14,.ref b 0 0 0),(12,out)] H:=by
 have hf:zD6 [.int .i64 0,.bool false,.int .i64 0,.int .i64 0,.int .i64 0,.int .i64 0,.int .i64 0,.int .i64 0,.int .i64 0,.int .i64 0] [(0,1),(1,1),(2,1),(3,1)] [.int .i64 3,.bool row,zH at_,zH many]=some (ccV 3 row at_ many 0 0 ⟨0,0,0,0⟩).cells:=by simp [zD6,splice,AV.cells,AV.one,ccV,zH]
 by_cases he:e2=0
 ·subst he;have hb2:(H.set b (.box (zl ⟨g.col,g.row,t2⟩).cells))[b]?=some (.box (zl ⟨g.col,g.row,t2⟩).cells):=zU hb;have ho2:Owns H0 (H.set b (.box (zl ⟨g.col,g.row,t2⟩).cells)) out 3 xs:=ho.set (ho.ne_box hb) _;refine sX ?_;refine sS (.str t2) (zl ⟨g.col,g.row,t2⟩).cells ?_;refine sX ?_;refine zAb (vs':=[zl { col:=g.col,row:=g.row,text:=t2 }]) rfl rfl ?_;refine zBw (H0:=H0) (ys:=[zl ⟨g.col,g.row,t2⟩]) (ho2.push _) ((hO.set hbl _).push _) zAu zD_ (by simp only [zmQ];omega) zS_ (fun v' H' ho' hO' _ hfr=>?_);exact hnext _ _ v' rfl rfl hO' ho'
 ·have e1:((e2:Int) != 0)=true:=zlz.2 tO;refine sX ?_;exact hret _ _ he rfl rfl hO
theorem zga {K:Post} {H0 H:Heap} (f:Fil) (hok:okC f.col f.row=true) (hs:zGE row at_ many) (e2:Nat) (t2:Bs) (hrw:∀ H,C zBx [.str f.text,ccV 3 row at_ many 0 0 ⟨0,0,0,0⟩] H (.tup [.str t2,zK e2]) H) (b i:Nat) (lv out:AV) (xs:List AV) (hb:H[b]?=some (.box (zl f).cells)) (hO:Old H0 H) (hbl:H0.length<=b) (ho:Owns H0 H out 3 xs) (hx:xs.length<=200)
  (hskip:gone at_ many (kF row f)=true->∀ fr',zT fr' [12,3,2,1,0,13]=[(12,out),(3,zH many),(2,zH at_),(1,.bool row),(0,lv),(13,zK i)]->K (.exit 1) fr' H)
  (hret:gone at_ many (kF row f)=false->∀ fr' H',e2≠0->zL0 fr' 8=.lst (some true) 0 []->zL0 fr' 9=zK e2->Old H0 H'->K .ret fr' H')
  (hnext:gone at_ many (kF row f)=false->∀ fr' H' out',e2=0->zT fr' [12,3,2,1,0,13]=[(12,out'),(3,zH many),(2,zH at_),(1,.bool row),(0,lv),(13,zK i)]->Old H0 H'->Owns H0 H' out' 3 (xs++[zl ⟨(zTd row f (back at_ many (kF row f))).col,(zTd row f (back at_ many (kF row f))).row,t2⟩])->K .normal fr' H') :
  EW C GT zgY K [(12,out),(3,zH many),(2,zH at_),(1,.bool row),(0,lv),(13,zK i),(14,.ref b 0 0 0)] H:=by
 have hk:=zk6 (row:=row) hok;have hsp:=zLf hs;have w1:IntKind.i64.wrap (at_+many)=at_+many:=by rw [IntKind.wrap_i64];omega
 have w2:IntKind.i64.wrap (kF row f-many)=kF row f-many:=by rw [IntKind.wrap_i64];omega
 have htx:∀ x,(zTd row f x).text=f.text:=fun x=>by unfold zTd;split <;> rfl
 by_cases g1:at_<=kF row f
 ·by_cases g2:kF row f<at_+many
  ·have e:gone at_ many (kF row f)=true:=zlY ⟨g1,g2⟩;cases row with
   |true=>
    refine zA (zH f.col) hb rfl<|zE<|zA (zH (kF true f)) hb rfl<|zn tT<|zDh w1<|sX ?_
    exact hskip e _ rfl
   |false=>
    refine zA (zH (kF false f)) hb rfl<|sW ?_;refine zDh w1<|sX ?_
    exact hskip e _ rfl
  ·have e:gone at_ many (kF row f)=false:=zlf fun h=>g2 h.2;have eb:back at_ many (kF row f)=kF row f-many:=zlF tO;have key:=zXu (C:=C) (GT:=GT) (K:=K) (row:=row) (at_:=at_) (many:=many) (zTd row f (kF row f-many)) e2 t2 (by rw [htx];exact hrw) b i lv out xs (zU hb) (hO.set hbl _) hbl (ho.set (ho.ne_box hb) _) hx (hret e) (by rw [eb] at hnext;exact hnext e);clear hskip hret hnext hrw;cases row with
   |true=>
    refine zA (zH f.col) hb rfl<|zE<|zA (zH (kF true f)) hb rfl<|zn tT<|zDh w1<|sX ?_;refine zDh w2<|sS (zH (kF true f-many)) (zl (zTd true f (kF true f-many))).cells ?_;refine sX ?_;refine zFM rfl key ?_
    rfl
   |false=>
    refine zA (zH (kF false f)) hb rfl<|sW ?_;refine zDh w1<|sX ?_;refine zDh w2<|sS (zH (kF false f-many)) (zl (zTd false f (kF false f-many))).cells ?_;refine zFM rfl key ?_
    rfl
 ·have e:gone at_ many (kF row f)=false:=zlf fun h=>g1 h.1;have eb:back at_ many (kF row f)=kF row f:=zlD tO;have key:=zXu (C:=C) (GT:=GT) (K:=K) (row:=row) (at_:=at_) (many:=many) f e2 t2 hrw b i lv out xs hb hO hbl ho hx (hret e) (by rw [eb,zdY] at hnext;exact hnext e);clear hskip hret hnext hrw;cases row with
  |true=>
   refine zA (zH f.col) hb rfl<|zE<|zA (zH (kF true f)) hb rfl<|zi tF<|zG<|zG<|zi tF<|zG<|zG<|zi tF<|zG<|zG<|zFM rfl key ?_
   rfl
  |false=>
   refine zA (zH (kF false f)) hb rfl<|zG<|zi tF<|zG<|zG<|zi tF<|zG<|zG<|zi tF<|zG<|zG<|zFM rfl key ?_
   rfl
theorem zZf (hG:∀ lv l H,view H 3 lv=some (l.map zl)->C zCf [lv] H (zK (zCA l)) H) (hSp:∀ row a m H,C zFR [.bool row,zH a,zH m] H (.bool (zNm row a m)) H)
  (hSo:∀ (b0:Nat) (xs:List Fil) H,xs.length<=200->H[b0]?=some (.row 3 (xs.map zl))->C zCG [.sl (some true) b0 3 0 xs.length] H (zQi 3 ((zJa xs).map zl)) H) (hS0:∀ H,C zCG [.lst (some true) 0 []] H (.lst (some true) 0 []) H)
  (lv:AV) (l:List Fil) (hlv:zDe lv 3 (l.map zl)) (row:Bool) (at_ many:Int) (hrw:zGE row at_ many->∀ t,zBu t=0->RwH C (ccV 3 row at_ many 0 0 ⟨0,0,0,0⟩) (zMz row at_ many) t) (H:Heap) :
  EFun C GT zI5 [lv,.bool row,zH at_,zH many] H (.tup [zGh l row at_ many,zK (zGg l row at_ many)]) H:=by
 have g1:=fun H=>hG lv l H (hlv.view H);have s1:=fun H=>hSp row at_ many H;have hlm:(l.map zl).length=l.length:=zlM _;clear hG hSp;by_cases c0:zCA l=0
 case neg=>
  have en:zGg l row at_ many=zCA l:=by unfold zGg;rw [zlF c0]
  have ev:zGh l row at_ many=.lst (some true) 0 []:=by unfold zGh;rw [en,zlD c0]
  rw [ev,en];have ex:(!((zCA l:Int)==0))=true:=by simp;omega
  generalize zCA l=n at *;clear hSo hS0 hrw;refine zJ<|sX ?_
  exact sRv
 obtain ⟨hll,hgd,hnd⟩:=zLe l c0;rw [c0] at g1;cases e1:zNm row at_ many with
 |false=>
  have en:zGg l row at_ many=1:=by unfold zGg;rw [zlD (fun h=>h c0),e1,zlD zD_]
  have ev:zGh l row at_ many=.lst (some true) 0 []:=by unfold zGh;rw [en];rfl
  rw [ev,en];rw [e1] at s1;clear hSo hS0 hrw;refine zJ<|sX ?_
  exact sRv
 |true=>
  have hsp:=zTW e1;have hrw:=hrw hsp;rw [e1] at s1;have en:zGg l row at_ many=zO7 (zGx row at_ many) (zQl (zMz row at_ many)) l:=by unfold zGg;rw [zlD (fun h=>h c0),zlF e1]
  have ev:zGh l row at_ many=zQf (zGx row at_ many) (zQl (zMz row at_ many)) l:=by unfold zGh zQf;rw [en]
  rw [en,ev];clear en ev;have hm:many<=99/\0<=many:=by
   obtain ⟨_,_,a,b⟩:=hsp;refine ⟨?_,a⟩;unfold zWb at b;split at b <;> omega
  obtain ⟨cf,hcf⟩:∃ cf,zGx row at_ many=cf:=⟨_,rfl⟩;obtain ⟨rw_,hrwe⟩:∃ r,zQl (zMz row at_ many)=r:=⟨_,rfl⟩;rw [hcf,hrwe];refine zJ<|sX ?_;refine zBG (fun z:Nat×AV=>[(13,zK z.1),(12,z.2),(3,zH many),(2,zH at_),(1,.bool row),(0,lv)]) (fun z H'=>Old H H'/\z.1<=l.length/\Owns H H' z.2 3 ((zNp cf rw_ (l.take z.1)).map zl)/\zO7 cf rw_ (l.drop z.1)=zO7 cf rw_ l) (fun z=>l.length-z.1) (0,.lst (some true) 0 []) rfl ⟨Old.refl H,by simp,.inl ⟨rfl,by simp [zNp]⟩,rfl⟩ (fun z H1 hi=>?_)
  obtain ⟨i,out⟩:=z;obtain ⟨ho0,hi,ho,hq⟩:=hi;dsimp only at hi ho hq ⊢;by_cases hlt:i<l.length
  ·obtain ⟨f,hf⟩:∃ f,l[i]?=some f:=⟨_,zlI hlt⟩;have hmem:=zlX hf;have hfm:(l.map zl)[i]?=some (zl f):=by rw [zlQ,hf];rfl
   obtain ⟨htx,hok⟩:=hgd f hmem;have hol:((zNp cf rw_ (l.take i)).map zl).length<=200:=by
    rw [zlM];have:=zMv (cf:=cf) (rw_:=rw_) (l.take i);rw [zla] at this;omega
   have hHl:=ho0.1;have hnb:out.blk≠some H1.length:=fun e=>by have:=(ho.lt e).2;omega
   have hdr:=zVH (cf:=cf) (rw_:=rw_) hf;have htk:=zVI (cf:=cf) (rw_:=rw_) hf;rw [hdr] at hq;have hr:=hrw f.text htx;unfold RwH at hr;rw [hrwe] at hr;obtain ⟨⟨e2,t2⟩,h2⟩:∃ z,rw_ f.text=z:=⟨_,rfl⟩;rw [h2] at hr;simp only at hr;have hbx0:((H1++[ABlk.box zV3]).set H1.length (.box (zl f).cells))[H1.length]?=some (.box (zl f).cells):=zU zB;have hO2:Old H ((H1++[ABlk.box zV3]).set H1.length (.box (zl f).cells)):=ho0.pushSet _ _;have ho2:Owns H ((H1++[ABlk.box zV3]).set H1.length (.box (zl f).cells)) out 3 ((zNp cf rw_ (l.take i)).map zl):=ho.pushSet _ _;have hcg:gone at_ many (kF row f)=true->zgH cf rw_ f=0/\zgI cf rw_ f=none:=fun e=>by
    have hci:cf f=(0,false,f):=by rw [<-hcf];exact zlF e
    unfold zgH zgI;rw [hci];exact ⟨rfl,rfl⟩
   have hcn:gone at_ many (kF row f)=false->zgH cf rw_ f=e2/\zgI cf rw_ f=some ⟨(zTd row f (back at_ many (kF row f))).col,(zTd row f (back at_ many (kF row f))).row,t2⟩:=fun e=>by
    have hci:cf f=(0,true,zTd row f (back at_ many (kF row f))):=by rw [<-hcf];exact zlD (by rw [e];decide)
    unfold zgH zgI;rw [hci,h2];exact ⟨rfl,rfl⟩
   clear hrw hSo hS0;refine sX ?_;refine sSA (zl f) ?_;refine zFM rfl (zga f hok hsp e2 t2 hr H1.length i lv out _ hbx0 hO2 hHl ho2 hol (fun e fr' hfr=>?_) (fun e fr' H' h0 g8 g9 hO'=>?_) (fun e fr' H' out' h0 hfr hO' ho'=>?_)) ?_
   ·obtain ⟨k1,k2⟩:=hcg e;rw [k1,zlF rfl] at hq;refine sBlkE hfr<|zS (r:=i+1) rfl tO ?_
    exact zAR (i+1,out) rfl ⟨hO2,by simp only;omega,by simp only;rw [htk,k2];simpa using ho2,hq⟩ (by simp only;omega)
   ·rw [(hcn e).1,zlD h0] at hq;have er:AV.tup [zQf cf rw_ l,zK (zO7 cf rw_ l)]=.tup [.lst (some true) 0 [],zK e2]:=by
     unfold zQf;rw [<-hq,zlD h0]
    rw [er];exact zkv rfl rfl g8 g9 rfl rfl hO'
   ·obtain ⟨k1,k2⟩:=hcn e;rw [k1,zlF h0] at hq;refine sBlkR hfr<|zS (r:=i+1) rfl tO ?_
    exact zAR (i+1,out') rfl ⟨hO',by simp only;omega,by simp only;rw [htk,k2,zlv];exact ho',hq⟩ (by simp only;omega)
   ·rfl
  ·have he:l.take i=l:=zlw tO;rw [he] at ho;rw [zl3 tO] at hq;have hq:zO7 cf rw_ l=0:=hq.symm;have er:AV.tup [zQf cf rw_ l,zK (zO7 cf rw_ l)]=.tup [zQi 3 ((zJa (zNp cf rw_ l)).map zl),zK 0]:=by
    unfold zQf;rw [hq];rfl
   have hle:=zMv (cf:=cf) (rw_:=rw_) l;rw [er];generalize zNp cf rw_ l=xs at *;rcases ho with ⟨rfl,h0⟩|⟨bb,rfl,g1,g2,g3⟩
   ·have hl0:xs=[]:=by simpa using h0
    subst hl0;refine sX ?_;exact zAv rfl rfl rfl rfl ho0
   ·have hs:=hSo bb xs H1 tO g2;have hln:(xs.map zl).length=xs.length:=zlM _;rw [hln];clear hSo hS0;have hfz:∀ H:Heap,zEM H.length (.tup [zQi 3 ((zJa xs).map zl),zK 0]) H1=some (.tup [zQi 3 ((zJa xs).map zl),zK 0],H1):=fun H=>by
     generalize (zJa xs).map zl=ys;cases ys <;> rfl
    refine sX ?_;exact zAv rfl rfl (hfz H) (by simp only [AV.bel,AV.belL,zSS,zmj];rfl) ho0
theorem zTY (hR:∀ (lv:AV) (l:List Fil),zDe lv 3 (l.map zl)->∀ row x y H,C zEO [lv,.bool row,zH x,zH y] H (.tup [zGh l row x y,zK (zGg l row x y)]) H)
  (hP:∀ (lv:AV) (l:List Fil),zDe lv 3 (l.map zl)->∀ row x y H,C zF4 [lv,.bool row,zH x,zH y] H (.tup [zGh l row x y,eV (zGg l row x y)]) H)
  (hM:∀ (v v':AV) (l:List Fil) (n:Nat) H,view H 3 v=some (l.map zl)->view H 3 v'=some (l.map zl)->l.length<=1000000->C zFQ [v,eV n,v',zK n] H (.bool true) H)
  (lv:AV) (l:List Fil) (hlv:zDe lv 3 (l.map zl)) (row:Bool) (x y:Int) (H:Heap):EFun C GT zFx [lv,.bool row,zH x,zH y] H (.bool true) H:=by
 have h1:=hR lv l hlv row x y H;have h2:=hP lv l hlv row x y H;obtain ⟨o,ho,hol⟩:∃ o:List Fil,(∀ H,view H 3 (zGh l row x y)=some (o.map zl))/\o.length<=1000000:=by
  unfold zGh;by_cases e:zGg l row x y=0
  ·rw [zlF e];refine ⟨_,fun H=>(zhH _ _).view H, ?_⟩;have c0:zCA l=0:=Classical.byContradiction fun h=>by unfold zGg at e;rw [zlF h] at e;exact h e
   have:=(zLe l c0).1;rw [(zKE _).length_eq];have:=zMv (cf:=zGx row x y) (rw_:=zQl (zMz row x y)) l;omega
  ·rw [zlD e];exact ⟨[],fun H=>by simp [view],by simp⟩
 have h3:=hM (zGh l row x y) (zGh l row x y) o (zGg l row x y) H (ho H) (ho H) hol;generalize zGh l row x y=v at *;generalize zGg l row x y=n at *;clear hR hP hM;refine zJ<|sX ?_
 exact sRv
end
end Go.AM
namespace Go.Proofs.YtkeblfepjkdleaaGreatDoor
open Go.AM
open Go.AM Go.RowKit
theorem zda {row:Bool} {at_ many:Int} {r:RefP}:∀ x,(zMz row at_ many).ref r=some x->zWg row at_ many r=x:=fun x h=>by
 have h:(if gone at_ many (zAK row r)=true then none else some (zDq row r (back at_ many (zAK row r))))=some x:=h;unfold zWg;split at h
 ·cases h
 ·rename_i hg;rw [zlD hg];exact zlb h
section
variable {m:Int} {ev:Value} (hev:∃ te pe,ev=.iface te pe)
theorem zVO {row:Bool} {at_ many:Int} (hs:zGE row at_ many):GnH (GQ m ev) at_ many:=fun k n2 n3 H hk h2 h3=>zF mixed zNT (zi9 hs k hk n2 n3 H h2 h3)
theorem zVP {row:Bool} {at_ many:Int} (hs:zGE row at_ many):BkH (GQ m ev) row at_ many:=fun u b n2 n3 H hk hb h2 h3=>zF mixed zNU (zgT hs u hk b n2 n3 H hb h2 h3)
theorem zgb {row:Bool} {at_ many:Int} (hs:zGE row at_ many) (n1 n2 n3 n4 n5:Nat) (l:List (Nat×ABlk)) (h1:(n1,.box [.bool row])∈l) (h2:(n2,.box [zH at_])∈l) (h3:(n3,.box [zH many])∈l)
  (h4:(n4,.box [.fn z6 [] [bR n2,bR n3]])∈l) (h5:(n5,.box [.fn zu [] [bR n2,bR n3]])∈l):zkq (GQ m ev) zAe [bR n1,bR n4,bR n5] l (zMz row at_ many).ref:=fun r hr=>
 ⟨zWg row at_ many r,fun H hh=>zF mixed zNV (zdV zXs (zVO hs) (zVP hs) r hr n1 n2 n3 n4 n5 H (hh _ h1) (hh _ h2) (hh _ h3) (hh _ h4) (hh _ h5)),zda⟩
theorem zgc {row:Bool} {at_ many:Int} (hs:zGE row at_ many) (n1 n2 n3 n4 n5:Nat) (l:List (Nat×ABlk)) (h1:(n1,.box [.bool row])∈l) (h2:(n2,.box [zH at_])∈l) (h3:(n3,.box [zH many])∈l)
  (h4:(n4,.box [.fn z6 [] [bR n2,bR n3]])∈l) (h5:(n5,.box [.fn zu [] [bR n2,bR n3]])∈l):zkr (GQ m ev) zAq [bR n1,bR n4,bR n2,bR n3,bR n5] l (zMz row at_ many).box:=fun a b ha hb=>
 ⟨_,_,fun H hh=>zF mixed zNW (zdW zXs (zVO hs) (zVP hs) hs a b ha hb n1 n2 n3 n4 n5 H (hh _ h1) (hh _ h2) (hh _ h3) (hh _ h4) (hh _ h5)),fun x hx=>by
  have hx:zGe row at_ many a b=some x:=hx;rw [hx];rfl⟩
include hev in
theorem zdb {t:Bs} {n:Nd} (hp:zAn t=some n) {row:Bool} {at_ many:Int} (hs:zNm row at_ many=true) (H:Heap):GQ m ev zFS [ndV n,.bool row,zH at_,zH many] H (.tup [ndV (onN (zMz row at_ many) n),.nili]) H:=
 zF mixed zQ8 (zZe zg3 n row at_ many hs (g_on hp) (zgN hev hp) (fun n1 n2 n3 n4 n5 l a b c d e=>⟨zgb (zTW hs) n1 n2 n3 n4 n5 l a b c d e,zgc (zTW hs) n1 n2 n3 n4 n5 l a b c d e⟩) H)
include hev in
theorem zTZ (lv:AV) (l:List Fil) (hlv:zDe lv 3 (l.map zl)) (row:Bool) (x y:Int) (H:Heap):GQ m ev zF4 [lv,.bool row,zH x,zH y] H (.tup [zGh l row x y,eV (zGg l row x y)]) H:=
 zF mixed zSd (zdZ (fun lv l H hv=>ziU hev lv l H hv) zg3 lv l hlv row x y (fun h0 hs n1 n2 n3 H h1 h2 h3=>by
  obtain ⟨hl,hg,hnd⟩:=zLe l h0;have hsp:=zTW hs;refine zF mixed zSf (zZY zEP zDJ [bR n1,bR n2,bR n3] [bR n1,bR n2,bR n3] [(n1,.box [.bool row]),(n2,.box [zH x]),(n3,.box [zH y])] lv l ?_ ?_ ?_ ?_ zgS zdS hlv hl (fun _=>zgX hnd hsp.2.2.1 _) H (zg2 h1 h2 h3)) (hn:=by obtain ⟨q,k,rfl,_⟩:=hlv;rfl)
  ·intro f hf b H hb hh hlt;exact zF mixed zOa (zWh zi7 f (hg f hf).2 row x y hsp b n1 n2 n3 H hb (hh (n1,_) zS_) (hh (n2,_) zS_) (hh (n3,_) zS_) (hlt (n1,.box [.bool row]) zS_) (hlt (n2,.box [zH x]) zS_) (hlt (n3,.box [zH y]) zS_))
  ·intro f _ h;unfold zGx at h;split at h <;> exact absurd rfl h
  ·intro f _;unfold zGx;split
   ·rfl
   ·show (zTd row f _).text=f.text;unfold zTd;split <;> rfl
  ·intro f hf H hh;exact g_rew hev zDJ [bR n1,bR n2,bR n3] [(n1,.box [.bool row]),(n2,.box [zH x]),(n3,.box [zH y])] (zMz row x y) (zcn hsp) f.text (hg f hf).1 (fun n hn H hh=>zF mixed zOb (zWi n row x y (fun H=>zdb hev hn hs H) n1 n2 n3 H (hh (n1,_) zS_) (hh (n2,_) zS_) (hh (n3,_) zS_))) H hh) H) (hn:=by obtain ⟨q,k,rfl,_⟩:=hlv;rfl)
theorem zg5 {row:Bool} {at_ many cols rows:Int} {bx:Bx} (hs:zGE row at_ many):RdH (GQ m ev) (ccV 3 row at_ many cols rows bx) row at_ many:=fun r hr H=>zF mixed zOe (zgU r hr hs H)
theorem zdc {row:Bool} {at_ many cols rows:Int} {bx:Bx} (hs:zGE row at_ many):RRef (GQ m ev) (ccV 3 row at_ many cols rows bx) (zMz row at_ many).ref:=fun r hr=>⟨zWg row at_ many r,fun H=>zg5 hs r hr H,zda⟩
theorem zk7 {row:Bool} {at_ many cols rows:Int} {bx:Bx} (hs:zGE row at_ many):LfH (GQ m ev) (ccV 3 row at_ many cols rows bx) at_ many:=fun low high H h=>zF mixed zNZ (zjB hs low high h H)
theorem zdd {row:Bool} {at_ many cols rows:Int} {bx:Bx} (hs:zGE row at_ many):RBox (GQ m ev) (ccV 3 row at_ many cols rows bx) (zMz row at_ many).box:=fun a b ha hb=>
 ⟨_,_,fun H=>zF mixed zOf (zgW (zk7 hs) (zg5 hs) hs ha hb H),fun x hx=>by
  have hx:zGe row at_ many a b=some x:=hx;rw [hx];rfl⟩
theorem zde (lv:AV) (l:List Fil) (hlv:zDe lv 3 (l.map zl)) (row:Bool) (x y:Int) (H:Heap):GQ m ev zEO [lv,.bool row,zH x,zH y] H (.tup [zGh l row x y,zK (zGg l row x y)]) H:=
 zF mixed zOZ (zZf zfL zi8 zdT zZd lv l hlv row x y (fun hs t ht=>zk2 (zMz row x y) (zcn hs) (zdc hs) (zdd hs) t ht) H) (hn:=by obtain ⟨q,k,rfl,_⟩:=hlv;rfl)
include hev in
theorem zVQ {x0:AV} (h0:Fits (.sl true zfN) x0) (row:Bool) (x y:Int) (H:Heap):GQ m ev zFw [x0,.bool row,zH x,zH y] H (.bool true) H:=by
 obtain ⟨l,q,rfl,_⟩:=zgQ h0;exact zF mixed zKk (zTY zde (zTZ hev) (zk3 hev) _ l ⟨_,_,rfl,.inl rfl⟩ row x y H)
end
end Go.Proofs.YtkeblfepjkdleaaGreatDoor
