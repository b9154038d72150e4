/- Texts of mine in one. Own work. -/
import Derived.Test.YtmfmhljpddpfnaaGreatDoorGAm23Am35
import Derived.Test.YtmfmhljpddpfnaaGreatDoorGBu1Rt1
import Derived.Test.YtmfmhljpddpfnaaGreatDoorGRt2Pr1
import Derived.Test.YtmfmhljpddpfnaaGreatDoorLc
import Derived.Test.YtmfmhljpddpfnaaGreatDoorGAm31Rf1
import Derived.Shelf.Spec.SlicesInsert
import Derived.Lib.AppendZerosOnto
import Derived.Laws.NewBlocks
import Derived.Test.YtmfmhljpddpfnaaGreatDoorGRfdGq
import Derived.Test.YtmfmhljpddpfnaaGreatDoorGItQLvs
import Derived.Test.YtmfmhljpddpfnaaGreatDoorGBe0Itd
import Derived.Test.YtmfmhljpddpfnaaGreatDoorLk
set_option maxHeartbeats 8000000
set_option linter.all false
set_option maxRecDepth 20000
namespace Go.AM
mutual
def cnt:Nd->Nat
 |.mk _ _ _ _ _ ks=>1+cnts ks
def cnts:List Nd->Nat
 |[]=>0
 |n::r=>cnt n+cnts r
end
theorem zgI (n:Nd):cnt n=1+cnts n.kids:=by cases n;rw [cnt];rfl
theorem zTC:∀ (l:List Nd) (k:Nd),cnts (l++[k])=cnts l+cnt k
 |[],k=>by simp [cnts]
 |n::r,k=>by rw [List.cons_append,cnts,zTC r k,cnts];omega
theorem zTD {ks:List Nd} {i:Nat} {k:Nd} (h:ks[i]?=some k):cnts (ks.take (i+1))=cnts (ks.take i)+cnt k:=by
 rw [List.take_add_one,h,Option.toList_some,zTC]
theorem zRd:∀ (ks:List Nd) (i:Nat),cnts (ks.take i)<=cnts ks
 |[],i=>by simp
 |n::r,0=>by simp [cnts]
 |n::r,i+1=>by rw [List.take_succ_cons,cnts,cnts];have:=zRd r i;omega
section
variable {C:CSpec} {GT:Nat->Option AV}
set_option maxHeartbeats 4000000 in
theorem zWJ (n:Nd) (hS:∀ k∈n.kids,∀ c l H,H[c]?=some (.box [zL l])->cnt k<=l->l<=1000000->C zDY [ndV k,bR c] H (.bool true) (H.set c (.box [zL (l-cnt k)])))
  (hkl:n.kids.length<=1000000) (c l:Nat) (H:Heap) (hc:H[c]?=some (.box [zL l])) (hl:cnt n<=l) (hl2:l<=1000000) :
  zCk C GT zGF [ndV n,bR c] H c [] .undef (some (.bool true,.box [zL (l-cnt n)])):=by
 have hxv:=z7 n;have hcl:=(zg hc).1;have hlm:(n.kids.map ndV).length=n.kids.length:=List.length_map _;rw [zgI] at hl ⊢;refine zAH<|sX ?_
 have hc1:(H++[ABlk.box (ndV n).cells])[c]?=some (.box [zL l]):=zG hc;have w1:IntKind.i64.wrap ((l:Int)-1)=((l-1:Nat):Int):=by rw [IntKind.wrap_i64];omega
 have hc2:((H++[ABlk.box (ndV n).cells]).set c (.box [zL (l-1)]))[c]?=some (.box [zL (l-1)]):=zOc (by simp;omega);have hn2:((H++[ABlk.box (ndV n).cells]).set c (.box [zL (l-1)]))[H.length]?=some (.box (ndV n).cells):=zE tO zB;refine sX ?_;refine zCl w1<|zM [zL (l-1)] hc1 rfl rfl rfl rfl<|zA (zL (l-1)) hc2 rfl<|zc (tF)<|sX ?_;refine zAr (fun i:Nat=>[(19,zL i),(1,bR c),(17,zGZ n),(18,zL n.kids.length)]) (fun i H'=>OldB H c (.box [zL (l-1-cnts (n.kids.take i))]) H'/\i<=n.kids.length) (fun i=>n.kids.length-i) 0 rfl ⟨?_,by omega⟩ (fun i H1 hi=>?_)
 ·have:OldB H c (.box [zL (l-1-cnts [])]) _:=((OldB.start hc).push [ABlk.box (ndV n).cells]).setB (.box [zL (l-1-cnts [])]);exact this
 obtain ⟨hO,hi⟩:=hi;dsimp only;have hcat:H1[c]?=some (.box [zL (l-1-cnts (n.kids.take i))]):=(hO.old.2 c (by rw [List.length_set];exact hcl)).trans (List.getElem?_set_self hcl);have hlen:H.length<=H1.length:=by have:=hO.old.1;rwa [List.length_set] at this
 by_cases hlt:i<n.kids.length
 ·obtain ⟨k,hk⟩:∃ k,n.kids[i]?=some k:=⟨_,List.getElem?_eq_getElem hlt⟩;have hkm:(n.kids.map ndV)[i]?=some (ndV k):=by rw [List.getElem?_map,hk];rfl
  have hs:=hS k (List.mem_of_getElem? hk);have ht:=zTD hk;have hle:=zRd n.kids (i+1);clear hS;refine sX ?_;refine sSA (ndV k) ?_;refine zA (ndV k) hP rfl<|zBc (hs c (l-1-cnts (n.kids.take i)) _ hP tO tO) (fun h=>nomatch h)<|sX ?_;refine zQ (r:=i+1) rfl tO ?_;refine zAJ (i+1) rfl ⟨?_,by omega⟩ tO
  rw [ht,<-Nat.sub_sub];exact ((hO.push _).set hlen _).setB _
 ·refine sX ?_;have ei:i=n.kids.length:=by omega
  rw [ei,List.take_length,Nat.sub_sub] at hO;exact zQ9 _ rfl rfl rfl rfl rfl hO rfl
end
end Go.AM
set_option maxRecDepth 20000
namespace Go.AM
structure Chg where
 ref:RefP->Option RefP
 box:RefP->RefP->Option (RefP×RefP)
def ziy:Nd:=zHJ 3
mutual
def onN (c:Chg):Nd->Nd
 | .mk k num t r o ks=>if k=5 then (match c.ref r with
   |none=>ziy
   |some r'=>zB3 r')
  else if k=6 then (match c.box r o with
   |none=>ziy
   |some p=>zAy p.1 p.2)
  else .mk k num t r o (zkn c ks)
def zkn (c:Chg):List Nd->List Nd
 |[]=>[]
 |n::r=>onN c n::zkn c r
end
theorem zRe (c:Chg):∀ ks:List Nd,zkn c ks=ks.map (onN c)
 |[]=>rfl
 |n::r=>by rw [zkn,List.map_cons,zRe c r]
section
variable {c:Chg}
theorem zbf (r:RefP):onN c (zB3 r)=(match c.ref r with
   |none=>ziy
   |some r'=>zB3 r'):=rfl
theorem zbg (r o:RefP):onN c (zAy r o)=(match c.box r o with
   |none=>ziy
   |some p=>zAy p.1 p.2):=rfl
theorem zko (n:Nd):onN c (zl1 n)=zl1 (onN c n):=rfl
theorem zkp (op:Nat) (a b:Nd):onN c (zAn op a b)=zAn op (onN c a) (onN c b):=rfl
theorem zh8 (t:Bs) (ks:List Nd):onN c (zAw t ks)=zAw t (ks.map (onN c)):=by
 show zAw t (zkn c ks)=_;rw [zRe]
def Chg.ok (c:Chg):Prop:=(∀ r r',okR r->c.ref r=some r'->okR r')/\∀ r o p,okR r->okR o->c.box r o=some p->okR p.1/\okR p.2
theorem zWK:(txt ziy).length=5:=rfl
theorem zFh {r:RefP} (h:okR r):2<=(zD3 r).length/\(zD3 r).length<=5:=by
 obtain ⟨c,w,fc,fr⟩:=r;obtain ⟨_,_,h3,h4⟩:=h;simp only at h3 h4;have hd:1<=(zFz w.toNat).length/\(zFz w.toNat).length<=2:=by
  have:w.toNat<=99:=by omega
  have:∀ n,n<=99->1<=(zFz n).length/\(zFz n).length<=2:=by decide
  exact this _ (by assumption)
 unfold zD3;cases fc <;> cases fr <;> simp <;> omega
structure OnOk (c:Chg) (x:Bool) (n:Nd):Prop where
 wf:Wf x (onN c n)
 cnt:cnt (onN c n)=cnt n
 need:need (onN c n)=need n
 tight:zb (onN c n)=zb n
 len:(txt (onN c n)).length<=3*(txt n).length
 le:Go.AM.cnt n<=(txt n).length
theorem zTE {f:Nd->Nd}:∀ {ks:List Nd},(∀ k∈ks,(txt (f k)).length<=3*(txt k).length)->(zAx ((ks.map f).map txt)).length<=3*(zAx (ks.map txt)).length
 |[],_=>Nat.le_refl _
 |[a],h=>h a (by simp)
 |a::b::r,h=>by
  have h1:=h a (by simp);have h2:=zTE (ks:=b::r) fun k hk=>h k (List.mem_cons_of_mem _ hk);simp only [List.map_cons,zAx,List.length_append,List.length_cons] at h1 h2 ⊢;omega
theorem zTF:∀ {ks:List Nd},(∀ k∈ks,cnt k<=(txt k).length)->cnts ks<=(zAx (ks.map txt)).length
 |[],_=>Nat.le_refl _
 |[a],h=>by have:=h a (by simp);simpa [cnts,zAx] using this
 |a::b::r,h=>by
  have h1:=h a (by simp);have h2:=zTF (ks:=b::r) fun k hk=>h k (List.mem_cons_of_mem _ hk);rw [cnts];simp only [List.map_cons,zAx,List.length_append,List.length_cons] at h1 h2 ⊢;omega
theorem zbh {f:Nd->Nd}:∀ {ks:List Nd},(∀ k∈ks,cnt (f k)=cnt k)->cnts (ks.map f)=cnts ks
 |[],_=>rfl
 |a::r,h=>by rw [List.map_cons,cnts,cnts,h a (by simp),zbh fun k hk=>h k (List.mem_cons_of_mem _ hk)]
theorem zfF (n:Nat):1<=(zFz n).length:=by
 unfold zFz;split
 ·exact Nat.le_refl _
 ·rename_i h;rw [List.length_reverse];exact List.length_pos_iff.2 (zOr n h).2
theorem zh9 (op:Nat) (h:1<=op/\op<=11):1<=(opT op).length:=by
 have:op=1\/op=2\/op=3\/op=4\/op=5\/op=6\/op=7\/op=8\/op=9\/op=10\/op=11:=by omega
 rcases this with rfl|rfl|rfl|rfl|rfl|rfl|rfl|rfl|rfl|rfl|rfl <;> decide
theorem zkq (hc:c.ok) {x:Bool} {n:Nd} (h:Wf x n):OnOk c x n:=by
 have leaf:∀ {x:Bool} {n:Nd},Wf x n->onN c n=n->cnt n=1->1<=(txt n).length->OnOk c x n:=fun hw e h1 h2=>⟨by rw [e];exact hw,by rw [e],by rw [e],by rw [e],by rw [e];omega,by omega⟩;have bad:∀ x,Wf x ziy:=fun x=>Wf.bad x 3 tO;induction h with
 |num x m h=>exact leaf (Wf.num x m h) rfl rfl (by rw [zKs];exact zfF _)
 |txt x t=>exact leaf (Wf.txt x t) rfl rfl (by rw [zKt];simp)
 |tru x b=>exact leaf (Wf.tru x b) rfl rfl (by cases b <;> decide)
 | bad x k h=>exact leaf (Wf.bad x k h) rfl rfl (by
   have:k=1\/k=2\/k=3\/k=4\/k=5\/k=6:=by omega
   rcases this with rfl|rfl|rfl|rfl|rfl|rfl <;> decide)
 |ref x r h=>
  have hl:=zFh h;have e:=zbf (c:=c) r;cases hr:c.ref r with
  |none=>
   rw [hr] at e;exact ⟨by rw [e];exact bad x,by rw [e];rfl,by rw [e];rfl,by rw [e];rfl,by rw [e,zIQ,zWK];omega,by rw [zIQ];show 1<=_;omega⟩
  |some r'=>
   rw [hr] at e;have hk:=hc.1 r r' h hr;have hl2:=zFh hk;exact ⟨by rw [e];exact Wf.ref x r' hk,by rw [e];rfl,by rw [e];rfl,by rw [e];rfl,by rw [e,zIQ,zIQ];omega,by rw [zIQ];show 1<=_;omega⟩
 |box r o h k=>
  have hl:=zFh h;have hl1:=zFh k;have e:=zbg (c:=c) r o;have ht:(txt (zAy r o)).length=(zD3 r).length+((zD3 o).length+1):=by rw [zOp];simp
  cases hr:c.box r o with
  |none=>
   rw [hr] at e;exact ⟨by rw [e];exact bad true,by rw [e];rfl,by rw [e];rfl,by rw [e];rfl,by rw [e,ht,zWK];omega,by rw [ht];show 1<=_;omega⟩
  |some p=>
   rw [hr] at e;obtain ⟨hk,hk2⟩:=hc.2 r o p h k hr;have hl2:=zFh hk;have hl3:=zFh hk2;have ht2:(txt (zAy p.1 p.2)).length=(zD3 p.1).length+((zD3 p.2).length+1):=by rw [zOp];simp
   exact ⟨by rw [e];exact Wf.box _ _ hk hk2,by rw [e];rfl,by rw [e];rfl,by rw [e];rfl,by rw [e,ht,ht2];omega,by rw [ht];show 1<=_;omega⟩
 |neg x n h ih=>
  obtain ⟨h1,h2,h3,h4,h5,h6⟩:=ih;have e:=zko (c:=c) n;have ec:∀ m,cnt (zl1 m)=1+(cnt m+0):=fun m=>rfl;have el:∀ m,(txt (zl1 m)).length=(txt m).length+(if zb m<9 then 2 else 0)+1:=fun m=>by rw [zEz,List.length_cons,zBj];simp
  refine ⟨by rw [e];exact Wf.neg x _ h1,by rw [e,ec,ec,h2],by rw [e,zNa,zNa,h3,h4],by rw [e];rfl, ?_, ?_⟩
  ·rw [e,el,el,h4];omega
  ·rw [el,ec];omega
 |two x op a b h ha hb iha ihb=>
  obtain ⟨h1,h2,h3,h4,h5,h6⟩:=iha;obtain ⟨k1,k2,k3,k4,k5,k6⟩:=ihb;have e:=zkp (c:=c) op a b;have ec:∀ m m',cnt (zAn op m m')=1+(cnt m+(cnt m'+0)):=fun m m'=>rfl;have el:∀ m m',(txt (zAn op m m')).length=(txt m).length+(if zb m<tight op then 2 else 0)+(opT op).length+((txt m').length+(if zb m'<=tight op then 2 else 0)):=fun m m'=>by rw [zEX];simp only [List.length_append,zBj,decide_eq_true_eq]
  have ho:=zh9 op h;refine ⟨by rw [e];exact Wf.two x op _ _ h h1 k1,by rw [e,ec,ec,h2,k2],by rw [e,zNb,zNb,h3,h4,k3,k4],by rw [e,zLp,zLp], ?_, ?_⟩
  ·rw [e,el,el,h4,k4];omega
  ·rw [el,ec];omega
 |call x t ks h hk ih=>
  have e:=zh8 (c:=c) t ks;have ec:∀ l,cnt (zAw t l)=1+cnts l:=fun l=>rfl;have el:∀ l:List Nd,(txt (zAw t l)).length=t.length+(zAx (l.map txt)).length+2:=fun l=>by rw [zCz];simp;omega
  have hw:∀ k∈ks.map (onN c),Wf true k:=fun k hk'=>by
   obtain ⟨k0,hk0,rfl⟩:=List.mem_map.1 hk';exact (ih k0 hk0).wf
  refine ⟨by rw [e];exact Wf.call x t _ h hw,by rw [e,ec,ec,zbh fun k hk'=>(ih k hk').cnt], ?_,by rw [e];rfl, ?_, ?_⟩
  ·rw [e,zLo,zLo,List.map_map];have:ks.map (need ∘ onN c)=ks.map need:=List.map_congr_left fun k hk'=>(ih k hk').need;rw [this]
  ·rw [e,el,el];have:=zTE (f:=onN c) fun k hk'=>(ih k hk').len;omega
  ·rw [el,ec];have:=zTF fun k hk'=>(ih k hk').le;omega
def zB9 (n:Nd):Nat:=if (txt n).length<=199 then 0 else 4
def zDT (n:Nd):Bs:=if (txt n).length<=199 then 61::txt n else []
end
end Go.AM
set_option maxRecDepth 20000
namespace Go.AM
section
variable {C:CSpec} {GT:Nat->Option AV}
set_option maxHeartbeats 4000000 in
theorem zfG (n:Nd) (hn:Wf false n) (hd:need n<=30) (hcn:cnt n<=200) (hln:(txt n).length<=5000)
  (hCt:∀ c l H,H[c]?=some (.box [zL l])->cnt n<=l->l<=1000000->C zDY [ndV n,bR c] H (.bool true) (H.set c (.box [zL (l-cnt n)]))) (hF:FmH C false n) (hWb:WbH C) (hW:WrH C n)
  (hS:St1H C) (hS2:St2H C) (hPr:∀ H,C zAM [.str (61::txt n)] H (zFE (61::txt n)) H) (H:Heap):EFun C GT zI8 [ndV n] H (.tup [.str (zDT n),eV (zB9 n)]) H:=by
 have hct:=hCt (H++[ABlk.box (ndV n).cells]).length 200 ((((H++[ABlk.box (ndV n).cells])++[ABlk.box [zL 0]]).set (H++[ABlk.box (ndV n).cells]).length (.box [zL 200]))) hP hcn tO;obtain ⟨Hd,ed⟩:∃ Hd,(((H++[ABlk.box (ndV n).cells])++[ABlk.box [zL 0]]).set (H++[ABlk.box (ndV n).cells]).length (ABlk.box [zL 200])).set (H++[ABlk.box (ndV n).cells]).length (ABlk.box [zL (200-cnt n)])=Hd:=⟨_,rfl⟩;rw [ed] at hct;have hnd:Hd[H.length]?=some (ABlk.box (ndV n).cells):=by rw [<-ed];exact zE (by simp) hP
 have hOd:Old H Hd:=by rw [<-ed];exact ((((Old.refl H).push _).push _).set (by simp) _).set (by simp) _
 have hnl:=(zg hnd).1;obtain ⟨H2,hw2,h2⟩:=hWb H Hd.length [] 61 _ (BAt.fresh hOd) ((hOd.push _).push _) (by simp);have hn2:H2[H.length]?=some (.box (ndV n).cells):=h2.2.2.2 _ _ tO (by intro xs e;cases e) (zG (zG hnd));obtain ⟨H3,hw3,h3⟩:=hW H Hd.length _ H2 h2.1 h2.2.1 h2.1.lt (by simp;omega);obtain ⟨H4,hs,h4,hO4,hl4⟩:=hS H Hd.length _ H3 h3.1 h3.2.1 (by simp);have es:[]++[61]++txt n=61::txt n:=rfl;rw [es] at hs h4;have hf:∀ H,C zBn [ndV n,.bool false] H (.bool true) H:=hF;clear hCt hWb hW hF;refine zH<|sX ?_
 unfold zFE at hPr;by_cases hl:(txt n).length<=199
 ·rw [zS9 hn hd hl] at hPr;have hp:∀ H,C zAM [.str (61::txt n)] H (.tup [ndV n,.int .i64 0,.nili]) H:=hPr;have et:zDT n=61::txt n:=by unfold zDT;rw [if_pos hl]
  have en:zB9 n=0:=by unfold zB9;rw [if_pos hl]
  have hs2:∀ x y,C zAB [bR Hd.length] ((H4++[ABlk.box x]).set H4.length (ABlk.box y)) (.str (61::txt n)) ((H4++[ABlk.box x]).set H4.length (ABlk.box y)):=fun x y=>hS2 H Hd.length _ _ (h4.keep (fun z hz=>zE (by have:=(zg hz).1;omega) (zG hz)) (fun c z _ hz=>zE (by have:=(zg hz).1;omega) (zG hz)));rw [et,en];clear hPr hS hS2;refine zM [zL 200] hP rfl rfl rfl rfl<|sX ?_;refine zMj (v:=.ref Hd.length 0 0 0) (H':=(Hd++[ABlk.box [.nilp,.lst (some true) 0 []]])++[ABlk.shp Hd.length zz 2]) rfl<|sX ?_;refine sSA (ndV n) ?_;refine sX ?_
  exact zAQ rfl rfl rfl rfl ((hO4.push _).set hO4.1 _)
 ·have hq:zAj (61::txt n)=none:=by
   unfold zAj;rw [if_neg (fun h=>hl (by have:=h.1;simp only [List.length_cons] at this;omega))]
  rw [hq] at hPr;have hp:∀ H,C zAM [.str (61::txt n)] H zXg H:=hPr;have et:zDT n=[]:=by unfold zDT;rw [if_neg hl]
  have en:zB9 n=4:=by unfold zB9;rw [if_neg hl]
  rw [et,en];clear hPr hS hS2;refine zM [zL 200] hP rfl rfl rfl rfl<|sX ?_;refine zMj (v:=.ref Hd.length 0 0 0) (H':=(Hd++[ABlk.box [.nilp,.lst (some true) 0 []]])++[ABlk.shp Hd.length zz 2]) rfl<|sX ?_;refine sSA (ndV zU) ?_;refine sX ?_
  exact zAQ rfl rfl rfl rfl ((hO4.push _).set hO4.1 _)
end
end Go.AM
namespace Go.AM
section
variable {P:Program} {GT:Nat->Option AV} {w w':World} {M:AMap} {I:Nat->Prop} {H:Heap}
theorem Sim.mut_at (hS:Sim GT w M I H) {b:Nat} {x:ABlk} (hb:H[b]?=some x) (hm:x.mut=true) {g o:Nat} (hM:M b=some (g,o)):∃ _cur:Array Value,True/\¬ I g/\g<w.heap.size:=by
 have h:=hS.blk b x hb;cases x with
 |dead=>simp [ABlk.mut] at hm
 |shp=>simp [ABlk.mut] at hm
 |ty=>simp [ABlk.mut] at hm
 |hd=>simp [ABlk.mut] at hm
 |frz=>simp [ABlk.mut] at hm
 |box cs=>
  obtain ⟨g1,o1,cur,h1,h2,h3,_⟩:=h;rw [hM] at h1;cases h1;obtain ⟨e,fz,h4,h5⟩:=h2;exact ⟨cur,trivial,h3,(Array.getElem?_eq_some_iff.1 h4).1⟩
 |mp ks vs=>
  obtain ⟨g1,es,cl,h1,h2,h3,_⟩:=h;rw [hM] at h1;simp only [Option.some.injEq,Prod.mk.injEq] at h1;obtain ⟨rfl,_⟩:=h1;exact ⟨#[],trivial,h3,(Array.getElem?_eq_some_iff.1 h2).1⟩
 |row k xs=>
  obtain ⟨_,⟨h1,_⟩|⟨g1,o1,cur,h1,h2,h3,_⟩⟩:=h
  ·rw [hM] at h1;cases h1
  ·rw [hM] at h1;cases h1;obtain ⟨e,fz,h4,h5⟩:=h2;exact ⟨cur,trivial,h3,(Array.getElem?_eq_some_iff.1 h4).1⟩
theorem zQT (hS:Sim GT w M I H) {b:Nat} {x:ABlk} (hb:H[b]?=some x) (hm:x.mut=true) {g o:Nat} (hM:M b=some (g,o)) (hos:w'.os=w.os) (htape:w'.tape=w.tape) (hout:w'.output=w.output) (hsize:w.heap.size<=w'.heap.size)
  (hfr:∀ j,j<w.heap.size->j≠g->w'.heap[j]?=w.heap[j]?) (hshape:∀ s,w.shape? g=some s->w'.shape? g=some s) {y:ABlk} {G:Nat->Prop} (hG:∀ j,G j->(j=g/\y.mut=false)\/w.heap.size<=j) (hGl:∀ j,G j->j<w'.heap.size)
  (hy:zNf w' M (fun j=>I j\/G j) H.length b y) :
  Grow w M I H w' M (fun j=>I j\/G j) (H.set b y)/\Sim GT w' M (fun j=>I j\/G j) (H.set b y):=by
 obtain ⟨cur,hcur,hnI,hglt⟩:=hS.mut_at hb hm hM;have hblt:=(zg hb).1;have live:zIR H M g:=⟨b,x,o,hb,hm,hM⟩;have shp:∀ j s,w.shape? j=some s->w'.shape? j=some s:=fun j s hs=>by
  by_cases hj:j=g
  ·subst hj;exact hshape s hs
  ·have hlt:j<w.heap.size:=by
    rcases Nat.lt_or_ge j w.heap.size with h|h
    ·exact h
    ·simp [World.shape?,Array.getElem?_eq_none h] at hs
   rw [zBB (hfr j hlt hj)];exact hs
 have hIh:∀ k,I k->w'.heap[k]?=w.heap[k]?:=fun k hk=>hfr k (hS.idom k hk) (fun e=>hnI (e ▸ hk));have other:∀ b' x',(H.set b y)[b']?=some x'->b'≠b->H[b']?=some x':=fun b' x' h hne=>by rwa [List.getElem?_set_ne (Ne.symm hne)] at h
 have at_b:(H.set b y)[b]?=some y:=List.getElem?_set_self hblt;refine ⟨⟨hos,htape,hout,hsize,fun _ _=>rfl,fun _ h=>.inl h,fun j hj hlt=>?_,fun j hlt hn=>hfr j hlt (fun e=>hn (e ▸ live)),fun j hlt hl=>?_,shp,by rw [List.length_set];exact Nat.le_refl _⟩, ?_⟩
 ·rcases hj with hj|hj
  ·exact .inl hj
  ·grind
 ·obtain ⟨b',x',o',h1,h2,h3⟩:=hl;by_cases e:b'=b
  ·subst e;rw [hM] at h3;cases h3;exact live
  ·exact ⟨b',x',o',other b' x' h1 e,h2,h3⟩
 ·refine ⟨fun q z hz=>?_,fun k hk=>?_,fun b' x' hx=>?_,fun b1 b2 x1 x2 g1 o1 o2 h1 m1 h2 m2 e1 e2=>?_,fun q z hz=>?_⟩
  ·exact (hS.glob q z hz).mono (M':=M) (n:=0) (fun _ h=>.inl h) hIh (fun _ h=>absurd h (Nat.not_lt_zero _)) (Nat.zero_le _) shp
  ·rcases hk with hk|hk
   ·exact Nat.lt_of_lt_of_le (hS.idom k hk) hsize
   ·exact hGl k hk
  ·rw [List.length_set];by_cases e:b'=b
   ·subst e;rw [at_b] at hx;cases hx;exact hy
   ·have hx':=other b' x' hx e;have far:∀ g1 o1,M b'=some (g1,o1)->x'.mut=true->g1≠g/\g1<w.heap.size:=fun g1 o1 h1 hm1=>by
     refine ⟨fun eg=>?_,(hS.mut_at hx' hm1 h1).choose_spec.2.2⟩;subst eg;exact e (hS.inj b' b x' x g1 o1 o hx' hm1 hb hm h1 hM)
    refine (hS.blk b' x' hx').mono (zg hx').1 (fun _ h=>.inl h) hIh (fun _ _=>rfl) (Nat.le_refl _) shp (fun g1 o1 h1 hm1=>?_) (fun g1 o1 h1 hm1 hn=>?_)
    ·exact hfr g1 (far g1 o1 h1 hm1).2 (far g1 o1 h1 hm1).1
    ·rintro (h|h)
     ·exact hn h
     ·rcases hG g1 h with ⟨rfl,_⟩|h'
      ·exact (far _ o1 h1 hm1).1 rfl
      ·have:=(far g1 o1 h1 hm1).2;omega
  ·have key:∀ {b1 b2:Nat} {x1 x2:ABlk} {g1 o1 o2:Nat},(H.set b y)[b1]?=some x1->x1.mut=true->(H.set b y)[b2]?=some x2->x2.mut=true->M b1=some (g1,o1)->M b2=some (g1,o2)->b1=b->b2=b:=by
    intro b1 b2 x1 x2 g1 o1 o2 h1 m1 h2 m2 e1 e2 e;subst e;by_cases e':b2=b1
    ·exact e'
    ·rw [hM] at e1;cases e1;exact hS.inj b2 b1 x2 x g o2 o (other b2 x2 h2 e') m2 hb hm e2 hM
   by_cases c1:b1=b
   ·exact c1.trans (key h1 m1 h2 m2 e1 e2 c1).symm
   ·by_cases c2:b2=b
    ·exact absurd (key h2 m2 h1 m1 e2 e1 c2) c1
    ·exact hS.inj b1 b2 x1 x2 g1 o1 o2 (other b1 x1 h1 c1) m1 (other b2 x2 h2 c2) m2 e1 e2
  ·obtain ⟨e,h⟩:=hS.shp q z hz;exact ⟨e,shp q _ h⟩
theorem zfH (hS:Sim GT w M I H) {b k:Nat} {xs:List AV} (hb:H[b]?=some (.row k xs)) {g o:Nat} (hM:M b=some (g,o)) (hos:w'.os=w.os) (htape:w'.tape=w.tape) (hout:w'.output=w.output) (hsize:w.heap.size<=w'.heap.size)
  (hfr:∀ j,j<w.heap.size->j≠g->w'.heap[j]?=w.heap[j]?) (hshape:∀ s,w.shape? g=some s->w'.shape? g=some s) {ys:List AV} (he:Elems k ys) {g' o' cap:Nat} (hg:g'=g\/w.heap.size<=g') (hlt:g'<w'.heap.size) (hc:ys.length<=cap) (hm:cap<=maxLen)
  (hcells:∀ i j y c,ys[i]?=some y->y.cells[j]?=some c->∃ v,w'.cell? ⟨g',o'+i*k+j,none⟩=some v/\∀ M I n,Rel w' M I n c v) :
  ∃ M' I',Grow w M I H w' M' I' (H.set b .dead)/\Sim GT w' M' I' (H.set b .dead)/\Rel w' M' I' (H.set b .dead).length (.lst (some false) k ys) (.slice (some ⟨g',o',none⟩) ys.length cap):=by
 obtain ⟨h1,h2⟩:=zQT (y:=.dead) (G:=fun j=>j=g') hS hb rfl hM hos htape hout hsize hfr hshape (fun j hj=>by
  rcases hg with h|h
  ·exact .inl ⟨hj.trans h,rfl⟩
  ·exact .inr tO) (fun j hj=>by omega) trivial
 refine ⟨M,_,h1,h2, ?_⟩;exact Rel.mk_lst (by simp) hc hm (.inr rfl) he fun i j x c hx hj=>by
  obtain ⟨v,e1,e2⟩:=hcells i j x c hx hj;exact ⟨v,e1,e2 _ _ _⟩
end
end Go.AM
namespace Go.AM
open Go Go.Lib Go.Proofs
theorem zJr {P:Program} (w:World) (dT sT ty elem:TypeId) (size b o dLen dCap:Nat) (a:Addr) (sLen sCap:Nat) (cs:List Value)
  (hu:P.underlying dT=some (.slice elem)) (hs:(P.info? elem).map (·.size)=some size) (hn:cs.length=Nat.min sLen dLen*size)
  (hsrc:∀ j v,cs[j]?=some v->w.cell? (a.add j)=some v) (hc:∀ j,j<cs.length->(w.cell? ⟨b,o+j,none⟩).isSome=true) (hf:∀ j,j<cs.length->w.frozen? ⟨b,o+j,none⟩=false) (h1:∀ v∈cs,v.oneCell'=true) :
  (Builtin.copy_ #[dT,sT] ty #[.slice (some ⟨b,o,none⟩) dLen dCap,.slice (some a) sLen sCap]).run P w=.ok (goInt (Nat.min sLen dLen)) (w.setCells b o cs):=by
 have hl:=run_loadCells_list (P:=P) w a cs hsrc;have hst:=run_storeCells_cells (P:=P) b o cs 0 w (by simpa using hc) (by simpa using hf) h1;cases hq:P.info? elem with
 |none=>simp [hq] at hs
 |some i=>
  have hi:i.size=size:=by simpa [hq] using hs
  simp [Builtin.copy_,run_underlying hu,Builtin.lenOf,Builtin.firstCells,sizeOf,typeInfo,hq,hi,<-hn,hl,hst]
theorem zUu {P:Program} (w:World) (t e ty:TypeId) (z:Value) (zs:List Value) (ht:P.underlying t=some (.slice e)) (hv:∀ w,(zeroValue e).run P w=.ok z w) (b o n c:Nat) (hn:0<n) (hz:(Builtin.zeroCells z.cells n).toList=zs) (h1:∀ v∈zs,v.oneCell'=true)
  (hc:∀ j,j<zs.length->(w.cell? ⟨b,o+j,none⟩).isSome=true) (hf:∀ j,j<zs.length->w.frozen? ⟨b,o+j,none⟩=false) :
  (Builtin.clear_ #[t] ty #[.slice (some ⟨b,o,none⟩) n c]).run P w=.ok (.tuple #[]) (w.setCells b o zs):=by
 have hst:=run_storeCells_cells (P:=P) b o zs 0 w (by simpa using hc) (by simpa using hf) h1;simp only [Nat.add_zero] at hst;obtain ⟨m,rfl⟩:∃ m,n=m+1:=⟨n-1,by omega⟩;simp [Builtin.clear_,run_underlying ht,hv,hz,hst]
end Go.AM
namespace Go.AM
section
theorem zFN {P:Program} {GT:Nat->Option AV} {f:FuncId} {fn:Func} {args:List AV} {H H':Heap} {v:AV} (hf:P.funcs[f]?=some fn) (hname:(fn.name == "runtime.NumGoroutine")=false) (hb:fn.body.isSome=true) (hn:zIt args=true)
  (h:∀ (w:World) (M:AMap) (I:Nat->Prop) (cargs:List Value),Sim GT w M I H->zED w M I H.length args cargs->Calls P f cargs.toArray w fun e w'=>∃ v',e=.returned v'/\∃ M' I',Grow w M I H w' M' I' H'/\Sim GT w' M' I' H'/\Rel w' M' I' H'.length v v'):Good P GT f args H v H':=by
 refine zIu hn ?_;intro w M I cargs hS hA;have h1:fn.name ≠ "runtime.NumGoroutine" := by simpa using hname
 obtain ⟨c,hb⟩:=Option.isSome_iff_exists.1 hb;have hrun:(callFunc f cargs.toArray).run P w=.ok (.enter f cargs.toArray) w:=by simp [callFunc,hf,h1,hb]
 rw [hrun];exact h w M I cargs hS hA
end
end Go.AM
namespace Go.AM
open Go Go.Lib Go.Proofs
structure SameBut (g:Nat) (w w':World):Prop where
 os:w'.os=w.os
 tape:w'.tape=w.tape
 out:w'.output=w.output
 size:w.heap.size<=w'.heap.size
 other:∀ j,j<w.heap.size->j≠g->w'.heap[j]?=w.heap[j]?
 shape:∀ j s,w.shape? j=some s->w'.shape? j=some s
theorem SameBut.refl (g:Nat) (w:World):SameBut g w w:=⟨rfl,rfl,rfl,Nat.le_refl _,fun _ _ _=>rfl,fun _ _ h=>h⟩
theorem SameBut.trans {g:Nat} {w w1 w2:World} (h:SameBut g w w1) (k:SameBut g w1 w2):SameBut g w w2:=
 ⟨k.os.trans h.os,k.tape.trans h.tape,k.out.trans h.out,Nat.le_trans h.size k.size,fun j hj hn=>(k.other j (Nat.lt_of_lt_of_le hj h.size) hn).trans (h.other j hj hn),fun j s hs=>k.shape j s (h.shape j s hs)⟩
theorem SameBut.drew {g:Nat} (w:World):SameBut g w w.drew:=⟨rfl,rfl,rfl,Nat.le_refl _,fun _ _ _=>rfl,fun _ _ h=>h⟩
theorem SameBut.setCell (w:World) (g o:Nat) (v:Value):SameBut g w (w.setCell ⟨g,o,none⟩ v):=by
 refine ⟨rfl,rfl,rfl,by simp [World.setCell],fun j _ hn=>?_,fun j s hs=>?_⟩
 ·simp only [World.setCell,Array.getElem?_modify];rw [if_neg (Ne.symm hn)]
 ·simp only [World.shape?,World.setCell,Array.getElem?_modify] at hs ⊢;by_cases e:g=j
  ·rw [if_pos e];cases hq:w.heap[j]? with
   |none=>rw [hq] at hs;cases hs
   |some ob=>
    rw [hq] at hs;cases ob <;> simp_all
  ·rw [if_neg e];exact hs
theorem SameBut.setCells (g:Nat):∀ (vs:List Value) (o:Nat) (w:World),SameBut g w (w.setCells g o vs)
 |[],_,w=>SameBut.refl g w
 |v::r,o,w=>by
  rw [World.setCells];exact (SameBut.setCell w g o v).trans (SameBut.setCells g r (o+1) _)
theorem SameBut.alloc (g:Nat) (w:World) (ob:Obj):SameBut g w (w.alloc ob):=by
 have hh:(w.alloc ob).heap=w.heap.push ob:=rfl;refine ⟨rfl,rfl,rfl,by rw [hh];simp,fun j hj _=>?_,fun j s hs=>?_⟩
 ·rw [hh,Array.getElem?_push];rw [if_neg tO]
 ·have hlt:j<w.heap.size:=by
   rcases Nat.lt_or_ge j w.heap.size with h|h
   ·exact h
   ·simp [World.shape?,Array.getElem?_eq_none h] at hs
  simp only [World.shape?] at hs ⊢;rw [hh,Array.getElem?_push,if_neg tO];exact hs
def zK0 (f:Fil):List Value:=[.int .i64 f.col,.int .i64 f.row,.string ⟨f.text.toArray⟩]
def zBk (l:List Fil):List Value:=l.flatMap zK0
theorem zE1 (l:List Fil):(zBk l).length=l.length*3:=by
 unfold zBk;induction l with
 |nil=>rfl
 |cons f r ih=>simp only [List.flatMap_cons,List.length_append,List.length_cons,ih,zK0,List.length_nil];omega
theorem zTG (l:List Fil) (i j:Nat) (f:Fil) (v:Value) (hf:l[i]?=some f) (hv:(zK0 f)[j]?=some v):(zBk l)[i*3+j]?=some v:=by
 unfold zBk;induction l generalizing i with
 |nil=>simp at hf
 |cons g r ih=>
  have hj:j<3:=by have:=(zg hv).1;simpa [zK0] using this
  cases i with
  |zero=>
   simp only [List.getElem?_cons_zero,Option.some.injEq] at hf;subst hf;rw [List.flatMap_cons,List.getElem?_append_left (by simp [zK0];omega)];simpa using hv
  |succ i=>
   rw [List.flatMap_cons,List.getElem?_append_right (by simp [zK0];omega)];have:=ih i (by simpa using hf);have e:(i+1)*3+j-(zK0 g).length=i*3+j:=by simp [zK0];omega
   rw [e];exact this
theorem zUv (l:List Fil) (x:Nat) (v:Value) (h:(zBk l)[x]?=some v):∃ f,l[x/3]?=some f/\(zK0 f)[x%3]?=some v:=by
 have hx:=(zg h).1;rw [zE1] at hx;obtain ⟨f,hf⟩:∃ f,l[x/3]?=some f:=⟨_,List.getElem?_eq_getElem tO⟩;obtain ⟨u,hu⟩:∃ u,(zK0 f)[x%3]?=some u:=⟨_,List.getElem?_eq_getElem (by simp [zK0];omega)⟩;have:=zTG l (x/3) (x%3) f u hf hu;rw [show x/3*3+x%3=x by omega,h] at this;cases this;exact ⟨f,hf,hu⟩
theorem zJX (l:List Fil):∀ v∈zBk l,v.oneCell'=true:=by
 intro v hv;unfold zBk at hv;obtain ⟨f,_,hf⟩:=List.mem_flatMap.1 hv;simp only [zK0,List.mem_cons,List.not_mem_nil,or_false] at hf;rcases hf with rfl|rfl|rfl <;> rfl
theorem zbi (l:List Fil):Elems 3 (l.map zf):=by
 intro x hx;obtain ⟨f,_,rfl⟩:=List.mem_map.1 hx;rfl
theorem ziA {w:World} {M:AMap} {I:Nat->Prop} {n:Nat} (f:Fil) (j:Nat) (c:AV) (v:Value) (hc:(zf f).cells[j]?=some c) (hv:(zK0 f)[j]?=some v):Rel w M I n c v:=by
 match j,hc,hv with
 |0,hc,hv=>cases hc;cases hv;exact .int _ _
 |1,hc,hv=>cases hc;cases hv;exact .int _ _
 |2,hc,hv=>cases hc;cases hv;exact .str _
 |j+3,hc,hv=>simp [zK0] at hv
theorem ziB {w:World} {M:AMap} {I:Nat->Prop} {n:Nat} (f:Fil) (j:Nat) (c:AV) (v:Value) (hc:(zf f).cells[j]?=some c) (h:Rel w M I n c v):(zK0 f)[j]?=some v:=by
 match j,hc with
 |0,hc=>cases hc;cases h;rfl
 |1,hc=>cases hc;cases h;rfl
 |2,hc=>cases hc;cases h;rfl
 |j+3,hc=>simp [zf,AV.cells] at hc
theorem zRf {GT:Nat->Option AV} {w:World} {M:AMap} {I:Nat->Prop} {H:Heap} (hS:Sim GT w M I H) {b:Nat} {l:List Fil} (hb:H[b]?=some (.row 3 (l.map zf))) (hl:l≠[]) :
  ∃ g o e sz,M b=some (g,o)/\g<w.heap.size/\w.shape? g=some (e,sz)/\o+l.length*3<=sz/\(∀ j v,(zBk l)[j]?=some v->w.cell? ⟨g,o+j,none⟩=some v)/\(∀ j,j<sz->(w.cell? ⟨g,j,none⟩).isSome=true)/\(∀ j,j<=sz->w.frozen? ⟨g,j,none⟩=false):=by
 obtain ⟨_,⟨_,h⟩|⟨g,o,cur,hM,⟨e,fz,h1,h2⟩,_,hfit,hc⟩⟩:=hS.blk b _ hb
 ·exact absurd (List.map_eq_nil_iff.1 h) hl
 ·rw [List.length_map] at hfit;refine ⟨g,o,e,cur.size,hM,(Array.getElem?_eq_some_iff.1 h1).1,by simp [World.shape?,h1],hfit,fun j v hj=>?_,fun j hj=>?_,fun j hj=>?_⟩
  ·obtain ⟨f,hf,hv⟩:=zUv l j v hj;have hjl:j%3<3:=Nat.mod_lt _ tO;obtain ⟨c,hcc⟩:∃ c,(zf f).cells[j%3]?=some c:=⟨_,List.getElem?_eq_getElem (by simpa [zf,AV.cells] using hjl)⟩;obtain ⟨u,hu,hr⟩:=hc (j/3) (j%3) (zf f) c (by rw [List.getElem?_map,hf];rfl) hcc;have:=ziB f (j%3) c u hcc hr;rw [hv] at this;cases this;have e2:o+j/3*3+j%3=o+j:=by omega
   rw [e2] at hu;simp only [World.cell?,h1];simpa using hu
  ·simp only [World.cell?,h1];simpa using hj
  ·simp only [World.frozen?,h1];have:=h2 j tO;simpa using this
theorem zLs (a b:List Fil):zBk (a++b)=zBk a++zBk b:=by unfold zBk;exact List.flatMap_append
theorem zJs (l:List Fil) (i:Nat) (hi:i<=l.length):zBk (l.take i)=(zBk l).take (i*3):=by
 have h:=zLs (l.take i) (l.drop i);rw [List.take_append_drop] at h;rw [h,List.take_left' (by rw [zE1,List.length_take];congr 1;omega)]
theorem zQU (l:List Fil) (i:Nat) (hi:i<=l.length):zBk (l.drop i)=(zBk l).drop (i*3):=by
 have h:=zLs (l.take i) (l.drop i);rw [List.take_append_drop] at h;rw [h,List.drop_left' (by rw [zE1,List.length_take];congr 1;omega)]
theorem zJY {GT:Nat->Option AV} {w w':World} {M:AMap} {I:Nat->Prop} {H:Heap} (hS:Sim GT w M I H) {b k:Nat} {xs:List Fil} (hb:H[b]?=some (.row 3 (xs.map zf))) {g o:Nat} (hM:M b=some (g,o)) (hs:SameBut g w w') {ys:List Fil} {g' o' cap:Nat} (hg:g'=g\/w.heap.size<=g') (hlt:g'<w'.heap.size)
  (hc:ys.length<=cap) (hm:cap<=maxLen) (hcells:∀ x v,(zBk ys)[x]?=some v->w'.cell? ⟨g',o'+x,none⟩=some v) :
  ∃ M' I',Grow w M I H w' M' I' (H.set b .dead)/\Sim GT w' M' I' (H.set b .dead)/\Rel w' M' I' (H.set b .dead).length (.lst (some false) 3 (ys.map zf)) (.slice (some ⟨g',o',none⟩) ys.length cap):=by
 have h:=zfH (ys:=ys.map zf) hS hb hM hs.os hs.tape hs.out hs.size hs.other (fun s h=>hs.shape g s h) (zbi ys) hg hlt (by rw [List.length_map];exact hc) hm (o':=o') fun i j y c hy hc=>by
  rw [List.getElem?_map] at hy;obtain ⟨f,hf,rfl⟩:=Option.map_eq_some_iff.1 hy;have hj:j<3:=by have:=(zg hc).1;simpa [zf,AV.cells] using this
  obtain ⟨v,hv⟩:∃ v,(zK0 f)[j]?=some v:=⟨_,List.getElem?_eq_getElem (by simp [zK0];omega)⟩;refine ⟨v, ?_,fun M I n=>ziA f j c v hc hv⟩;have:=hcells (i*3+j) v (zTG ys i j f v hf hv);rw [<-Nat.add_assoc] at this;exact this
 rw [List.length_map] at h;exact h
end Go.AM
set_option maxRecDepth 100000
namespace Go.Proofs
open Go.Shelf Go.RowKit Go.AM Go.Sort
theorem Tryz.itoa_number:Tryz.ownItoa_ren.f 171=zD7:=by kernel_rfl
theorem Tryz.check_number:Tryz.ownReplace_ren.f 240=zAq:=by kernel_rfl
theorem Tryz.text_number:Tryz.ownReplace_ren.f 169=zAB:=by kernel_rfl
section
variable {m:Int} {ev:Value}
theorem zkr {w:World} {M:AMap} {I:Nat->Prop} {H:Heap} (hS:Sim (gtQ m ev) w M I H):Lib.TabIs Tryz.prog w "internal/strconv.uint64pow10" .u64 Lib.pow10Tab:=by
 have h0:=hS.glob 6 zd1 rfl;obtain ⟨e,hs⟩:=hS.shp 6 zd1 rfl;have hlen:zd1.cells.length=20:=by unfold zd1;simp [AV.cells,Lib.pow10Tab]
 rw [hlen] at hs;have hcell:∀ i:Nat,i<20->w.cell? ⟨6,i,none⟩=some (.int .u64 (Lib.pow10Tab.getD i 0)):=fun i hi=>by
  have hc:zd1.cells[0+i]?=some (.int .u64 (Lib.pow10Tab.getD i 0)):=by
   unfold zd1;simp only [AV.cells,Nat.zero_add,List.getElem?_map];have:i<Lib.pow10Tab.length:=by rw [Lib.pow10Tab_length];exact hi
   rw [List.getElem?_eq_getElem this,List.getD_eq_getElem?_getD,List.getElem?_eq_getElem this];rfl
  cases h0 with
  |lref _ _ _ _ V hI hx hvv hr=>
   have h1:=hvv i _ hc;have h2:=hr i _ hc;rw [Nat.zero_add] at h1;rw [h1,zIG h2]
 have hg:Tryz.prog.globalNamed "internal/strconv.uint64pow10" = some 6:=by kernel_rfl
 unfold Lib.TabIs World.var?;rw [hg,Option.bind_some];unfold World.shape? at hs;unfold World.cell? at hcell;split at hs
 ·rename_i c el fz hheap;simp only [Option.some.injEq,Prod.mk.injEq] at hs;rw [hheap];simp only [Option.some.injEq];apply Array.ext';apply List.ext_getElem?;intro i;by_cases hi:i<20
  ·have:=hcell i hi;rw [hheap] at this;simp only [Option.isSome_none,Bool.false_eq_true,if_false] at this;have hp:i<Lib.pow10Tab.length:=by rw [Lib.pow10Tab_length];exact hi
   rw [Array.getElem?_toList,this];simp [List.getD_eq_getElem?_getD,List.getElem?_eq_getElem hp]
  ·rw [List.getElem?_eq_none (by simp;omega),List.getElem?_eq_none (by simp [Lib.pow10Tab_length];omega)]
 ·cases hs
theorem zfI (w:World) (k:Nat) (os:Array Obj):RowKit.Below w.heap.size w (grow (w.drewN k) os):=by
 have hh:(w.drewN k).heap=w.heap:=rfl;exact ⟨rfl,rfl,rfl,by simp [grow,hh],fun c hc=>by simp [grow,hh,Array.getElem?_append_left hc]⟩
theorem zgJ (n:Nat):zX3 (n:Int)=zFz n:=by
 unfold zX3 zFz signed;by_cases h:n=0
 ·rw [if_pos h,if_pos tO]
 ·grind
theorem zTH (n:Nat) (hn:n<=9223372036854775807) (H:Heap):Go.AM.Good Tryz.prog (gtQ m ev) zD7 [zL n] H (.str (zFz n)) H:=
 zEv Tryz.func151 (by kernel_rfl) (by kernel_rfl) fun w M I cargs hS hA=>by
  obtain ⟨v,rfl,hv⟩:=zJh hA;obtain rfl:=zIG hv;have h:=Any.strconv_Itoa Tryz.ownItoa (n:Int) tO tO w (zkr hS);rw [Tryz.itoa_number] at h;refine h.mono ?_;rintro e w' ⟨he,k,os,rfl⟩;refine ⟨_,he,zfI w k os, ?_⟩;rw [zhy,zgJ];exact .str _
theorem zRg (t:Bs) (hl:t.length<=1000000) (H:Heap):Go.AM.Good Tryz.prog (gtQ m ev) zBI [.str t,.str [34],.str [34,34]] H (.str (esc t)) H:=by
 have e:(zQD [34] [34,34] t).2=esc t:=by
  induction t with
  |nil=>rfl
  |cons c r ih=>
   have ih:=ih (by simp only [List.length_cons] at hl;omega);by_cases hc:c=34
   ·subst hc;have hp:([34]:Bs).isPrefixOf (34::r)=true:=by simp [List.isPrefixOf]
    rw [zRL [34] [34,34] (by simp) _ hp];show [34,34]++(zQD [34] [34,34] r).2=_;rw [ih,esc,if_pos rfl];rfl
   ·have hp:([34]:Bs).isPrefixOf (c::r)=false:=by simp [List.isPrefixOf,Ne.symm hc]
    rw [zOk [34] [34,34] c r hp];show c::(zQD [34] [34,34] r).2=_;rw [ih,esc,if_neg hc]
 have h:=zSt (m:=m) (ev:=ev) t [34] [34,34] H (by simp) hl (by simp);rw [e] at h;exact h
set_option maxHeartbeats 1000000 in
theorem zWL {P:Program} {ρ:Ren} (L:Lays.n169 P ρ) (X:Builder.Extra P ρ) (b g cap cells:Nat) (l:List UInt8) (h0:l≠[]) (w:World) (hc1:w.cell? ⟨b,1,none⟩=some (.slice (some ⟨g,0,none⟩) l.length cap)) (hsh:w.shape? g=some (ρ.t 5,cells)) (hle:l.length<=cells) (hcap:l.length<=cap) (hm:l.length<=9223372036854775807)
  (hcell:∀ (j:Nat) x,l[j]?=some x->w.cell? ⟨g,j,none⟩=some (.int .u8 x.toNat)) :
  Calls P (ρ.f 169) #[.pointer (some ⟨b,0,none⟩)] w fun e w'=>e=.returned (.string ⟨l.toArray⟩)/\w'=w.drew.freeze ⟨g,0,none⟩ l.length:=by
 have hl0:l.length≠0:=by simpa using h0
 have c1:w.drew.cell? ⟨b,1,none⟩=some (.slice (some ⟨g,0,none⟩) l.length cap):=hc1;have hSD:(Builtin.unsafeSliceData_ #[(ρ.t 37)] (ρ.t 127) #[.slice (some ⟨g,0,none⟩) l.length cap]).run P w.drew=.ok (.pointer (some ⟨g,0,none⟩)) w.drew:=
  Lib.run_unsafeSliceData_row _ _ _ _ _ _ tO
 have hUS:(Builtin.unsafeString_ #[(ρ.t 127),(ρ.t 3)] (ρ.t 9) #[.pointer (some ⟨g,0,none⟩),.int .i64 l.length]).run P w.drew=.ok (.string ⟨l.toArray⟩) (w.drew.freeze ⟨g,0,none⟩ l.length):=by
  refine Lib.run_unsafeString_row w.drew (ρ.t 127) (ρ.t 3) (ρ.t 9) (ρ.t 5) L.t127 X.cellsByte g cells hsh l h0 hle hm ?_;intro j x hx;rw [Addr.add_lit,Nat.zero_add];exact hcell j x hx
 have mixed:=L.mixed;have t72:=L.t72;have a72:=L.a72;have z72:=L.z72;have v72:=L.v72;have u72:=run_underlying L.t72;have t70:=L.t70;have a70:=L.a70;have z70:=L.z70;have v70:=L.v70;have u70:=run_underlying L.t70;have t37:=L.t37;have a37:=L.a37;have z37:=L.z37;have v37:=L.v37;have u37:=run_underlying L.t37;have t127:=L.t127;have a127:=L.a127;have z127:=L.z127;have v127:=L.v127;have u127:=run_underlying L.t127;have t3:=L.t3;have a3:=L.a3;have z3:=L.z3;have v3:=L.v3;have u3:=run_underlying L.t3;have t9:=L.t9;have a9:=L.a9;have z9:=L.z9;have v9:=L.v9;have u9:=run_underlying L.t9;have t5:=X.t5;have a5:=X.a5;have z5:=X.z5;have v5:=X.v5;have u5:=run_underlying X.t5
 go_enter L.f169,Body.n169_ntmps ρ
 go_wp2
 go_region_o
 all_goals (go_wp2;go_ret;exact ⟨rfl,rfl⟩)
theorem zTI {w:World} {g o:Nat} {v:Value} {cur:Array Value} {e:TypeId} {fz:Nat×Nat} (h:w.heap[g]?=some (.cells cur e fz)):(w.setCell ⟨g,o,none⟩ v).heap=w.heap.setIfInBounds g (.cells (cur.setIfInBounds o v) e fz):=by
 apply Array.ext_getElem?;intro i;simp only [World.setCell,Array.getElem?_modify,Array.getElem?_setIfInBounds];by_cases hi:g=i
 ·grind
 ·rw [if_neg hi,if_neg hi]
theorem zYC (b:Nat) (a v:AV) (H:Heap) (hb:H[b]?=some (.box [a,v])) (hs:H[b+1]?=some (.shp b zz 2)) (ha:a=.ref b 0 0 0\/a=.nilp) :
  Go.AM.Good Tryz.prog (gtQ m ev) zAq [bR b] H (.tup []) (H.set b (.box [.ref b 0 0 0,v])):=by
 refine zFN Tryz.func123 (by kernel_rfl) (by kernel_rfl) rfl fun w M I cargs hS hA=>?_;obtain ⟨p,rfl,hp⟩:=zJh hA;obtain ⟨_,g,hM,hsh⟩:=hS.blk _ _ hs;obtain ⟨g',o,cur,hM',hC,hI,hsz,hv⟩:=hS.blk _ _ hb;rw [hM] at hM';simp only [Option.some.injEq,Prod.mk.injEq] at hM';obtain ⟨rfl,rfl⟩:=hM';have hbl:=(zg hb).1;have hp':p=.pointer (some ⟨g,0,none⟩):=by
  cases hp with
  |ref _ _ _ _ g1 o1 _ hM1=>grind
 subst hp';obtain ⟨c0,h0,r0⟩:=hv 0 a rfl;obtain ⟨c1,h1,r1⟩:=hv 1 v rfl;obtain ⟨e,fz,hg,hfz⟩:=hC;have hcell:w.cell? ⟨g,0,none⟩=some c0:=by
  simp only [World.cell?,hg];exact h0
 rcases ha with rfl|rfl
 ·have hc0:c0=.pointer (some ⟨g,0,none⟩):=by
   cases r0 with
   |ref _ _ _ _ g1 o1 _ hM1=>
    rw [hM] at hM1;simp only [Option.some.injEq,Prod.mk.injEq] at hM1;obtain ⟨rfl,rfl⟩:=hM1;rfl
  subst hc0;have h:=Any.Builder_copyCheck_used { Tryz.ownReplace with } Tryz.extraReplace.toX72 g w hcell;rw [Tryz.check_number] at h;rw [zQ8 hb];refine h.mono ?_;rintro e' w' ⟨he,rfl⟩;exact ⟨_,he,M,I,Grow.refl ..,hS,.tup [] [] rfl (fun i c v h=>by simp at h)⟩
 ·have hc0:c0=.pointer none:=by cases r0;rfl
  subst hc0;have hfrz:w.frozen? ⟨g,0,none⟩=false:=by
   obtain ⟨lo,hi⟩:=fz;simp only [World.frozen?,hg];have:=hfz 0 (by simp at hsz;omega);simp only [Bool.and_eq_false_iff,decide_eq_false_iff_not];by_cases h:lo<=0
   ·right;intro h2;exact this ⟨h,h2⟩
   ·left;exact h
  have h:=Any.Builder_copyCheck_fresh { Tryz.ownReplace with } Tryz.extraReplace.toX72 g w hcell hsh hfrz;rw [Tryz.check_number] at h;refine h.mono ?_;rintro e' w' ⟨he,rfl⟩;have hh:=zTI (o:=0) (v:=.pointer (some ⟨g,0,none⟩)) hg;have hsz2:(cur.setIfInBounds 0 (.pointer (some ⟨g,0,none⟩))).size=cur.size:=by simp
  have hlt:=(Array.getElem?_eq_some_iff.1 hg).1;have hg2:(w.setCell ⟨g,0,none⟩ (.pointer (some ⟨g,0,none⟩))).heap[g]?=some (.cells (cur.setIfInBounds 0 (.pointer (some ⟨g,0,none⟩))) e fz):=by
   rw [hh,Array.getElem?_setIfInBounds,if_pos rfl,if_pos hlt]
  have hW:=Sim.write (w':=w.setCell ⟨g,0,none⟩ (.pointer (some ⟨g,0,none⟩))) (y:=.dead) hS hb rfl hM hg hsz2 hh rfl rfl rfl trivial;have R:∀ {c v},Rel w M I H.length c v->Rel (w.setCell ⟨g,0,none⟩ (.pointer (some ⟨g,0,none⟩))) M I H.length c v:=fun h=>by have:=hW.1.rel hS h;simpa using this
  simp only [List.length_cons,List.length_nil] at hsz;obtain ⟨G,S⟩:=Sim.write (w':=w.setCell ⟨g,0,none⟩ (.pointer (some ⟨g,0,none⟩))) (y:=.box [.ref b 0 0 0,v]) hS hb rfl hM hg hsz2 hh rfl rfl rfl ⟨g,0,_,hM,⟨e,fz,hg2,by rw [hsz2];exact hfz⟩,hI,by rw [hsz2];exact hsz,fun j c hj=>by
   match j,hj with
   |0,hj=>
    simp only [List.getElem?_cons_zero,Option.some.injEq] at hj;subst hj;exact ⟨.pointer (some ⟨g,0,none⟩),by rw [Array.getElem?_setIfInBounds,if_pos rfl,if_pos tO],.ref b 0 0 0 g 0 hbl hM⟩
   |1,hj=>
    simp only [List.getElem?_cons_succ,List.getElem?_cons_zero,Option.some.injEq] at hj;subst hj;exact ⟨c1,by rw [Array.getElem?_setIfInBounds,if_neg tO];exact h1,R r1⟩
   |j+2,hj=>simp at hj⟩
  exact ⟨_,he,M,I,G,S,.tup [] [] rfl (fun i c v h=>by simp at h)⟩
theorem zTJ:Tryz.ownReplace_ren.t 5=zEP:=by kernel_rfl
theorem zOw {w:World} {g n:Nat} {cur:Array Value} {e:TypeId} {lo hi:Nat} (hn:n≠0) (h:w.heap[g]?=some (.cells cur e (lo,hi))):∃ hi',n<=hi'/\(w.drew.freeze ⟨g,0,none⟩ n).heap=w.heap.setIfInBounds g (.cells cur e (0,hi'))/\(lo=0->n<=hi->hi'=hi):=by
 have hlt:=(Array.getElem?_eq_some_iff.1 h).1;have key:∀ fz':Nat×Nat,(if (lo==hi)=true then ((0:Nat),0+n) else (min lo 0,max hi (0+n)))=fz'->(w.drew.freeze ⟨g,0,none⟩ n).heap=w.heap.setIfInBounds g (.cells cur e fz'):=fun fz' hf=>by
  have hd:w.drew.heap=w.heap:=rfl;unfold World.freeze;rw [if_neg hn];apply Array.ext_getElem?;intro i;simp only [hd,Array.getElem?_modify,Array.getElem?_setIfInBounds];by_cases hi':g=i
  ·grind
  ·rw [if_neg hi',if_neg hi']
 by_cases hh:(lo==hi)=true
 ·grind
 ·grind
theorem zQV {w:World} {M:AMap} {I:Nat->Prop} {H:Heap} {GT:Nat->Option AV} (hS:Sim GT w M I H) {b d n:Nat} {a:AV} {p:Value} (hb:H[b]?=some (.box [a,.sl (some true) d 1 0 n])) (hs:H[b+1]?=some (.shp b zz 2)) (hn:n≠0) (hp:Rel w M I H.length (bR b) p) {gd:Nat} (hd:M d=some (gd,0)) :
  ∃ g cap sz e,p=.pointer (some ⟨g,0,none⟩)/\w.cell? ⟨g,1,none⟩=some (.slice (some ⟨gd,0,none⟩) n cap)/\w.shape? gd=some (e,sz)/\n<=sz/\n<=cap/\n<=maxLen:=by
 obtain ⟨_,g,hM,hsh⟩:=hS.blk _ _ hs;obtain ⟨g',o,cur,hM',hC,hI,hsz,hv⟩:=hS.blk _ _ hb;rw [hM] at hM';simp only [Option.some.injEq,Prod.mk.injEq] at hM';obtain ⟨rfl,rfl⟩:=hM';have hp':p=.pointer (some ⟨g,0,none⟩):=by
  cases hp with
  |ref _ _ _ _ g1 o1 _ hM1=>
   rw [hM] at hM1;simp only [Option.some.injEq,Prod.mk.injEq] at hM1;obtain ⟨rfl,rfl⟩:=hM1;rfl
 obtain ⟨c1,h1,r1⟩:=hv 1 _ rfl;obtain ⟨e,fz,hg,hfz⟩:=hC;have hcell:w.cell? ⟨g,1,none⟩=some c1:=by
  simp only [World.cell?,hg];exact h1
 cases r1 with
 |sln=>exact absurd rfl hn
 |sl _ _ _ _ _ g2 o2 p2 cap hbn hM2 hc hm hq ha=>grind
set_option maxHeartbeats 1000000 in
theorem zYD (H0:Heap) (b:Nat) (u:Bs) (H:Heap) (hB:BAt H0 H b u) (hO:Old H0 H) (hne:u≠[]) :
  ∃ H',Go.AM.Good Tryz.prog (gtQ m ev) zAB [bR b] H (.str u) H'/\BFz H0 H' b u/\Old H0 H'/\H.length<=H'.length:=by
 obtain ⟨h0,hs,a,v,hb,hw,ha⟩:=hB;rcases hw with ⟨_,e⟩|⟨d,rfl,d0,hrow,hty,_⟩
 ·exact absurd e hne
 have hnb:d≠b:=fun e=>by rw [e,hb] at hrow;cases hrow
 have hnb1:d≠b+1:=fun e=>by rw [e,hs] at hrow;cases hrow
 have hnl:u.length≠0:=by simpa using hne
 refine ⟨H.set d (.frz 1 (u.map zq))++[.hd d zEP u.length], ?_,⟨h0,zG (zE hnb1 hs),a,d,_,zG (zE hnb hb),zG (zS hrow),zB,hne⟩,(hO.set d0 _).push _,by simp⟩;refine zFN Tryz.func92 (by kernel_rfl) (by kernel_rfl) rfl fun w M I cargs hS hA=>?_;obtain ⟨p,rfl,hp⟩:=zJh hA;obtain ⟨_,gd,c,hMd,hshd⟩:=hS.blk _ _ hty;obtain ⟨g,cap,sz,e',rfl,hcell,hsh,hle,hcap,hm⟩:=zQV hS hb hs hnl hp hMd;rw [hshd] at hsh;simp only [Option.some.injEq,Prod.mk.injEq] at hsh;obtain ⟨rfl,rfl⟩:=hsh;obtain ⟨hel,⟨hM1,_⟩|⟨g1,o1,cur,hM1,⟨e1,fz,hg,hfz⟩,hI,hfit,hval⟩⟩:=hS.blk _ _ hrow
 ·rw [hMd] at hM1;cases hM1
 rw [hMd] at hM1;simp only [Option.some.injEq,Prod.mk.injEq] at hM1;obtain ⟨rfl,rfl⟩:=hM1;have hdl:=(zg hrow).1;have hval':∀ (j:Nat) x,u[j]?=some x->cur[j]?=some (.int .u8 x.toNat):=fun j x hx=>by
  obtain ⟨v,h1,h2⟩:=hval j 0 (zq x) (.int .u8 x.toNat) (by rw [List.getElem?_map,hx];rfl) rfl;rw [zIG h2] at h1;simpa using h1
 have h:=zWL { Tryz.ownReplace with } Tryz.extraReplace g gd cap c u hne w hcell (by rw [zTJ];exact hshd) hle hcap (by simp only [maxLen] at hm;omega) (fun j x hx=>by
  simp only [World.cell?,hg];exact hval' j x hx)
 rw [Tryz.text_number] at h;refine h.mono ?_;rintro e'' w' ⟨he,rfl⟩;obtain ⟨lo,hi⟩:=fz;obtain ⟨hi',hn',hh,_⟩:=zOw (n:=u.length) hnl hg;have hlt:=(Array.getElem?_eq_some_iff.1 hg).1;have he1:e1=zEP:=by
  simp only [World.shape?,hg,Option.some.injEq,Prod.mk.injEq] at hshd;exact hshd.1
 subst he1;have hg2:(w.drew.freeze ⟨gd,0,none⟩ u.length).heap[gd]?=some (.cells cur zEP (0,hi')):=by grind
 have hot:∀ j,j≠gd->(w.drew.freeze ⟨gd,0,none⟩ u.length).heap[j]?=w.heap[j]?:=fun j hj=>by
  rw [hh,Array.getElem?_setIfInBounds,if_neg (Ne.symm hj)]
 obtain ⟨G,S⟩:=zQT (w':=w.drew.freeze ⟨gd,0,none⟩ u.length) (y:=.frz 1 (u.map zq)) (G:=fun j=>j=gd) hS hrow rfl hMd (by unfold World.freeze;split <;> rfl) (by unfold World.freeze;split <;> rfl) (by unfold World.freeze;split <;> rfl) (by rw [hh];simp)
  (fun j _ hj=>hot j hj) (fun s hs=>by
   simp only [World.shape?,hg] at hs;simp only [World.shape?,hg2];exact hs) (fun j hj=>.inl ⟨hj,rfl⟩) (fun j hj=>by rw [hj,hh];simpa using hlt)
  ⟨hel,.inr ⟨gd,0,hMd,.inr rfl,fun i j x c hx hj=>by
   rw [List.getElem?_map] at hx;obtain ⟨y,hy,rfl⟩:=Option.map_eq_some_iff.1 hx;cases j with
   |succ j=>simp [zq,AV.cells] at hj
   |zero=>
    simp only [zq,AV.cells,List.getElem?_cons_zero,Option.some.injEq] at hj;subst hj;refine ⟨.int .u8 y.toNat, ?_,.int _ _⟩;simp only [World.cell?,hg2];have:=hval' i y hy;simpa using this⟩⟩
 obtain ⟨G2,S2⟩:=S.pushAny (blk:=.hd d zEP u.length) ⟨by rw [List.length_set];exact hdl,gd,cur,hi',by rw [zHs (by rw [List.length_set];exact hdl)];exact hMd,.inr rfl,hn',hg2⟩;exact ⟨_,he,_,_,G.trans G2,S2,.str _⟩
theorem zYE (H0:Heap) (b:Nat) (u:Bs) (H:Heap) (hB:BFz H0 H b u):Go.AM.Good Tryz.prog (gtQ m ev) zAB [bR b] H (.str u) H:=by
 obtain ⟨h0,hs,a,d,hh,hb,hfz,hhd,hne⟩:=hB;have hnl:u.length≠0:=by simpa using hne
 refine zEv Tryz.func92 (by kernel_rfl) (by kernel_rfl) fun w M I cargs hS hA=>?_;obtain ⟨p,rfl,hp⟩:=zJh hA;obtain ⟨_,gd,cur,hi,hMd,hI,hni,hg⟩:=hS.blk _ _ hhd;obtain ⟨g,cap,sz,e',rfl,hcell,hsh,hle,hcap,hm⟩:=zQV hS hb hs hnl hp hMd;obtain ⟨hel,⟨hM1,_⟩|⟨g1,o1,hM1,_,hval⟩⟩:=hS.blk _ _ hfz
 ·rw [hMd] at hM1;cases hM1
 rw [hMd] at hM1;simp only [Option.some.injEq,Prod.mk.injEq] at hM1;obtain ⟨rfl,rfl⟩:=hM1;have hsh':w.shape? gd=some (zEP,cur.size):=by simp only [World.shape?,hg]
 rw [hsh'] at hsh;simp only [Option.some.injEq,Prod.mk.injEq] at hsh;obtain ⟨rfl,rfl⟩:=hsh;have h:=zWL { Tryz.ownReplace with } Tryz.extraReplace g gd cap cur.size u hne w hcell (by rw [zTJ];exact hsh') hle hcap (by simp only [maxLen] at hm;omega) (fun j x hx=>by
  obtain ⟨v,h1,h2⟩:=hval j 0 (zq x) (.int .u8 x.toNat) (by rw [List.getElem?_map,hx];rfl) rfl;rw [zIG h2] at h1;simpa using h1)
 rw [Tryz.text_number] at h;refine h.mono ?_;rintro e'' w' ⟨he,rfl⟩;obtain ⟨hi',hn',hhp,heq⟩:=zOw (n:=u.length) hnl hg;have hhi:=heq rfl hni;subst hhi;have hsame:(w.drew.freeze ⟨gd,0,none⟩ u.length).heap=w.heap:=by grind
 refine ⟨_,he,⟨by unfold World.freeze;split <;> rfl,by unfold World.freeze;split <;> rfl,by unfold World.freeze;split <;> rfl,by rw [hsame];exact Nat.le_refl _,fun c hc=>by rw [hsame]⟩,.str _⟩
end
end Go.Proofs
