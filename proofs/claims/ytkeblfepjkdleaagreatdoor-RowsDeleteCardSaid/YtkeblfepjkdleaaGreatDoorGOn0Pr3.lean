/- Several texts of mine in one (On0, Pr2, Itb, On1, Pr3). Own work. -/
import Derived.Test.YtkeblfepjkdleaaGreatDoorGRt2Kd
import Derived.Test.YtkeblfepjkdleaaGreatDoorGBu6Bu3
import Derived.Test.YtkeblfepjkdleaaGreatDoorGAm30Fp1
import Derived.Test.YtkeblfepjkdleaaGreatDoorGAm31Rf1
import Derived.Test.YtkeblfepjkdleaaGreatDoorAc
import Derived.Test.YtkeblfepjkdleaaGreatDoorGItQLvs
import Derived.Test.YtkeblfepjkdleaaGreatDoorGSf0Rt0
import Derived.Test.YtkeblfepjkdleaaGreatDoorSk1
import Derived.Test.YtkeblfepjkdleaaGreatDoorAk
import Derived.Test.YtkeblfepjkdleaaGreatDoorGRffRfi
set_option linter.all false
set_option maxRecDepth 20000
namespace Go.AM
structure Chg where
 ref:RefP->Option RefP
 box:RefP->RefP->Option (RefP×RefP)
def zjU:Nd:=zHg 3
mutual
def onN (c:Chg):Nd->Nd
 | .mk k num t r o ks=>if k=5 then (match c.ref r with
   |none=>zjU
   |some r'=>zB3 r')
  else if k=6 then (match c.box r o with
   |none=>zjU
   |some p=>zA2 p.1 p.2)
  else .mk k num t r o (zkl c ks)
def zkl (c:Chg):List Nd->List Nd
 |[]=>[]
 |n::r=>onN c n::zkl c r
end
theorem zTQ (c:Chg):∀ ks:List Nd,zkl c ks=ks.map (onN c)
 |[]=>rfl
 |n::r=>by rw [zkl,List.map_cons,zTQ c r]
section
variable {c:Chg}
theorem zck (r:RefP):onN c (zB3 r)=(match c.ref r with
   |none=>zjU
   |some r'=>zB3 r'):=rfl
theorem zcl (r o:RefP):onN c (zA2 r o)=(match c.box r o with
   |none=>zjU
   |some p=>zA2 p.1 p.2):=rfl
theorem zkm (n:Nd):onN c (zDO n)=zDO (onN c n):=rfl
theorem zkn (op:Nat) (a b:Nd):onN c (zAr op a b)=zAr op (onN c a) (onN c b):=rfl
theorem zil (t:Bs) (ks:List Nd):onN c (zA0 t ks)=zA0 t (ks.map (onN c)):=by
 show zA0 t (zkl c ks)=_;rw [zTQ]
def Chg.ok (c:Chg):Prop:=(∀ r r',okR r->c.ref r=some r'->okR r')/\∀ r o p,okR r->okR o->c.box r o=some p->okR p.1/\okR p.2
theorem zXl:(txt zjU).length=5:=rfl
theorem zFu {r:RefP} (h:okR r):2<=(zEA r).length/\(zEA r).length<=5:=by
 obtain ⟨c,w,fc,fr⟩:=r;obtain ⟨_,_,h3,h4⟩:=h;simp only at h3 h4;have hd:1<=(zGC w.toNat).length/\(zGC w.toNat).length<=2:=by
  have:w.toNat<=99:=by omega
  have:∀ n,n<=99->1<=(zGC n).length/\(zGC n).length<=2:=by decide
  exact this _ (by assumption)
 unfold zEA;cases fc <;> cases fr <;> simp <;> omega
structure OnOk (c:Chg) (x:Bool) (n:Nd):Prop where
 wf:Wf x (onN c n)
 cnt:cnt (onN c n)=cnt n
 need:need (onN c n)=need n
 tight:zf (onN c n)=zf n
 len:(txt (onN c n)).length<=3*(txt n).length
 le:Go.AM.cnt n<=(txt n).length
theorem zU7 {f:Nd->Nd}:∀ {ks:List Nd},(∀ k∈ks,(txt (f k)).length<=3*(txt k).length)->(zA1 ((ks.map f).map txt)).length<=3*(zA1 (ks.map txt)).length
 |[],_=>Nat.le_refl _
 |[a],h=>h a (by simp)
 |a::b::r,h=>by
  have h1:=h a (by simp);have h2:=zU7 (ks:=b::r) fun k hk=>h k (List.mem_cons_of_mem _ hk);simp only [List.map_cons,zA1,List.length_append,List.length_cons] at h1 h2 ⊢;omega
theorem zU8:∀ {ks:List Nd},(∀ k∈ks,cnt k<=(txt k).length)->cnts ks<=(zA1 (ks.map txt)).length
 |[],_=>Nat.le_refl _
 |[a],h=>by have:=h a (by simp);simpa [cnts,zA1] using this
 |a::b::r,h=>by
  have h1:=h a (by simp);have h2:=zU8 (ks:=b::r) fun k hk=>h k (List.mem_cons_of_mem _ hk);rw [cnts];simp only [List.map_cons,zA1,List.length_append,List.length_cons] at h1 h2 ⊢;omega
theorem zcm {f:Nd->Nd}:∀ {ks:List Nd},(∀ k∈ks,cnt (f k)=cnt k)->cnts (ks.map f)=cnts ks
 |[],_=>rfl
 |a::r,h=>by rw [List.map_cons,cnts,cnts,h a (by simp),zcm fun k hk=>h k (List.mem_cons_of_mem _ hk)]
theorem zf2 (n:Nat):1<=(zGC n).length:=by
 unfold zGC;split
 ·exact Nat.le_refl _
 ·rename_i h;rw [List.length_reverse];exact List.length_pos_iff.2 (zQY n h).2
theorem zim (op:Nat) (h:1<=op/\op<=11):1<=(opT op).length:=by
 have:op=1\/op=2\/op=3\/op=4\/op=5\/op=6\/op=7\/op=8\/op=9\/op=10\/op=11:=by omega
 rcases this with rfl|rfl|rfl|rfl|rfl|rfl|rfl|rfl|rfl|rfl|rfl <;> decide
theorem zko (hc:c.ok) {x:Bool} {n:Nd} (h:Wf x n):OnOk c x n:=by
 have leaf:∀ {x:Bool} {n:Nd},Wf x n->onN c n=n->cnt n=1->1<=(txt n).length->OnOk c x n:=fun hw e h1 h2=>⟨by rw [e];exact hw,by rw [e],by rw [e],by rw [e],by rw [e];omega,by omega⟩;have bad:∀ x,Wf x zjU:=fun x=>Wf.bad x 3 tO;induction h with
 |num x m h=>exact leaf (Wf.num x m h) rfl rfl (by rw [zLY];exact zf2 _)
 |txt x t=>exact leaf (Wf.txt x t) rfl rfl (by rw [zLZ];simp)
 |tru x b=>exact leaf (Wf.tru x b) rfl rfl (by cases b <;> decide)
 | bad x k h=>exact leaf (Wf.bad x k h) rfl rfl (by
   have:k=1\/k=2\/k=3\/k=4\/k=5\/k=6:=by omega
   rcases this with rfl|rfl|rfl|rfl|rfl|rfl <;> decide)
 |ref x r h=>
  have hl:=zFu h;have e:=zck (c:=c) r;cases hr:c.ref r with
  |none=>
   rw [hr] at e;exact ⟨by rw [e];exact bad x,by rw [e];rfl,by rw [e];rfl,by rw [e];rfl,by rw [e,zI2,zXl];omega,by rw [zI2];show 1<=_;omega⟩
  |some r'=>
   rw [hr] at e;have hk:=hc.1 r r' h hr;have hl2:=zFu hk;exact ⟨by rw [e];exact Wf.ref x r' hk,by rw [e];rfl,by rw [e];rfl,by rw [e];rfl,by rw [e,zI2,zI2];omega,by rw [zI2];show 1<=_;omega⟩
 |box r o h k=>
  have hl:=zFu h;have hl1:=zFu k;have e:=zcl (c:=c) r o;have ht:(txt (zA2 r o)).length=(zEA r).length+((zEA o).length+1):=by rw [zQW];simp
  cases hr:c.box r o with
  |none=>
   rw [hr] at e;exact ⟨by rw [e];exact bad true,by rw [e];rfl,by rw [e];rfl,by rw [e];rfl,by rw [e,ht,zXl];omega,by rw [ht];show 1<=_;omega⟩
  |some p=>
   rw [hr] at e;obtain ⟨hk,hk2⟩:=hc.2 r o p h k hr;have hl2:=zFu hk;have hl3:=zFu hk2;have ht2:(txt (zA2 p.1 p.2)).length=(zEA p.1).length+((zEA p.2).length+1):=by rw [zQW];simp
   exact ⟨by rw [e];exact Wf.box _ _ hk hk2,by rw [e];rfl,by rw [e];rfl,by rw [e];rfl,by rw [e,ht,ht2];omega,by rw [ht];show 1<=_;omega⟩
 |neg x n h ih=>
  obtain ⟨h1,h2,h3,h4,h5,h6⟩:=ih;have e:=zkm (c:=c) n;have ec:∀ m,cnt (zDO m)=1+(cnt m+0):=fun m=>rfl;have el:∀ m,(txt (zDO m)).length=(txt m).length+(if zf m<9 then 2 else 0)+1:=fun m=>by rw [zE9,List.length_cons,zBl];simp
  refine ⟨by rw [e];exact Wf.neg x _ h1,by rw [e,ec,ec,h2],by rw [e,zO4,zO4,h3,h4],by rw [e];rfl, ?_, ?_⟩
  ·rw [e,el,el,h4];omega
  ·rw [el,ec];omega
 |two x op a b h ha hb iha ihb=>
  obtain ⟨h1,h2,h3,h4,h5,h6⟩:=iha;obtain ⟨k1,k2,k3,k4,k5,k6⟩:=ihb;have e:=zkn (c:=c) op a b;have ec:∀ m m',cnt (zAr op m m')=1+(cnt m+(cnt m'+0)):=fun m m'=>rfl;have el:∀ m m',(txt (zAr op m m')).length=(txt m).length+(if zf m<tight op then 2 else 0)+(opT op).length+((txt m').length+(if zf m'<=tight op then 2 else 0)):=fun m m'=>by rw [zEg];simp only [List.length_append,zBl,decide_eq_true_eq]
  have ho:=zim op h;refine ⟨by rw [e];exact Wf.two x op _ _ h h1 k1,by rw [e,ec,ec,h2,k2],by rw [e,zO5,zO5,h3,h4,k3,k4],by rw [e,zMq,zMq], ?_, ?_⟩
  ·rw [e,el,el,h4,k4];omega
  ·rw [el,ec];omega
 |call x t ks h hk ih=>
  have e:=zil (c:=c) t ks;have ec:∀ l,cnt (zA0 t l)=1+cnts l:=fun l=>rfl;have el:∀ l:List Nd,(txt (zA0 t l)).length=t.length+(zA1 (l.map txt)).length+2:=fun l=>by rw [zDH];simp;omega
  have hw:∀ k∈ks.map (onN c),Wf true k:=fun k hk'=>by
   obtain ⟨k0,hk0,rfl⟩:=List.mem_map.1 hk';exact (ih k0 hk0).wf
  refine ⟨by rw [e];exact Wf.call x t _ h hw,by rw [e,ec,ec,zcm fun k hk'=>(ih k hk').cnt], ?_,by rw [e];rfl, ?_, ?_⟩
  ·rw [e,zMp,zMp,List.map_map];have:ks.map (need ∘ onN c)=ks.map need:=List.map_congr_left fun k hk'=>(ih k hk').need;rw [this]
  ·rw [e,el,el];have:=zU7 (f:=onN c) fun k hk'=>(ih k hk').len;omega
  ·rw [el,ec];have:=zU8 fun k hk'=>(ih k hk').le;omega
def zCB (n:Nd):Nat:=if (txt n).length<=199 then 0 else 4
def zDd (n:Nd):Bs:=if (txt n).length<=199 then 61::txt n else []
end
end Go.AM
set_option maxRecDepth 20000
namespace Go.AM
theorem BAt.fresh {H0 H:Heap} (h:Old H0 H):BAt H0 ((H++[.box [.nilp,.lst (some true) 0 []]])++[.shp H.length zAC 2]) H.length []:=by
 refine ⟨h.1, ?_,.nilp,.lst (some true) 0 [],zD zB,.inl ⟨rfl,rfl⟩,.inr rfl⟩;have:=@zB (H++[.box [.nilp,.lst (some true) 0 []]]) (.shp H.length zAC 2)
 rwa [List.length_append] at this
def St1H (C:CSpec):Prop:=∀ H0 b u H,BAt H0 H b u->Old H0 H->u≠[]->∃ H',C zy [bR b] H (.str u) H'/\BFz H0 H' b u/\Old H0 H'/\H.length<=H'.length
def St2H (C:CSpec):Prop:=∀ H0 b u H,BFz H0 H b u->C zy [bR b] H (.str u) H
section
variable {C:CSpec} {GT:Nat->Option AV}
set_option maxHeartbeats 4000000 in
theorem zf3 (n:Nd) (hn:Wf false n) (hd:need n<=30) (hcn:cnt n<=200) (hln:(txt n).length<=5000)
  (hCt:∀ c l H,H[c]?=some (.box [zK l])->cnt n<=l->l<=1000000->C zCi [ndV n,bR c] H (.bool true) (H.set c (.box [zK (l-cnt n)]))) (hF:FmH C false n) (hWb:WbH C) (hW:WrH C n)
  (hS:St1H C) (hS2:St2H C) (hPr:∀ H,C zAF [.str (61::txt n)] H (zFN (61::txt n)) H) (H:Heap):EFun C GT zJs [ndV n] H (.tup [.str (zDd n),eV (zCB n)]) H:=by
 have hct:=hCt (H++[ABlk.box (ndV n).cells]).length 200 ((((H++[ABlk.box (ndV n).cells])++[ABlk.box [zK 0]]).set (H++[ABlk.box (ndV n).cells]).length (.box [zK 200]))) hP hcn tO;obtain ⟨Hd,ed⟩:∃ Hd,(((H++[ABlk.box (ndV n).cells])++[ABlk.box [zK 0]]).set (H++[ABlk.box (ndV n).cells]).length (ABlk.box [zK 200])).set (H++[ABlk.box (ndV n).cells]).length (ABlk.box [zK (200-cnt n)])=Hd:=⟨_,rfl⟩;rw [ed] at hct;have hnd:Hd[H.length]?=some (ABlk.box (ndV n).cells):=by rw [<-ed];exact zC (by simp) hP
 have hOd:Old H Hd:=by rw [<-ed];exact ((((Old.refl H).push _).push _).set (by simp) _).set (by simp) _
 have hnl:=(zg hnd).1;obtain ⟨H2,hw2,h2⟩:=hWb H Hd.length [] 61 _ (BAt.fresh hOd) ((hOd.push _).push _) (by simp);have hn2:H2[H.length]?=some (.box (ndV n).cells):=h2.2.2.2 _ _ tO (by intro xs e;cases e) (zD (zD hnd));obtain ⟨H3,hw3,h3⟩:=hW H Hd.length _ H2 h2.1 h2.2.1 h2.1.lt (by simp;omega);obtain ⟨H4,hs,h4,hO4,hl4⟩:=hS H Hd.length _ H3 h3.1 h3.2.1 (by simp);have es:[]++[61]++txt n=61::txt n:=rfl;rw [es] at hs h4;have hf:∀ H,C zAp [ndV n,.bool false] H (.bool true) H:=hF;clear hCt hWb hW hF;refine zJ<|sX ?_
 unfold zFN at hPr;by_cases hl:(txt n).length<=199
 ·rw [zU1 hn hd hl] at hPr;have hp:∀ H,C zAF [.str (61::txt n)] H (.tup [ndV n,.int .i64 0,.nili]) H:=hPr;have et:zDd n=61::txt n:=by unfold zDd;rw [if_pos hl]
  have en:zCB n=0:=by unfold zCB;rw [if_pos hl]
  have hs2:∀ x y,C zy [bR Hd.length] ((H4++[ABlk.box x]).set H4.length (ABlk.box y)) (.str (61::txt n)) ((H4++[ABlk.box x]).set H4.length (ABlk.box y)):=fun x y=>hS2 H Hd.length _ _ (h4.keep (fun z hz=>zC (by have:=(zg hz).1;omega) (zD hz)) (fun c z _ hz=>zC (by have:=(zg hz).1;omega) (zD hz)));rw [et,en];clear hPr hS hS2;refine zL [zK 200] hP rfl rfl rfl rfl<|sX ?_;refine zQp (v:=.ref Hd.length 0 0 0) (H':=(Hd++[ABlk.box [.nilp,.lst (some true) 0 []]])++[ABlk.shp Hd.length zAC 2]) rfl<|sX ?_;refine sSA (ndV n) ?_;refine sX ?_
  exact zAv rfl rfl rfl rfl ((hO4.push _).set hO4.1 _)
 ·have hq:zAn (61::txt n)=none:=by
   unfold zAn;rw [if_neg (fun h=>hl (by have:=h.1;simp only [List.length_cons] at this;omega))]
  rw [hq] at hPr;have hp:∀ H,C zAF [.str (61::txt n)] H zYl H:=hPr;have et:zDd n=[]:=by unfold zDd;rw [if_neg hl]
  have en:zCB n=4:=by unfold zCB;rw [if_neg hl]
  rw [et,en];clear hPr hS hS2;refine zL [zK 200] hP rfl rfl rfl rfl<|sX ?_;refine zQp (v:=.ref Hd.length 0 0 0) (H':=(Hd++[ABlk.box [.nilp,.lst (some true) 0 []]])++[ABlk.shp Hd.length zAC 2]) rfl<|sX ?_;refine sSA (ndV zZ) ?_;refine sX ?_
  exact zAv rfl rfl rfl rfl ((hO4.push _).set hO4.1 _)
end
end Go.AM
set_option maxRecDepth 100000
namespace Go.Proofs
open Go.Shelf Go.RowKit Go.AM Go.Sort
theorem Tryz.itoa_number:Tryz.ownItoa_ren.f 171=zDQ:=by kernel_rfl
theorem Tryz.check_number:Tryz.ownReplace_ren.f 240=zAX:=by kernel_rfl
theorem Tryz.text_number:Tryz.ownReplace_ren.f 169=zy:=by kernel_rfl
section
variable {m:Int} {ev:Value}
theorem zkp {w:World} {M:AMap} {I:Nat->Prop} {H:Heap} (hS:Sim (gtQ m ev) w M I H):Lib.TabIs Tryz.prog w "internal/strconv.uint64pow10" .u64 Lib.pow10Tab:=by
 have h0:=hS.glob 6 zeh rfl;obtain ⟨e,hs⟩:=hS.shp 6 zeh rfl;have hlen:zeh.cells.length=20:=by unfold zeh;simp [AV.cells,Lib.pow10Tab]
 rw [hlen] at hs;have hcell:∀ i:Nat,i<20->w.cell? ⟨6,i,none⟩=some (.int .u64 (Lib.pow10Tab.getD i 0)):=fun i hi=>by
  have hc:zeh.cells[0+i]?=some (.int .u64 (Lib.pow10Tab.getD i 0)):=by
   unfold zeh;simp only [AV.cells,Nat.zero_add,List.getElem?_map];have:i<Lib.pow10Tab.length:=by rw [Lib.pow10Tab_length];exact hi
   rw [List.getElem?_eq_getElem this,List.getD_eq_getElem?_getD,List.getElem?_eq_getElem this];rfl
  cases h0 with
  |lref _ _ _ _ V hI hx hvv hr=>
   have h1:=hvv i _ hc;have h2:=hr i _ hc;rw [Nat.zero_add] at h1;rw [h1,zIq h2]
 have hg:Tryz.prog.globalNamed "internal/strconv.uint64pow10" = some 6:=by kernel_rfl
 unfold Lib.TabIs World.var?;rw [hg,Option.bind_some];unfold World.shape? at hs;unfold World.cell? at hcell;split at hs
 ·rename_i c el fz hheap;simp only [Option.some.injEq,Prod.mk.injEq] at hs;rw [hheap];simp only [Option.some.injEq];apply Array.ext';apply List.ext_getElem?;intro i;by_cases hi:i<20
  ·have:=hcell i hi;rw [hheap] at this;simp only [Option.isSome_none,Bool.false_eq_true,if_false] at this;have hp:i<Lib.pow10Tab.length:=by rw [Lib.pow10Tab_length];exact hi
   rw [Array.getElem?_toList,this];simp [List.getD_eq_getElem?_getD,List.getElem?_eq_getElem hp]
  ·rw [List.getElem?_eq_none (by simp;omega),List.getElem?_eq_none (by simp [Lib.pow10Tab_length];omega)]
 ·cases hs
theorem zf4 (w:World) (k:Nat) (os:Array Obj):RowKit.Below w.heap.size w (grow (w.drewN k) os):=by
 have hh:(w.drewN k).heap=w.heap:=rfl;exact ⟨rfl,rfl,rfl,by simp [grow,hh],fun c hc=>by simp [grow,hh,Array.getElem?_append_left hc]⟩
theorem zgy (n:Nat):zZH (n:Int)=zGC n:=by
 unfold zZH zGC signed;by_cases h:n=0
 ·rw [if_pos h,if_pos tO]
 ·rw [if_neg h,if_neg tO,if_neg tO,Int.natAbs_natCast]
theorem zU9 (n:Nat) (hn:n<=9223372036854775807) (H:Heap):Go.AM.Good Tryz.prog (gtQ m ev) zDQ [zK n] H (.str (zGC n)) H:=
 zE3 Tryz.func144 (by kernel_rfl) (by kernel_rfl) fun w M I cargs hS hA=>by
  obtain ⟨v,rfl,hv⟩:=zKN hA;obtain rfl:=zIq hv;have h:=Any.strconv_Itoa Tryz.ownItoa (n:Int) tO tO w (zkp hS);rw [Tryz.itoa_number] at h;refine h.mono ?_;rintro e w' ⟨he,k,os,rfl⟩;refine ⟨_,he,zf4 w k os, ?_⟩;rw [ziZ,zgy];exact .str _
theorem zTR (t:Bs) (hl:t.length<=1000000) (H:Heap):Go.AM.Good Tryz.prog (gtQ m ev) zBO [.str t,.str [34],.str [34,34]] H (.str (esc t)) H:=by
 have e:(zRt [34] [34,34] t).2=esc t:=by
  induction t with
  |nil=>rfl
  |cons c r ih=>
   have ih:=ih (by simp only [List.length_cons] at hl;omega);by_cases hc:c=34
   ·subst hc;have hp:([34]:Bs).isPrefixOf (34::r)=true:=by simp [List.isPrefixOf]
    rw [zS6 [34] [34,34] (by simp) _ hp];show [34,34]++(zRt [34] [34,34] r).2=_;rw [ih,esc,if_pos rfl];rfl
   ·have hp:([34]:Bs).isPrefixOf (c::r)=false:=by simp [List.isPrefixOf,Ne.symm hc]
    rw [zQP [34] [34,34] c r hp];show c::(zRt [34] [34,34] r).2=_;rw [ih,esc,if_neg hc]
 have h:=zUf (m:=m) (ev:=ev) t [34] [34,34] H (by simp) hl (by simp);rw [e] at h;exact h
set_option maxHeartbeats 1000000 in
theorem zXm {P:Program} {ρ:Ren} (L:Lays.n169 P ρ) (X:Builder.Extra P ρ) (b g cap cells:Nat) (l:List UInt8) (h0:l≠[]) (w:World) (hc1:w.cell? ⟨b,1,none⟩=some (.slice (some ⟨g,0,none⟩) l.length cap)) (hsh:w.shape? g=some (ρ.t 5,cells)) (hle:l.length<=cells) (hcap:l.length<=cap) (hm:l.length<=9223372036854775807)
  (hcell:∀ (j:Nat) x,l[j]?=some x->w.cell? ⟨g,j,none⟩=some (.int .u8 x.toNat)) :
  Calls P (ρ.f 169) #[.pointer (some ⟨b,0,none⟩)] w fun e w'=>e=.returned (.string ⟨l.toArray⟩)/\w'=w.drew.freeze ⟨g,0,none⟩ l.length:=by
 have hl0:l.length≠0:=by simpa using h0
 have c1:w.drew.cell? ⟨b,1,none⟩=some (.slice (some ⟨g,0,none⟩) l.length cap):=hc1;have hSD:(Builtin.unsafeSliceData_ #[(ρ.t 37)] (ρ.t 127) #[.slice (some ⟨g,0,none⟩) l.length cap]).run P w.drew=.ok (.pointer (some ⟨g,0,none⟩)) w.drew:=
  Lib.run_unsafeSliceData_row _ _ _ _ _ _ tO
 have hUS:(Builtin.unsafeString_ #[(ρ.t 127),(ρ.t 3)] (ρ.t 9) #[.pointer (some ⟨g,0,none⟩),.int .i64 l.length]).run P w.drew=.ok (.string ⟨l.toArray⟩) (w.drew.freeze ⟨g,0,none⟩ l.length):=by
  refine Lib.run_unsafeString_row w.drew (ρ.t 127) (ρ.t 3) (ρ.t 9) (ρ.t 5) L.t127 X.cellsByte g cells hsh l h0 hle hm ?_;intro j x hx;rw [Addr.add_lit,Nat.zero_add];exact hcell j x hx
 have mixed:=L.mixed;have t72:=L.t72;have a72:=L.a72;have z72:=L.z72;have v72:=L.v72;have u72:=run_underlying L.t72;have t70:=L.t70;have a70:=L.a70;have z70:=L.z70;have v70:=L.v70;have u70:=run_underlying L.t70;have t37:=L.t37;have a37:=L.a37;have z37:=L.z37;have v37:=L.v37;have u37:=run_underlying L.t37;have t127:=L.t127;have a127:=L.a127;have z127:=L.z127;have v127:=L.v127;have u127:=run_underlying L.t127;have t3:=L.t3;have a3:=L.a3;have z3:=L.z3;have v3:=L.v3;have u3:=run_underlying L.t3;have t9:=L.t9;have a9:=L.a9;have z9:=L.z9;have v9:=L.v9;have u9:=run_underlying L.t9;have t5:=X.t5;have a5:=X.a5;have z5:=X.z5;have v5:=X.v5;have u5:=run_underlying X.t5
 go_enter L.f169,Body.n169_ntmps ρ
 go_wp2
 go_region_o
 all_goals (go_wp2;go_ret;exact ⟨rfl,rfl⟩)
theorem zVA {w:World} {g o:Nat} {v:Value} {cur:Array Value} {e:TypeId} {fz:Nat×Nat} (h:w.heap[g]?=some (.cells cur e fz)):(w.setCell ⟨g,o,none⟩ v).heap=w.heap.setIfInBounds g (.cells (cur.setIfInBounds o v) e fz):=by
 apply Array.ext_getElem?;intro i;simp only [World.setCell,Array.getElem?_modify,Array.getElem?_setIfInBounds];by_cases hi:g=i
 ·subst hi;have hlt:=(Array.getElem?_eq_some_iff.1 h).1;rw [if_pos rfl,if_pos rfl,if_pos hlt,h];obtain ⟨lo,hi⟩:=fz;rfl
 ·rw [if_neg hi,if_neg hi]
theorem zZR (b:Nat) (a v:AV) (H:Heap) (hb:H[b]?=some (.box [a,v])) (hs:H[b+1]?=some (.shp b zAC 2)) (ha:a=.ref b 0 0 0\/a=.nilp) :
  Go.AM.Good Tryz.prog (gtQ m ev) zAX [bR b] H (.tup []) (H.set b (.box [.ref b 0 0 0,v])):=by
 refine zFW Tryz.func108 (by kernel_rfl) (by kernel_rfl) rfl fun w M I cargs hS hA=>?_;obtain ⟨p,rfl,hp⟩:=zKN hA;obtain ⟨_,g,hM,hsh⟩:=hS.blk _ _ hs;obtain ⟨g',o,cur,hM',hC,hI,hsz,hv⟩:=hS.blk _ _ hb;rw [hM] at hM';simp only [Option.some.injEq,Prod.mk.injEq] at hM';obtain ⟨rfl,rfl⟩:=hM';have hbl:=(zg hb).1;have hp':p=.pointer (some ⟨g,0,none⟩):=by
  cases hp with
  |ref _ _ _ _ g1 o1 _ hM1=>
   rw [hM] at hM1;simp only [Option.some.injEq,Prod.mk.injEq] at hM1;obtain ⟨rfl,rfl⟩:=hM1;rfl
 subst hp';obtain ⟨c0,h0,r0⟩:=hv 0 a rfl;obtain ⟨c1,h1,r1⟩:=hv 1 v rfl;obtain ⟨e,fz,hg,hfz⟩:=hC;have hcell:w.cell? ⟨g,0,none⟩=some c0:=by
  simp only [World.cell?,hg];exact h0
 rcases ha with rfl|rfl
 ·have hc0:c0=.pointer (some ⟨g,0,none⟩):=by
   cases r0 with
   |ref _ _ _ _ g1 o1 _ hM1=>
    rw [hM] at hM1;simp only [Option.some.injEq,Prod.mk.injEq] at hM1;obtain ⟨rfl,rfl⟩:=hM1;rfl
  subst hc0;have h:=Any.Builder_copyCheck_used { Tryz.ownReplace with } Tryz.extraReplace.toX72 g w hcell;rw [Tryz.check_number] at h;rw [zMf hb];refine h.mono ?_;rintro e' w' ⟨he,rfl⟩;exact ⟨_,he,M,I,Grow.refl ..,hS,.tup [] [] rfl (fun i c v h=>by simp at h)⟩
 ·have hc0:c0=.pointer none:=by cases r0;rfl
  subst hc0;have hfrz:w.frozen? ⟨g,0,none⟩=false:=by
   obtain ⟨lo,hi⟩:=fz;simp only [World.frozen?,hg];have:=hfz 0 (by simp at hsz;omega);simp only [Bool.and_eq_false_iff,decide_eq_false_iff_not];by_cases h:lo<=0
   ·right;intro h2;exact this ⟨h,h2⟩
   ·left;exact h
  have h:=Any.Builder_copyCheck_fresh { Tryz.ownReplace with } Tryz.extraReplace.toX72 g w hcell hsh hfrz;rw [Tryz.check_number] at h;refine h.mono ?_;rintro e' w' ⟨he,rfl⟩;have hh:=zVA (o:=0) (v:=.pointer (some ⟨g,0,none⟩)) hg;have hsz2:(cur.setIfInBounds 0 (.pointer (some ⟨g,0,none⟩))).size=cur.size:=by simp
  have hlt:=(Array.getElem?_eq_some_iff.1 hg).1;have hg2:(w.setCell ⟨g,0,none⟩ (.pointer (some ⟨g,0,none⟩))).heap[g]?=some (.cells (cur.setIfInBounds 0 (.pointer (some ⟨g,0,none⟩))) e fz):=by
   rw [hh,Array.getElem?_setIfInBounds,if_pos rfl,if_pos hlt]
  have hW:=Sim.write (w':=w.setCell ⟨g,0,none⟩ (.pointer (some ⟨g,0,none⟩))) (y:=.dead) hS hb rfl hM hg hsz2 hh rfl rfl rfl trivial;have R:∀ {c v},Rel w M I H.length c v->Rel (w.setCell ⟨g,0,none⟩ (.pointer (some ⟨g,0,none⟩))) M I H.length c v:=fun h=>by have:=hW.1.rel hS h;simpa using this
  simp only [List.length_cons,List.length_nil] at hsz;obtain ⟨G,S⟩:=Sim.write (w':=w.setCell ⟨g,0,none⟩ (.pointer (some ⟨g,0,none⟩))) (y:=.box [.ref b 0 0 0,v]) hS hb rfl hM hg hsz2 hh rfl rfl rfl ⟨g,0,_,hM,⟨e,fz,hg2,by rw [hsz2];exact hfz⟩,hI,by rw [hsz2];exact hsz,fun j c hj=>by
   match j,hj with
   |0,hj=>
    simp only [List.getElem?_cons_zero,Option.some.injEq] at hj;subst hj;exact ⟨.pointer (some ⟨g,0,none⟩),by rw [Array.getElem?_setIfInBounds,if_pos rfl,if_pos tO],.ref b 0 0 0 g 0 hbl hM⟩
   |1,hj=>
    simp only [List.getElem?_cons_succ,List.getElem?_cons_zero,Option.some.injEq] at hj;subst hj;exact ⟨c1,by rw [Array.getElem?_setIfInBounds,if_neg tO];exact h1,R r1⟩
   |j+2,hj=>simp at hj⟩
  exact ⟨_,he,M,I,G,S,.tup [] [] rfl (fun i c v h=>by simp at h)⟩
theorem zVB:Tryz.ownReplace_ren.t 5=zD7:=by kernel_rfl
theorem zQd {w:World} {g n:Nat} {cur:Array Value} {e:TypeId} {lo hi:Nat} (hn:n≠0) (h:w.heap[g]?=some (.cells cur e (lo,hi))):∃ hi',n<=hi'/\(w.drew.freeze ⟨g,0,none⟩ n).heap=w.heap.setIfInBounds g (.cells cur e (0,hi'))/\(lo=0->n<=hi->hi'=hi):=by
 have hlt:=(Array.getElem?_eq_some_iff.1 h).1;have key:∀ fz':Nat×Nat,(if (lo==hi)=true then ((0:Nat),0+n) else (min lo 0,max hi (0+n)))=fz'->(w.drew.freeze ⟨g,0,none⟩ n).heap=w.heap.setIfInBounds g (.cells cur e fz'):=fun fz' hf=>by
  have hd:w.drew.heap=w.heap:=rfl;unfold World.freeze;rw [if_neg hn];apply Array.ext_getElem?;intro i;simp only [hd,Array.getElem?_modify,Array.getElem?_setIfInBounds];by_cases hi':g=i
  ·subst hi';rw [if_pos rfl,if_pos rfl,if_pos hlt,h];simp only [Option.map_some,hf]
  ·rw [if_neg hi',if_neg hi']
 by_cases hh:(lo==hi)=true
 ·refine ⟨n,Nat.le_refl _,key (0,n) (by rw [if_pos hh,Nat.zero_add]),fun h1 h2=>?_⟩;have:=beq_iff_eq.1 hh;omega
 ·exact ⟨max hi n,Nat.le_max_right _ _,key (0,max hi n) (by rw [if_neg hh,Nat.zero_add,Nat.min_zero]),fun _ h2=>Nat.max_eq_left h2⟩
theorem zSA {w:World} {M:AMap} {I:Nat->Prop} {H:Heap} {GT:Nat->Option AV} (hS:Sim GT w M I H) {b d n:Nat} {a:AV} {p:Value} (hb:H[b]?=some (.box [a,.sl (some true) d 1 0 n])) (hs:H[b+1]?=some (.shp b zAC 2)) (hn:n≠0) (hp:Rel w M I H.length (bR b) p) {gd:Nat} (hd:M d=some (gd,0)) :
  ∃ g cap sz e,p=.pointer (some ⟨g,0,none⟩)/\w.cell? ⟨g,1,none⟩=some (.slice (some ⟨gd,0,none⟩) n cap)/\w.shape? gd=some (e,sz)/\n<=sz/\n<=cap/\n<=maxLen:=by
 obtain ⟨_,g,hM,hsh⟩:=hS.blk _ _ hs;obtain ⟨g',o,cur,hM',hC,hI,hsz,hv⟩:=hS.blk _ _ hb;rw [hM] at hM';simp only [Option.some.injEq,Prod.mk.injEq] at hM';obtain ⟨rfl,rfl⟩:=hM';have hp':p=.pointer (some ⟨g,0,none⟩):=by
  cases hp with
  |ref _ _ _ _ g1 o1 _ hM1=>
   rw [hM] at hM1;simp only [Option.some.injEq,Prod.mk.injEq] at hM1;obtain ⟨rfl,rfl⟩:=hM1;rfl
 obtain ⟨c1,h1,r1⟩:=hv 1 _ rfl;obtain ⟨e,fz,hg,hfz⟩:=hC;have hcell:w.cell? ⟨g,1,none⟩=some c1:=by
  simp only [World.cell?,hg];exact h1
 cases r1 with
 |sln=>exact absurd rfl hn
 |sl _ _ _ _ _ g2 o2 p2 cap hbn hM2 hc hm hq ha=>
  rw [hd] at hM2;simp only [Option.some.injEq,Prod.mk.injEq] at hM2;obtain ⟨rfl,rfl⟩:=hM2;obtain ⟨rfl,e2,sz,hsh2,hsz2⟩:=ha tO;exact ⟨g,cap,sz,e2,hp',hcell,hsh2,by omega,hc,by omega⟩
set_option maxHeartbeats 1000000 in
theorem zZS (H0:Heap) (b:Nat) (u:Bs) (H:Heap) (hB:BAt H0 H b u) (hO:Old H0 H) (hne:u≠[]) :
  ∃ H',Go.AM.Good Tryz.prog (gtQ m ev) zy [bR b] H (.str u) H'/\BFz H0 H' b u/\Old H0 H'/\H.length<=H'.length:=by
 obtain ⟨h0,hs,a,v,hb,hw,ha⟩:=hB;rcases hw with ⟨_,e⟩|⟨d,rfl,d0,hrow,hty,_⟩
 ·exact absurd e hne
 have hnb:d≠b:=fun e=>by rw [e,hb] at hrow;cases hrow
 have hnb1:d≠b+1:=fun e=>by rw [e,hs] at hrow;cases hrow
 have hnl:u.length≠0:=by simpa using hne
 refine ⟨H.set d (.frz 1 (u.map zo))++[.hd d zD7 u.length], ?_,⟨h0,zD (zC hnb1 hs),a,d,_,zD (zC hnb hb),zD (zU hrow),zB,hne⟩,(hO.set d0 _).push _,by simp⟩;refine zFW Tryz.func87 (by kernel_rfl) (by kernel_rfl) rfl fun w M I cargs hS hA=>?_;obtain ⟨p,rfl,hp⟩:=zKN hA;obtain ⟨_,gd,c,hMd,hshd⟩:=hS.blk _ _ hty;obtain ⟨g,cap,sz,e',rfl,hcell,hsh,hle,hcap,hm⟩:=zSA hS hb hs hnl hp hMd;rw [hshd] at hsh;simp only [Option.some.injEq,Prod.mk.injEq] at hsh;obtain ⟨rfl,rfl⟩:=hsh;obtain ⟨hel,⟨hM1,_⟩|⟨g1,o1,cur,hM1,⟨e1,fz,hg,hfz⟩,hI,hfit,hval⟩⟩:=hS.blk _ _ hrow
 ·rw [hMd] at hM1;cases hM1
 rw [hMd] at hM1;simp only [Option.some.injEq,Prod.mk.injEq] at hM1;obtain ⟨rfl,rfl⟩:=hM1;have hdl:=(zg hrow).1;have hval':∀ (j:Nat) x,u[j]?=some x->cur[j]?=some (.int .u8 x.toNat):=fun j x hx=>by
  obtain ⟨v,h1,h2⟩:=hval j 0 (zo x) (.int .u8 x.toNat) (by rw [List.getElem?_map,hx];rfl) rfl;rw [zIq h2] at h1;simpa using h1
 have h:=zXm { Tryz.ownReplace with } Tryz.extraReplace g gd cap c u hne w hcell (by rw [zVB];exact hshd) hle hcap (by simp only [maxLen] at hm;omega) (fun j x hx=>by
  simp only [World.cell?,hg];exact hval' j x hx)
 rw [Tryz.text_number] at h;refine h.mono ?_;rintro e'' w' ⟨he,rfl⟩;obtain ⟨lo,hi⟩:=fz;obtain ⟨hi',hn',hh,_⟩:=zQd (n:=u.length) hnl hg;have hlt:=(Array.getElem?_eq_some_iff.1 hg).1;have he1:e1=zD7:=by
  simp only [World.shape?,hg,Option.some.injEq,Prod.mk.injEq] at hshd;exact hshd.1
 subst he1;have hg2:(w.drew.freeze ⟨gd,0,none⟩ u.length).heap[gd]?=some (.cells cur zD7 (0,hi')):=by
  rw [hh,Array.getElem?_setIfInBounds,if_pos rfl,if_pos hlt]
 have hot:∀ j,j≠gd->(w.drew.freeze ⟨gd,0,none⟩ u.length).heap[j]?=w.heap[j]?:=fun j hj=>by
  rw [hh,Array.getElem?_setIfInBounds,if_neg (Ne.symm hj)]
 obtain ⟨G,S⟩:=zR0 (w':=w.drew.freeze ⟨gd,0,none⟩ u.length) (y:=.frz 1 (u.map zo)) (G:=fun j=>j=gd) hS hrow rfl hMd (by unfold World.freeze;split <;> rfl) (by unfold World.freeze;split <;> rfl) (by unfold World.freeze;split <;> rfl) (by rw [hh];simp)
  (fun j _ hj=>hot j hj) (fun s hs=>by
   simp only [World.shape?,hg] at hs;simp only [World.shape?,hg2];exact hs) (fun j hj=>.inl ⟨hj,rfl⟩) (fun j hj=>by rw [hj,hh];simpa using hlt)
  ⟨hel,.inr ⟨gd,0,hMd,.inr rfl,fun i j x c hx hj=>by
   rw [List.getElem?_map] at hx;obtain ⟨y,hy,rfl⟩:=Option.map_eq_some_iff.1 hx;cases j with
   |succ j=>simp [zo,AV.cells] at hj
   |zero=>
    simp only [zo,AV.cells,List.getElem?_cons_zero,Option.some.injEq] at hj;subst hj;refine ⟨.int .u8 y.toNat, ?_,.int _ _⟩;simp only [World.cell?,hg2];have:=hval' i y hy;simpa using this⟩⟩
 obtain ⟨G2,S2⟩:=S.pushAny (blk:=.hd d zD7 u.length) ⟨by rw [List.length_set];exact hdl,gd,cur,hi',by rw [zIR (by rw [List.length_set];exact hdl)];exact hMd,.inr rfl,hn',hg2⟩;exact ⟨_,he,_,_,G.trans G2,S2,.str _⟩
theorem zZT (H0:Heap) (b:Nat) (u:Bs) (H:Heap) (hB:BFz H0 H b u):Go.AM.Good Tryz.prog (gtQ m ev) zy [bR b] H (.str u) H:=by
 obtain ⟨h0,hs,a,d,hh,hb,hfz,hhd,hne⟩:=hB;have hnl:u.length≠0:=by simpa using hne
 refine zE3 Tryz.func87 (by kernel_rfl) (by kernel_rfl) fun w M I cargs hS hA=>?_;obtain ⟨p,rfl,hp⟩:=zKN hA;obtain ⟨_,gd,cur,hi,hMd,hI,hni,hg⟩:=hS.blk _ _ hhd;obtain ⟨g,cap,sz,e',rfl,hcell,hsh,hle,hcap,hm⟩:=zSA hS hb hs hnl hp hMd;obtain ⟨hel,⟨hM1,_⟩|⟨g1,o1,hM1,_,hval⟩⟩:=hS.blk _ _ hfz
 ·rw [hMd] at hM1;cases hM1
 rw [hMd] at hM1;simp only [Option.some.injEq,Prod.mk.injEq] at hM1;obtain ⟨rfl,rfl⟩:=hM1;have hsh':w.shape? gd=some (zD7,cur.size):=by simp only [World.shape?,hg]
 rw [hsh'] at hsh;simp only [Option.some.injEq,Prod.mk.injEq] at hsh;obtain ⟨rfl,rfl⟩:=hsh;have h:=zXm { Tryz.ownReplace with } Tryz.extraReplace g gd cap cur.size u hne w hcell (by rw [zVB];exact hsh') hle hcap (by simp only [maxLen] at hm;omega) (fun j x hx=>by
  obtain ⟨v,h1,h2⟩:=hval j 0 (zo x) (.int .u8 x.toNat) (by rw [List.getElem?_map,hx];rfl) rfl;rw [zIq h2] at h1;simpa using h1)
 rw [Tryz.text_number] at h;refine h.mono ?_;rintro e'' w' ⟨he,rfl⟩;obtain ⟨hi',hn',hhp,heq⟩:=zQd (n:=u.length) hnl hg;have hhi:=heq rfl hni;subst hhi;have hsame:(w.drew.freeze ⟨gd,0,none⟩ u.length).heap=w.heap:=by
  rw [hhp];apply Array.ext_getElem?;intro i;rw [Array.getElem?_setIfInBounds];by_cases e:gd=i
  ·subst e;rw [if_pos rfl,if_pos (Array.getElem?_eq_some_iff.1 hg).1,hg]
  ·rw [if_neg e]
 refine ⟨_,he,⟨by unfold World.freeze;split <;> rfl,by unfold World.freeze;split <;> rfl,by unfold World.freeze;split <;> rfl,by rw [hsame];exact Nat.le_refl _,fun c hc=>by rw [hsame]⟩,.str _⟩
end
end Go.Proofs
set_option maxRecDepth 20000
namespace Go.AM
def okRB (r:RefP):Bool:=okC r.col r.row
theorem zTS (r:RefP):okRB r=true↔okR r:=by
 unfold okRB okC okR;simp only [Bool.and_eq_true,decide_eq_true_eq];exact ⟨fun h=>⟨h.1.1.1,h.1.1.2,h.1.2,h.2⟩,fun h=>⟨⟨⟨h.1,h.2.1⟩,h.2.2.1⟩,h.2.2.2⟩⟩
def inR (r:RefP):Option RefP:=if okRB r then some r else none
theorem zgz {r r':RefP} (h:inR r=some r'):okR r':=by
 unfold inR at h;split at h
 ·cases h;exact (zTS _).1 (by assumption)
 ·cases h
def zin (f:RefP->Option RefP) (a b:RefP):Option (RefP×RefP):=match f a with
 |none=>none
 |some x=>match f b with
  |none=>none
  |some y=>some (x,y)
theorem zf5 {f:RefP->Option RefP} (hf:∀ r r',okR r->f r=some r'->okR r') (r o:RefP) (p:RefP×RefP) (hr:okR r) (ho:okR o) (h:zin f r o=some p):okR p.1/\okR p.2:=by
 unfold zin at h;cases e1:f r with
 |none=>rw [e1] at h;cases h
 |some x=>
  rw [e1] at h;cases e2:f o with
  |none=>simp only [e2] at h;cases h
  |some y=>
   simp only [e2,Option.some.injEq] at h;subst h;exact ⟨hf _ _ hr e1,hf _ _ ho e2⟩
def zAK (row:Bool) (r:RefP):Int:=if row then r.row else r.col
def zDq (row:Bool) (r:RefP) (k:Int):RefP:=if row then ⟨r.col,k,r.fc,r.fr⟩ else ⟨k,r.row,r.fc,r.fr⟩
def insP (row:Bool) (at_ many:Int) (r:RefP):RefP:=if at_<=zAK row r then zDq row r (zAK row r+many) else r
def insC (row:Bool) (at_ many:Int):Chg:=⟨fun r=>inR (insP row at_ many r),zin fun r=>inR (insP row at_ many r)⟩
theorem zio (row:Bool) (at_ many:Int):(insC row at_ many).ok:=⟨fun _ _ _ h=>zgz h,zf5 fun _ _ _ h=>zgz h⟩
def gone (at_ many k:Int):Bool:=decide (at_<=k/\k<at_+many)
def back (at_ many k:Int):Int:=if at_+many<=k then k-many else k
def zVC (row:Bool) (at_ many:Int) (r:RefP):Option RefP:=if gone at_ many (zAK row r) then none else some (zDq row r (back at_ many (zAK row r)))
def zTT (at_ many k:Int):Int:=back at_ many (if gone at_ many k then at_+many else k)
def zHf (at_ many k:Int):Int:=back at_ many (if gone at_ many k then at_-1 else k)
def zGe (row:Bool) (at_ many:Int) (a b:RefP):Option (RefP×RefP):=
 if gone at_ many (zAK row a)/\gone at_ many (zAK row b) then none
 else if zAK row b<zAK row a then some (zDq row a (zHf at_ many (zAK row a)),zDq row b (zTT at_ many (zAK row b)))
 else some (zDq row a (zTT at_ many (zAK row a)),zDq row b (zHf at_ many (zAK row b)))
def zMz (row:Bool) (at_ many:Int):Chg:=⟨zVC row at_ many,zGe row at_ many⟩
def zWb (row:Bool):Int:=if row then 99 else 26
def okK (row:Bool) (k:Int):Prop:=1<=k/\k<=zWb row
theorem zFB {row:Bool} {r:RefP} (h:okR r):okK row (zAK row r):=by
 obtain ⟨h1,h2,h3,h4⟩:=h;cases row
 ·exact ⟨h1,h2⟩
 ·exact ⟨h3,h4⟩
theorem zNn {row:Bool} {r:RefP} {k:Int} (h:okR r) (hk:okK row k):okR (zDq row r k):=by
 obtain ⟨h1,h2,h3,h4⟩:=h;cases row
 ·exact ⟨hk.1,hk.2,h3,h4⟩
 ·exact ⟨h1,h2,hk.1,hk.2⟩
theorem zKI (row:Bool) (r:RefP) (k:Int):zAK row (zDq row r k)=k:=by cases row <;> rfl
def zGE (row:Bool) (at_ many:Int):Prop:=1<=at_/\at_<=zWb row/\0<=many/\many<=zWb row
theorem zip {row:Bool} {at_ many k:Int} (hs:zGE row at_ many) (h:okK row k) (hg:gone at_ many k=false):okK row (back at_ many k):=by
 obtain ⟨s1,s2,s3,s4⟩:=hs;obtain ⟨h1,h2⟩:=h;unfold gone at hg;rw [decide_eq_false_iff_not] at hg;unfold back;constructor <;> split <;> omega
theorem zcn {row:Bool} {at_ many:Int} (hs:zGE row at_ many):(zMz row at_ many).ok:=by
 constructor
 ·intro r r' hr h;have h:zVC row at_ many r=some r':=h;unfold zVC at h;cases hg:gone at_ many (zAK row r) with
  |true=>rw [hg] at h;cases h
  |false=>
   rw [hg] at h;simp only [Bool.false_eq_true,if_false,Option.some.injEq] at h;subst h;exact zNn hr (zip hs (zFB hr) hg)
 ·intro a b p ha hb h;have h:zGe row at_ many a b=some p:=h;have hl:∀ k k',okK row k->okK row k'->¬ (gone at_ many k=true/\gone at_ many k'=true)->k<=k'->okK row (zTT at_ many k)/\okK row (zHf at_ many k'):=by
   intro k k' hk hk' hg hle;obtain ⟨s1,s2,s3,s4⟩:=hs;obtain ⟨h1,h2⟩:=hk;obtain ⟨h3,h4⟩:=hk';unfold zTT zHf back okK gone at *;simp only [decide_eq_true_eq] at *;refine ⟨⟨?_, ?_⟩,⟨?_, ?_⟩⟩ <;> (split <;> split <;> omega)
  unfold zGe at h;by_cases hg:gone at_ many (zAK row a)=true/\gone at_ many (zAK row b)=true
  ·rw [if_pos hg] at h;cases h
  ·rw [if_neg hg] at h;by_cases hlt:zAK row b<zAK row a
   ·rw [if_pos hlt] at h;cases h;obtain ⟨h1,h2⟩:=hl _ _ (zFB hb) (zFB ha) (fun h=>hg ⟨h.2,h.1⟩) tO;exact ⟨zNn ha h2,zNn hb h1⟩
   ·rw [if_neg hlt] at h;cases h;obtain ⟨h1,h2⟩:=hl _ _ (zFB ha) (zFB hb) hg tO;exact ⟨zNn ha h1,zNn hb h2⟩
structure Bx where
 c0:Int
 r0:Int
 c1:Int
 r1:Int
def Bx.has (b:Bx) (c r:Int):Bool:=decide (b.c0<=c/\c<=b.c1/\b.r0<=r/\r<=b.r1)
def Bx.ok (b:Bx):Bool:=okC b.c0 b.r0&&(okC b.c1 b.r1&&(decide (b.c0<=b.c1)&&decide (b.r0<=b.r1)))
end Go.AM
set_option maxRecDepth 20000
namespace Go.AM
section
variable {C:CSpec} {GT:Nat->Option AV}
theorem zf6 (hmk:∀ x n,(∀ H,EFun C GT zAz [ndV n,.bool x] H (.bool true) H)->FmH C x n) (hB:FcH C) (hA:∀ c r,okC c r=true->∀ H,C zBd [zCx c r] H .nili H)
  (hC:∀ t,t.length<=1000->∀ H,C zA4 [.str t] H (.bool (zA8 t)) H) {x:Bool} {n:Nd} (h:Wf x n):(txt n).length<=1000->FmH C x n:=by
 have ok:∀ r,okR r->okC r.col r.row=true:=fun r h=>(zTS r).2 h;have up:∀ {x:Bool} {n:Nd},Wf false n->FmH C false n->True:=fun _ _=>trivial;induction h with
 |num x m h=>exact fun _=>hmk _ _ fun H=>zfu hB x m H
 |txt x t=>exact fun _=>hmk _ _ fun H=>zfv x t H
 |tru x b=>exact fun _=>hmk _ _ fun H=>zfw hB x b H
 |bad x k h=>exact fun _=>hmk _ _ fun H=>zfx hB x k h H
 |ref x r h=>exact fun _=>hmk _ _ fun H=>zfy hB hA x r (ok r h) H
 |box r o h k=>exact fun _=>hmk _ _ fun H=>zfz hB hA r o (ok r h) (ok o k) H
 |neg x n h ih=>
  intro hl;rw [zE9] at hl;simp only [List.length_cons,zBl] at hl;exact hmk _ _ fun H=>zf0 hB x n (ih tO) H
 |two x op a b h ha hb iha ihb=>
  intro hl;rw [zEg] at hl;simp only [List.length_append,zBl] at hl;exact hmk _ _ fun H=>zf1 hB x op a b h (iha tO) (ihb tO) H
 |call x t ks h hk ih=>
  intro hl;rw [zDH] at hl;simp only [List.length_append,List.length_cons] at hl;have hj:=zGD (ks.map txt);exact hmk _ _ fun H=>zcj hC x t ks h tO (by have:=hj.1;rw [List.length_map] at this;omega) (fun k hk'=>ih k hk' (by have:=hj.2 (txt k) (List.mem_map_of_mem hk');omega)) H
def CtH (C:CSpec) (n:Nd):Prop:=∀ c l H,H[c]?=some (.box [zK l])->cnt n<=l->l<=1000000->C zCi [ndV n,bR c] H (.bool true) (H.set c (.box [zK (l-cnt n)]))
theorem zco (hmk:∀ n,(∀ c l H,H[c]?=some (.box [zK l])->cnt n<=l->l<=1000000->zCw C GT zGS [ndV n,bR c] H c [] .undef (some (.bool true,.box [zK (l-cnt n)])))->CtH C n)
  {x:Bool} {n:Nd} (h:Wf x n):(txt n).length<=1000->CtH C n:=by
 have leaf:∀ n:Nd,n.kids=[]->CtH C n:=fun n hk=>hmk n fun c l H hc hl hl2=>zXk n (by rw [hk];simp) (by rw [hk];simp) c l H hc hl hl2;have node:∀ n:Nd,n.kids.length<=1000000->(∀ k∈n.kids,CtH C k)->CtH C n:=fun n hl hk=>hmk n fun c l H hc h1 h2=>zXk n hk hl c l H hc h1 h2;induction h with
 |num _ n h=>exact fun _=>leaf _ rfl
 |txt _ t=>exact fun _=>leaf _ rfl
 |tru _ b=>exact fun _=>leaf _ rfl
 |bad _ k h=>exact fun _=>leaf _ rfl
 |ref _ r h=>exact fun _=>leaf _ rfl
 |box r o h k=>exact fun _=>leaf _ rfl
 |neg _ n h ih=>
  intro hl;rw [zE9] at hl;simp only [List.length_cons,zBl] at hl;refine node _ (by show [n].length<=1000000;simp) fun k hk=>?_;have hk:k∈[n]:=hk;rw [List.mem_singleton.1 hk];exact ih tO
 |two _ op a b h ha hb iha ihb=>
  intro hl;rw [zEg] at hl;simp only [List.length_append,zBl] at hl;refine node _ (by show [a,b].length<=1000000;simp) fun k hk=>?_;have hk:k∈[a,b]:=hk;rcases List.mem_cons.1 hk with rfl|hk
  ·exact iha tO
  ·rw [List.mem_singleton.1 hk];exact ihb tO
 |call _ t ks h hk ih=>
  intro hl;rw [zDH] at hl;simp only [List.length_append,List.length_cons] at hl;have hj:=zGD (ks.map txt);refine node _ (by show ks.length<=1000000;have:=hj.1;rw [List.length_map] at this;omega) fun k hk'=>?_;have hk':k∈ks:=hk';exact ih k hk' (by have:=hj.2 (txt k) (List.mem_map_of_mem hk');omega)
end
end Go.AM
