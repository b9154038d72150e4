/- Texts of mine in one. Own work. -/
import Derived.Test.YtmfmhljpddpfnaaGreatDoorGAm23Am35
import Derived.Test.YtmfmhljpddpfnaaGreatDoorGRf5Rf3
import Derived.Test.YtmfmhljpddpfnaaGreatDoorGFp0Bg0
import Derived.Test.YtmfmhljpddpfnaaGreatDoorLc
import Derived.Test.YtmfmhljpddpfnaaGreatDoorGBe0Itd
import Derived.Test.YtmfmhljpddpfnaaGreatDoorGFp2Fr4
import Derived.Test.YtmfmhljpddpfnaaGreatDoorGRfdGq
set_option maxRecDepth 20000
set_option maxHeartbeats 8000000
set_option linter.all false
namespace Go.AM
def zRW (H0 H:Heap) (v:AV) (u:Bs):Prop:=(v=.lst (some true) 0 []/\u=[])\/∃ d,v=.sl (some true) d 1 0 u.length/\H0.length<=d/\H[d]?=some (.row 1 (u.map zq))/\H[d+1]?=some (.ty d zEP)/\u≠[]
def BAt (H0 H:Heap) (b:Nat) (u:Bs):Prop:=H0.length<=b/\H[b+1]?=some (.shp b zz 2)/\∃ a v,H[b]?=some (.box [a,v])/\zRW H0 H v u/\(a=.ref b 0 0 0\/a=.nilp)
def BFz (H0 H:Heap) (b:Nat) (u:Bs):Prop:=H0.length<=b/\H[b+1]?=some (.shp b zz 2)/\∃ (a:AV) (d h:Nat),H[b]?=some (.box [a,.sl (some true) d 1 0 u.length])/\H[d]?=some (.frz 1 (u.map zq))/\H[h]?=some (.hd d zEP u.length)/\u≠[]
def KpB (b:Nat) (H H':Heap):Prop:=H.length<=H'.length/\∀ c x,c≠b->(∀ xs,x≠.row 1 xs)->H[c]?=some x->H'[c]?=some x
def BTo (H0 H H':Heap) (b:Nat) (u:Bs):Prop:=BAt H0 H' b u/\Old H0 H'/\KpB b H H'
theorem KpB.refl (b:Nat) (H:Heap):KpB b H H:=⟨zoR _,fun _ _ _ _ h=>h⟩
theorem KpB.trans {b:Nat} {H H1 H2:Heap} (h:KpB b H H1) (k:KpB b H1 H2):KpB b H H2:=⟨zmK h.1 k.1,fun c x hc hx h'=>k.2 c x hc hx (h.2 c x hc hx h')⟩
theorem KpB.push {b:Nat} {H H1:Heap} (h:KpB b H H1) (x:ABlk):KpB b H (H1++[x]):=⟨by rw [zoP];have:=h.1;omega,fun c y hc hy h'=>zG (h.2 c y hc hy h')⟩
theorem KpB.setB {b:Nat} {H H1:Heap} (h:KpB b H H1) (y:ABlk):KpB b H (H1.set b y):=⟨by rw [zoW];exact h.1,fun d x hd hx h'=>zE (fun e=>hd e.symm) (h.2 d x hd hx h')⟩
theorem BTo.trans {H0 H H1 H2:Heap} {b:Nat} {u u':Bs} (h:BTo H0 H H1 b u) (k:BTo H0 H1 H2 b u'):BTo H0 H H2 b u':=⟨k.1,k.2.1,h.2.2.trans k.2.2⟩
theorem zRW.keep {H0 H H':Heap} {v:AV} {u:Bs} (h:zRW H0 H v u) (k:∀ (c:Nat) (x:ABlk),(x=ABlk.row 1 (u.map zq)\/∃ d,x=ABlk.ty d zEP)->H[c]?=some x->H'[c]?=some x):zRW H0 H' v u:=by
 rcases h with h|⟨d,h1,h2,h3,h4,h5⟩
 ·exact .inl h
 ·exact .inr ⟨d,h1,h2,k _ _ (.inl rfl) h3,k _ _ (.inr ⟨d,rfl⟩) h4,h5⟩
theorem zRW.push {H0 H:Heap} {v:AV} {u:Bs} (h:zRW H0 H v u) (x:ABlk):zRW H0 (H++[x]) v u:=h.keep fun _ _ _ h=>zG h
theorem zRW.setBox {H0 H:Heap} {v:AV} {u:Bs} (h:zRW H0 H v u) {c:Nat} {cs:List AV} (hc:H[c]?=some (.box cs)) (x:ABlk):zRW H0 (H.set c x) v u:=h.keep fun e y hy h=>zE (fun he=>by
 rw [he,h] at hc;rcases hy with rfl|⟨d,rfl⟩ <;> cases hc) h
theorem zRW.one {H0 H:Heap} {v:AV} {u:Bs} (h:zRW H0 H v u):v.cells=[v]/\v.one=true:=by
 rcases h with ⟨rfl,_⟩|⟨d,rfl,_⟩ <;> exact ⟨rfl,rfl⟩
theorem zRW.row {H0 H:Heap} {v:AV} {u:Bs} (h:zRW H0 H v u) {b:Nat} (hb:v.blk=some b):∃ ys,H[b]?=some (.row 1 ys):=by
 rcases h with ⟨rfl,_⟩|⟨d,rfl,_,h,_⟩
 ·cases hb
 ·simp only [AV.blk,zoS] at hb;subst hb;exact ⟨_,h⟩
theorem BAt.push {H0 H:Heap} {b:Nat} {u:Bs} (h:BAt H0 H b u) (x:ABlk):BAt H0 (H++[x]) b u:=by
 obtain ⟨h0,hs,a,v,hb,hw,ha⟩:=h;exact ⟨h0,zG hs,a,v,zG hb,hw.push _,ha⟩
theorem BFz.keep {H0 H H':Heap} {b:Nat} {u:Bs} (h:BFz H0 H b u) (hb:∀ x,H[b]?=some x->H'[b]?=some x) (k:∀ (c:Nat) (x:ABlk),(∀ cs,x≠ABlk.box cs)->H[c]?=some x->H'[c]?=some x):BFz H0 H' b u:=by
 obtain ⟨h0,hs,a,d,e,h1,h2,h3,h4⟩:=h;exact ⟨h0,k _ _ (fun _ e=>by cases e) hs,a,d,e,hb _ h1,k _ _ (fun _ e=>by cases e) h2,k _ _ (fun _ e=>by cases e) h3,h4⟩
section
variable {C:CSpec} {GT:zG_}
abbrev bR (b:Nat):AV:=.ref b 0 0 0
def zbD:AF:={ zCq with keep:=true }
def zUl:AF:={ zCR with keep:=true }
def appV (t:Nat) (s:Bool) (x:AV) (ys:List AV) (H:Heap):Option (AV×Heap):=match x with
 |.lst (some true) _ _=>if s=true/\ys.isEmpty=true then some (x,H) else if ys.isEmpty=false/\ys.length<=140737488355328 then some (.sl (some true) H.length 1 0 ys.length,H++[.row 1 ys]++[.ty H.length t]) else none
 |.sl q b k' off len=>if s=true/\ys.isEmpty=true then some (x,H) else match H[b]?,H[b+1]? with
  | some (.row k'' xs),some (.ty b' t')=>if ys.isEmpty=false/\k'=1/\k''=1/\b'=b/\t'=t/\off=0/\len<=xs.length/\len+ys.length<=140737488355328 then
    some (.sl q H.length 1 0 (len+ys.length),H.set b .dead++[.row 1 (xs.take len++ys)]++[.ty H.length t]) else none
  |_,_=>none
 |_=>none
def zbE (s:Bool) (y:AV) (H:Heap):Option (List AV):=match s with
 |true=>(match y with
  |.str z=>some (z.map zq)
  |_=>none)
 |false=>view H 1 y
theorem zS2 (y:AV) (H:Heap):zbE false y H=view H 1 y:=rfl
theorem zJm {t:Nat} {s:Bool} {x y:AV} {H:Heap} {ys:List AV} (hy:zbE s y H=some ys):astep (.appT t s) [x,y] H=appV t s x ys H:=by
 cases s with
 |false=>
  have hy:view H 1 y=some ys:=hy;simp only [astep,zoZ,zot,hy];rfl
 |true=>
  cases y with
  |str z=>
   have hy:some (z.map zq)=some ys:=hy;cases hy;rfl
  |_=>cases hy
theorem zki {H0 H:Heap} {v y:AV} {u t:Bs} {sb:Bool} {K:AV->Heap->Prop} (ho:zRW H0 H v u) (hH:Old H0 H) (hy:zbE sb y H=some (t.map zq)) (hl:u.length+t.length<=140737488355328) (ht:sb=true\/t≠[])
  (q:∀ v' H',zRW H0 H' v' (u++t)->Old H0 H'->H.length<=H'.length->(∀ c x,v.blk≠some c->H[c]?=some x->H'[c]?=some x)->K v' H'):actP (.appT zEP sb) [v,y] H K:=by
 have hlt:(t.map zq).length=t.length:=zoU _;have hie:(t.map zq).isEmpty=t.isEmpty:=by cases t <;> rfl
 by_cases he:t=[]
 ·subst he;have hs:sb=true:=ht.resolve_right fun h=>h rfl;refine zMj (v:=v) (H':=H) ?_ (q v H (by simpa using ho) hH (zoR _) fun c y _ h=>h);rcases ho with ⟨rfl,rfl⟩|⟨d,rfl,_⟩
  ·rw [zJm hy];exact zoQ ⟨hs,rfl⟩
  ·rw [zJm hy];exact zoQ ⟨hs,rfl⟩
 have hne:t.isEmpty=false:=by simpa using he
 rcases ho with ⟨rfl,rfl⟩|⟨d,rfl,h1,h2,h3,h4⟩
 ·simp only [zoT,zl7] at hl;refine zMj (v:=.sl (some true) H.length 1 0 t.length) (H':=H++[.row 1 (t.map zq)]++[.ty H.length zEP]) ?_ ?_
  ·rw [zJm hy];simp only [appV,hie,hne,hlt];rw [zWl zS_,zoQ ⟨trivial,hl⟩]
  ·refine q _ _ (.inr ⟨_,rfl,hH.1,zG zB, ?_,he⟩) ((hH.push _).push _) zS_ fun _ _ _ hx=>zG (zG hx);have:=@zB (H++[.row 1 (t.map zq)]) (.ty H.length zEP)
   rwa [zoP] at this
 ·refine zMj (v:=.sl (some true) H.length 1 0 (u.length+t.length)) (H':=H.set d .dead++[.row 1 (u.map zq++t.map zq)]++[.ty H.length zEP]) ?_ ?_
  ·rw [zJm hy];simp only [appV,hie,hne,hlt,h2,h3];rw [zWl zS_,zoQ ⟨trivial,trivial,trivial,trivial,trivial,trivial,by simp,hl⟩];rw [zox zS_]
  ·have hsl:(H.set d ABlk.dead).length=H.length:=zoW;refine q _ _ (.inr ⟨H.length,by rw [zoP],hH.1, ?_, ?_,by simp [he]⟩) (((hH.set h1 _).push _).push _) zS_ fun c x hc hx=>zG (zG (zE (fun e=>hc (by rw [e];rfl)) hx))
   ·rw [<-hsl,zov];exact zG zB
   ·have:=@zB (H.set d .dead++[.row 1 (u.map zq++t.map zq)]) (.ty H.length zEP)
    rwa [zoP,hsl] at this
theorem zgE {F:AF} {H0 H H1 H':Heap} {fr:Fr} {b:Nat} {v v' r:AV} {u':Bs} (hs1:H1[b+1]?=some (.shp b zz 2)) (hk1:KpB b H H1) (hb2:H'[b]?=some (.box [.ref b 0 0 0,v])) (ho':zRW H0 H' v' u') (hO':Old H0 H')
  (hf:∀ c x,c≠b->(∀ xs,x≠.row 1 xs)->H1[c]?=some x->H'[c]?=some x) (hl:H1.length<=H'.length) (h0:H0.length<=b) (hk:F.keep=true) (hr:(zBd fr (H'.set b (.box [.ref b 0 0 0,v'])) F.results).map tupled=some r) :
  retQ F H fr (H'.set b (.box [.ref b 0 0 0,v'])) (fun x H'=>x=r/\BTo H0 H H' b u'):=by
 have hbl:=(zl_ hb2);refine zLf (zKq hk hr) ⟨rfl,⟨h0,zE tO (hf _ _ tO (fun _ e=>by cases e) hs1),_,v',zl3 hbl,ho'.setBox hb2 _,.inl rfl⟩,hO'.set h0 _, ?_⟩;exact ⟨by rw [zoW];exact zmK hk1.1 hl,fun c x hc hx h=>zE (fun e=>hc e.symm) (hf c x hc hx (hk1.2 c x hc hx h))⟩
def CkB (C:CSpec):Prop:=∀ b a v H,H[b]?=some (.box [a,v])->H[b+1]?=some (.shp b zz 2)->(a=.ref b 0 0 0\/a=.nilp)->C zAq [bR b] H (.tup []) (H.set b (.box [.ref b 0 0 0,v]))
theorem zei (hC:CkB C) (H0:Heap) (b:Nat) (u:Bs) (c:UInt8) (H:Heap) (hB:BAt H0 H b u) (hO:Old H0 H) (hl:u.length<=1000000):zDv C GT zbD [bR b,zq c] H (fun v H'=>v=.nili/\BTo H0 H H' b (u++[c])):=by
 obtain ⟨h0,hs,a,v,hb,hw,ha⟩:=hB;have hbl:=(zl_ hb);have hc:=hC b a v H hb hs ha;obtain ⟨H1,e1⟩:∃ H1,H.set b (.box [.ref b 0 0 0,v])=H1:=⟨_,rfl⟩;have hb1:H1[b]?=some (.box [.ref b 0 0 0,v]):=by rw [<-e1];exact zl3 hbl
 have hs1:H1[b+1]?=some (.shp b zz 2):=by rw [<-e1];exact zE tO hs
 have hw1:zRW H0 H1 v u:=by rw [<-e1];exact hw.setBox hb _
 have hO1:Old H0 H1:=by rw [<-e1];exact hO.set h0 _
 have hk1:KpB b H H1:=by rw [<-e1];exact (KpB.refl b H).setB _
 rw [e1] at hc;clear hC e1;unfold zDv;refine zBc hc (fun h=>nomatch h) ?_;refine zA v hb1 rfl ?_;refine zAA (vs':=[zq c]) rfl rfl ?_;refine zki (t:=[c]) (H0:=H0) (hw1.push _) (hO1.push _) ((zS2 _ _).trans zAR) (by simp;omega) (.inr zS_) fun v' H' ho' hO' hlt hf=>?_;have hnr:∀ {d:Nat} {x:ABlk},(∀ xs,x≠.row 1 xs)->H1[d]?=some x->v.blk≠some d:=fun hx h e=>by
  obtain ⟨ys,hy⟩:=hw1.row e;rw [h] at hy;exact hx _ (zoh hy)
 have hb2:=hf b _ (hnr (fun _ e=>by cases e) hb1) (zG hb1);rw [zoP] at hlt;refine zM (v:=v') [.ref b 0 0 0,v'] hb2 (zod List.length ho'.one.1) ((zod (fun l=>List.all l AV.one) ho'.one.1).trans (by simp [ho'.one.2])) rfl (zod (splice [.ref b 0 0 0,v] 1) ho'.one.1) ?_;exact zgE hs1 hk1 hb2 ho' hO' (fun d x hd hx h=>hf d x (hnr hx h) (zG h)) (by simp at hlt;omega) h0 rfl rfl
theorem zbF (hC:CkB C) (H0:Heap) (b:Nat) (u t:Bs) (H:Heap) (hB:BAt H0 H b u) (hO:Old H0 H) (hl:u.length+t.length<=100000000):zDv C GT zUl [bR b,.str t] H (fun v H'=>v=.tup [zL t.length,.nili]/\BTo H0 H H' b (u++t)):=by
 obtain ⟨h0,hs,a,v,hb,hw,ha⟩:=hB;have hbl:=(zl_ hb);have hc:=hC b a v H hb hs ha;obtain ⟨H1,e1⟩:∃ H1,H.set b (.box [.ref b 0 0 0,v])=H1:=⟨_,rfl⟩;have hb1:H1[b]?=some (.box [.ref b 0 0 0,v]):=by rw [<-e1];exact zl3 hbl
 have hs1:H1[b+1]?=some (.shp b zz 2):=by rw [<-e1];exact zE tO hs
 have hw1:zRW H0 H1 v u:=by rw [<-e1];exact hw.setBox hb _
 have hO1:Old H0 H1:=by rw [<-e1];exact hO.set h0 _
 have hk1:KpB b H H1:=by rw [<-e1];exact (KpB.refl b H).setB _
 rw [e1] at hc;clear hC e1;unfold zDv;refine zBc hc (fun h=>nomatch h) ?_;refine zA v hb1 rfl ?_;refine zki (t:=t) (H0:=H0) hw1 hO1 rfl tO (.inl rfl) fun v' H' ho' hO' hlt hf=>?_;have hnr:∀ {d:Nat} {x:ABlk},(∀ xs,x≠.row 1 xs)->H1[d]?=some x->v.blk≠some d:=fun hx h e=>by
  obtain ⟨ys,hy⟩:=hw1.row e;rw [h] at hy;exact hx _ (zoh hy)
 have hb2:=hf b _ (hnr (fun _ e=>by cases e) hb1) hb1;refine zM (v:=v') [.ref b 0 0 0,v'] hb2 (zod List.length ho'.one.1) ((zod (fun l=>List.all l AV.one) ho'.one.1).trans (by simp [ho'.one.2])) rfl (zod (splice [.ref b 0 0 0,v] 1) ho'.one.1) ?_;exact zgE hs1 hk1 hb2 ho' hO' (fun d x hd hx h=>hf d x (hnr hx h) h) hlt h0 rfl rfl
theorem zej (hC:CkB C) (H0:Heap) (b:Nat) (u t:Bs) (H:Heap) (hB:BAt H0 H b u) (hO:Old H0 H) (hl:u.length+t.length<=1000000):zDv C GT zUl [bR b,.str t] H (fun v H'=>v=.tup [zL t.length,.nili]/\BTo H0 H H' b (u++t)):=
 zbF hC H0 b u t H hB hO tO
def WbH (C:CSpec):Prop:=∀ H0 b u c H,BAt H0 H b u->Old H0 H->u.length<=1000000->∃ H',C zAp [bR b,zq c] H .nili H'/\BTo H0 H H' b (u++[c])
def WtH (C:CSpec):Prop:=∀ H0 b u t H,BAt H0 H b u->Old H0 H->u.length+t.length<=1000000->∃ H',C zAf [bR b,.str t] H (.tup [zL t.length,.nili]) H'/\BTo H0 H H' b (u++t)
theorem BAt.fresh {H0 H:Heap} (h:Old H0 H):BAt H0 ((H++[.box [.nilp,.lst (some true) 0 []]])++[.shp H.length zz 2]) H.length []:=by
 refine ⟨h.1, ?_,.nilp,.lst (some true) 0 [],zG zB,.inl ⟨rfl,rfl⟩,.inr rfl⟩;have:=@zB (H++[.box [.nilp,.lst (some true) 0 []]]) (.shp H.length zz 2)
 rwa [zoP] at this
def St1H (C:CSpec):Prop:=∀ H0 b u H,BAt H0 H b u->Old H0 H->u≠[]->∃ H',C zAB [bR b] H (.str u) H'/\BFz H0 H' b u/\Old H0 H'/\H.length<=H'.length
def St2H (C:CSpec):Prop:=∀ H0 b u H,BFz H0 H b u->C zAB [bR b] H (.str u) H
end
def zFz (n:Nat):Bs:=if n=0 then [48] else (zS1 n).reverse
def esc:Bs->Bs
 |[]=>[]
 |c::r=>if c=34 then 34::34::esc r else c::esc r
def zD3 (r:RefP):Bs:=(if r.fc then [36] else [])++[UInt8.ofNat (64+r.col.toNat)]++(if r.fr then [36] else [])++zFz r.row.toNat
def opT (op:Nat):Bs:=[[],[61],[60,62],[60],[60,61],[62],[62,61],[38],[43],[45],[42],[47]].getD op []
def zb (n:Nd):Nat:=if n.kind=8 then tight n.num.toNat else 9
def brk (need:Bool) (t:Bs):Bs:=if need then 40::t++[41] else t
def zAx:List Bs->Bs
 |[]=>[]
 |[t]=>t
 |t::u::r=>t++44::zAx (u::r)
def txtK (k num:Int) (t:Bs) (r o:RefP) (ks:List (Nat×Bs)):Bs:=
 if k=1 then zFz num.toNat
 else if k=2 then 34::esc t++[34]
 else if k=3 then (if num=1 then zFx else zDS)
 else if k=4 then wrongs.getD (num.toNat-1) []
 else if k=5 then zD3 r
 else if k=6 then zD3 r++58::zD3 o
 else if k=7 then (match ks with
  |[a]=>45::brk (decide (a.1<9)) a.2
  |_=>[])
 else if k=8 then (match ks with
  |[a,b]=>brk (decide (a.1<tight num.toNat)) a.2++opT num.toNat++brk (decide (b.1<=tight num.toNat)) b.2
  |_=>[])
 else t++40::zAx (ks.map (·.2))++[41]
mutual
def txt:Nd->Bs
 |.mk k num t r o ks=>txtK k num t r o (txts ks)
def txts:List Nd->List (Nat×Bs)
 |[]=>[]
 |n::r=>(zb n,txt n)::txts r
end
theorem zWE:∀ ks:List Nd,txts ks=ks.map fun n=>(zb n,txt n)
 |[]=>rfl
 |n::r=>by rw [txts,zoa,zWE r]
theorem zKs (n:Int):txt (zJj n)=zFz n.toNat:=rfl
theorem zKt (t:Bs):txt (zHG t)=34::esc t++[34]:=rfl
theorem zKu (b:Bool):txt (zE3 b)=if b then zFx else zDS:=by cases b <;> rfl
theorem zOo (k:Nat):txt (zHJ k)=wrongs.getD (k-1) []:=by show wrongs.getD ((k:Int).toNat-1) []=_;rw [zoq]
theorem zIQ (r:RefP):txt (zB3 r)=zD3 r:=rfl
theorem zOp (r o:RefP):txt (zAy r o)=zD3 r++58::zD3 o:=rfl
theorem zEz (n:Nd):txt (zl1 n)=45::brk (decide (zb n<9)) (txt n):=rfl
theorem zEX (op:Nat) (a b:Nd):txt (zAn op a b)=brk (decide (zb a<tight op)) (txt a)++opT op++brk (decide (zb b<=tight op)) (txt b):=by
 show brk (decide (zb a<tight (op:Int).toNat)) (txt a)++opT (op:Int).toNat++brk (decide (zb b<=tight (op:Int).toNat)) (txt b)=_;rw [zoq]
theorem zCz (t:Bs) (ks:List Nd):txt (zAw t ks)=t++40::zAx (ks.map txt)++[41]:=by
 show t++40::zAx ((txts ks).map (·.2))++[41]=_;rw [zWE,zm7];rfl
def okR (r:RefP):Prop:=1<=r.col/\r.col<=26/\1<=r.row/\r.row<=99
inductive Wf:Bool->Nd->Prop where
 |num (x:Bool) (n:Nat) (h:n<=9223372036854775807):Wf x (zJj n)
 |txt (x:Bool) (t:Bs):Wf x (zHG t)
 |tru (x b:Bool):Wf x (zE3 b)
 |bad (x:Bool) (k:Nat) (h:1<=k/\k<=6):Wf x (zHJ k)
 |ref (x:Bool) (r:RefP) (h:okR r):Wf x (zB3 r)
 |box (r o:RefP) (h:okR r) (k:okR o):Wf true (zAy r o)
 |neg (x:Bool) (n:Nd) (h:Wf false n):Wf x (zl1 n)
 |two (x:Bool) (op:Nat) (a b:Nd) (h:1<=op/\op<=11) (ha:Wf false a) (hb:Wf false b):Wf x (zAn op a b)
 |call (x:Bool) (t:Bs) (ks:List Nd) (h:zA3 t=true) (hk:∀ k∈ks,Wf true k):Wf x (zAw t ks)
def needK (k num:Int) (ks:List (Nat×Nat)):Nat:=
 if k=7 then (match ks with
  |[a]=>1+(a.2+if a.1<9 then 1 else 0)
  |_=>0)
 else if k=8 then (match ks with
  |[a,b]=>max (a.2+if a.1<tight num.toNat then 1 else 0) (b.2+if b.1<=tight num.toNat then 1 else 0)
  |_=>0)
 else if k=9 then 1+(ks.map (·.2)).foldr max 0
 else 0
mutual
def need:Nd->Nat
 |.mk k num _ _ _ ks=>needK k num (needs ks)
def needs:List Nd->List (Nat×Nat)
 |[]=>[]
 |n::r=>(zb n,need n)::needs r
end
theorem zS3:∀ ks:List Nd,needs ks=ks.map fun n=>(zb n,need n)
 |[]=>rfl
 |n::r=>by rw [needs,zoa,zS3 r]
theorem zNa (n:Nd):need (zl1 n)=1+(need n+if zb n<9 then 1 else 0):=rfl
theorem zNb (op:Nat) (a b:Nd):need (zAn op a b)=max (need a+if zb a<tight op then 1 else 0) (need b+if zb b<=tight op then 1 else 0):=by
 show max (need a+if zb a<tight (op:Int).toNat then 1 else 0) (need b+if zb b<=tight (op:Int).toNat then 1 else 0)=_;rw [zoq]
theorem zLo (t:Bs) (ks:List Nd):need (zAw t ks)=1+(ks.map need).foldr max 0:=by
 show 1+((needs ks).map (·.2)).foldr max 0=_;rw [zS3,zm7];rfl
theorem zLp (op:Nat) (a b:Nd):zb (zAn op a b)=tight op:=by
 show (if (8:Int)=8 then tight (op:Int).toNat else 9)=_;rw [zoQ rfl,zoq]
theorem zDx (op:Nat):1<=tight op/\tight op<=4:=by unfold tight;split <;> (try split) <;> (try split) <;> omega
theorem zOq {k:Nat} (h:k<10):(UInt8.ofNat (48+k)).toNat=48+k:=by simp;omega
theorem zek:∀ (n:Nat),∀ c∈zS1 n,zGr c=true:=by
 intro n;induction n using Nat.strongRecOn with
 |ind n ih=>
  intro c hc;by_cases h:n=0
  ·subst h;cases hc
  ·rw [zIP h] at hc;rcases zmG.1 hc with rfl|hc
   ·have:=zOq (k:=n%10) tO;unfold zGr;rw [this];simp;omega
   ·exact ih (n/10) tO c hc
theorem zX4 (l:Bs) (c:UInt8):zDl (l++[c])=zDl l*10+(c.toNat-48):=by unfold zDl;rw [List.foldl_append];rfl
theorem zel:∀ n:Nat,zDl (zS1 n).reverse=n:=by
 intro n;induction n using Nat.strongRecOn with
 |ind n ih=>
  by_cases h:n=0
  ·subst h;rfl
  ·rw [zIP h,zoM,zX4,ih (n/10) tO,zOq tO];omega
theorem zJn (n:Nat):∀ c∈zFz n,zGr c=true:=by
 unfold zFz;split
 ·intro c hc;rw [zl5.1 hc];rfl
 ·intro c hc;exact zek n c (List.mem_reverse.1 hc)
theorem zem (n:Nat):zDl (zFz n)=n:=by
 unfold zFz;split
 ·rename_i h;rw [h];rfl
 ·exact zel n
theorem zOr:∀ n:Nat,n≠0->(zS1 n).getLast?≠some 48/\(zS1 n)≠[]:=by
 intro n;induction n using Nat.strongRecOn with
 |ind n ih=>
  intro h;rw [zIP h];refine ⟨?_,by simp⟩;by_cases h1:n/10=0
  ·rw [h1,zJT];intro e;have e:UInt8.ofNat (48+n%10)=48:=zoh e;have:=zOq (k:=n%10) tO;rw [e] at this;simp at this;omega
  ·grind
theorem zOs (n:Nat):zFz n≠[]:=by
 unfold zFz;split
 ·simp
 ·rename_i h;simpa using (zOr n h).2
theorem zbG (n:Nat) (h:(zFz n).head?=some 48):zFz n=[48]:=by
 unfold zFz at h ⊢;split
 ·rfl
 ·rename_i h0;rw [zWl h0,List.head?_reverse] at h;exact absurd h (zOr n h0).1
theorem zQK {n:Nat} (h:n<=9223372036854775807):zCL (zFz n)=some (n:Int):=by
 unfold zCL;rw [zWl,zoQ (zmE.2 (zJn n)),zem,zoQ h];rintro (h1|⟨h1,h2⟩)
 ·exact zOs n h1
 ·exact h2 (zbG n h1)
theorem zJo {c:UInt8} (h:zGr c=true):zh c=true:=by
 unfold zGr at h;unfold zh;simp only [zTo,zoY] at h;simp [h.1,h.2]
theorem zQL {c:UInt8} (h:zO7 c=true):zh c=true:=by
 unfold zO7 at h;unfold zh;simp only [zTo,zoY] at h;simp [h.1,h.2]
section
variable {C:CSpec} {GT:zG_}
def zEa (n:Nd):Nat:=if n.kind=8 then tight n.num.toNat else 5
theorem zbH (n:Nd):(zEa n<5)=(zb n<9):=by
 unfold zEa zb;split
 ·have:=zDx n.num.toNat;exact propext ⟨fun _=>by omega,fun _=>by omega⟩
 ·grind
theorem zhz (n:Int) (H:Heap):EFun C GT zOW [zK n] H (v3 1 n) H:=by
 refine zH<|sX ?_;refine sSA (.agg [.int .i64 1,zK n,.str []]) ?_
 exact zAU (o:=0) rfl rfl (zJ hP) rfl rfl rfl hO
theorem zbI (n:Nd) (h:n.kind=8->1<=n.num/\n.num<=11) (H:Heap):EFun C GT zJG [ndV n] H (zK (zEa n)) H:=by
 have hb:=@zB H (.box (ndV n).cells);refine zH ?_;unfold zEa;by_cases h8:n.kind=8
 ·obtain ⟨h1,h2⟩:=h h8;obtain ⟨k,hk⟩:∃ k:Nat,n.num=k:=⟨n.num.toNat,by omega⟩;rw [zoQ h8,hk,zoq];unfold tight;by_cases h3:n.num<=6
  ·rw [zoQ tO];refine sX ?_;refine zc (zog.2 h8)<|zA (.int IntKind.i64 n.num) zB rfl<|zt (zoj h3) ?_
   exact sRv
  ·rw [zWl tO];by_cases h4:n.num=7
   ·rw [zoQ tO];refine sX ?_;refine zc (zog.2 h8)<|zA (.int IntKind.i64 n.num) zB rfl<|zc (zop h3)<|zA (.int IntKind.i64 n.num) zB rfl<|zt (tE h4) ?_
    exact sRv
   ·rw [zWl tO];by_cases h5:n.num<=9
    ·rw [zoQ tO];refine sX ?_;refine zc (zog.2 h8)<|zA (.int IntKind.i64 n.num) zB rfl<|zc (zop h3)<|zA (.int IntKind.i64 n.num) zB rfl<|zc (tN h4)<|zA (.int IntKind.i64 n.num) zB rfl<|zt (zoj h5) ?_
     exact sRv
    ·rw [zWl tO];refine sX ?_;refine zc (zog.2 h8)<|zA (.int IntKind.i64 n.num) zB rfl<|zc (zop h3)<|zA (.int IntKind.i64 n.num) zB rfl<|zc (tN h4)<|zA (.int IntKind.i64 n.num) zB rfl<|zc (zop h5) ?_
     exact sRv
 ·rw [zWl h8];refine sX ?_;refine zt (zo0.2 h8) ?_;exact sRv
theorem zen (k:Nat) (h:1<=k/\k<=11):part [.str [],.str [61],.str [60,62],.str [60],.str [60,61],.str [62],.str [62,61],.str [38],.str [43],.str [45],.str [42],.str [47]] ((k:Int).toNat*1) 1 false=some (.str (opT k)):=by
 obtain ⟨h1,h2⟩:=h;rw [zoq,zn1];have:k=1\/k=2\/k=3\/k=4\/k=5\/k=6\/k=7\/k=8\/k=9\/k=10\/k=11:=by omega
 rcases this with rfl|rfl|rfl|rfl|rfl|rfl|rfl|rfl|rfl|rfl|rfl <;> rfl
theorem zbJ:zFY zV8 [(0,1),(1,1),(2,1),(3,1),(4,1),(5,1),(6,1),(7,1),(8,1),(9,1),(10,1),(11,1)] [.str [],.str [61],.str [60,62],.str [60],.str [60,61],.str [62],.str [62,61],.str [38],.str [43],.str [45],.str [42],.str [47]]=some [.str [],.str [61],.str [60,62],.str [60],.str [60,61],.str [62],.str [62,61],.str [38],.str [43],.str [45],.str [42],.str [47]]:=by
 simp [zFY,splice,AV.cells,AV.one]
theorem zbK (k:Nat) (h:1<=k/\k<=11) (H:Heap):EFun C GT zIc [zL k] H (.str (opT k)) H:=by
 refine zH<|za zbJ<|zBA (And.intro tO tO)<|za (zen k h) ?_
 exact sRv
theorem zeo (hI:∀ n:Nat,n<=9223372036854775807->∀ H,C zD7 [zL n] H (.str (zFz n)) H) (n:Nat) (hn:n<=9223372036854775807) (H:Heap):EFun C GT zGj [v3 1 n] H (.str (zFz n)) H:=by
 have hi:=hI n hn;clear hI;refine zH<|sX ?_
 exact sRv
theorem zep (b:Bool) (H:Heap):EFun C GT zGj [v3 3 (if b=true then 1 else 0)] H (.str (if b then zFx else zDS)) H:=by
 refine zH ?_;cases b
 ·refine sX ?_;exact sRv
 ·refine sX ?_;exact sRv
theorem zX5 (k:Nat) (h:1<=k/\k<=6):part [.str [],.str [35,68,73,86,33],.str [35,86,65,76,85,69,33],.str [35,82,69,70,33],.str [35,78,65,77,69,33],.str [35,78,85,77,33],.str [35,78,79,78,69,33]] (0+(k:Int).toNat*1) 1 false=some (.str (wrongs.getD (k-1) [])):=by
 obtain ⟨h1,h2⟩:=h;rw [zoq,zn1,zl7];have:k=1\/k=2\/k=3\/k=4\/k=5\/k=6:=by omega
 rcases this with rfl|rfl|rfl|rfl|rfl|rfl <;> rfl
theorem zX6:∀ n:Nat,(zFz n).length<=n+1:=by
 intro n;unfold zFz;split
 ·simp
 ·rw [zmy];have:∀ n:Nat,(zS1 n).length<=n:=fun n=>by
   induction n using Nat.strongRecOn with
   |ind n ih=>
    by_cases h:n=0
    ·subst h;rw [zJT];simp
    ·rw [zIP h,zoN];have:=ih (n/10) tO;omega
  have:=this n;omega
theorem zh0 (k:Nat) (h:k<26):(Utf8.encode ((65+k:Nat):Int)).data.toList=[UInt8.ofNat (65+k)]:=by
 have hv:Utf8.valid ((65+k:Nat):Int)=true:=by
  simp [Utf8.valid];omega
 unfold Utf8.encode;simp only [hv,zoz,zoq];rw [zoQ tO]
theorem zX7 (hI:∀ n:Nat,n<=9223372036854775807->∀ H,C zD7 [zL n] H (.str (zFz n)) H) (hO:∀ c r H,C zFS [ze c r] H (.bool (okC c r)) H) (r:RefP) (h:okR r) (H:Heap):EFun C GT zKH [rV r] H (.tup [.str (zD3 r),.nili]) H:=by
 obtain ⟨c,r,fc,fr⟩:=r;obtain ⟨h1,h2,h3,h4⟩:=h;obtain ⟨k,rfl⟩:∃ k:Nat,c=((k+1:Nat):Int):=⟨c.toNat-1,by simp at h1;omega⟩;obtain ⟨m,rfl⟩:∃ m:Nat,r=(m:Int):=⟨r.toNat,by simp at h3;omega⟩;simp only at h1 h2 h3 h4;have hi:=hI m tO;have ho:∀ H,C zFS [ze ((k+1:Nat):Int) m] H (.bool true) H:=fun H=>by
  have:=hO ((k+1:Nat):Int) m H
  rwa [show okC ((k+1:Nat):Int) m=true from by simp [okC];omega] at this
 have w1:IntKind.i64.wrap (65+((k+1:Nat):Int))=((66+k:Nat):Int):=by rw [IntKind.wrap_i64];omega
 have w2:IntKind.i64.wrap (((66+k:Nat):Int)-1)=((65+k:Nat):Int):=by rw [IntKind.wrap_i64];omega
 have w3:IntKind.i32.wrap ((65+k:Nat):Int)=((65+k:Nat):Int):=by rw [IntKind.wrap_i32];omega
 have he:=zh0 k tO;have hd:(zFz m).length<=100:=by have:=zX6 m;omega
 clear hI hO;refine zH ?_;have hn:(Utf8.encode ((65+k:Nat):Int)).data.toList.length=1:=by rw [he];rfl
 have e:zD3 ⟨((k+1:Nat):Int),m,fc,fr⟩=(match fr with|true=>((match fc with|true=>[36]|false=>[])++(Utf8.encode ((65+k:Nat):Int)).data.toList)++[36]|false=>(match fc with|true=>[36]|false=>[])++(Utf8.encode ((65+k:Nat):Int)).data.toList)++zFz m:=by
  unfold zD3;simp only [zoq];rw [he,show 64+(k+1)=65+k by omega];cases fc <;> cases fr <;> rfl
 clear he;rw [e];cases fc with
 |false=>
  cases fr with
  |false=>
   refine zAV (x:=rV ⟨((k+1:Nat):Int),m,false,false⟩) rfl<|zA _ zB rfl<|zI (ho _)<|zC<|zA _ zB rfl<|zC<|zA _ zB rfl<|zCl w1<|zCl w2<|zCl w3<|zBA (by simp only [zoP,zoN,zoT,hn];omega)<|zA _ zB rfl<|zC<|zA _ zB rfl<|zI (hi _)<|zBA (by simp only [zoP,zoN,zoT,hn];omega) ?_
   exact zAQ rfl rfl rfl rfl ((Old.refl _).push _)
  |true=>
   refine zAV (x:=rV ⟨((k+1:Nat):Int),m,false,true⟩) rfl<|zA _ zB rfl<|zI (ho _)<|zC<|zA _ zB rfl<|zC<|zA _ zB rfl<|zCl w1<|zCl w2<|zCl w3<|zBA (by simp only [zoP,zoN,zoT,hn];omega)<|zA _ zB rfl<|zD<|zBA (by simp only [zoP,zoN,zoT,hn];omega)<|zA _ zB rfl<|zI (hi _)<|zBA (by simp only [zoP,zoN,zoT,hn];omega) ?_
   exact zAQ rfl rfl rfl rfl ((Old.refl _).push _)
 |true=>
  cases fr with
  |false=>
   refine zAV (x:=rV ⟨((k+1:Nat):Int),m,true,false⟩) rfl<|zA _ zB rfl<|zI (ho _)<|zC<|zA _ zB rfl<|zD<|zA _ zB rfl<|zCl w1<|zCl w2<|zCl w3<|zBA (by simp only [zoP,zoN,zoT,hn];omega)<|zA _ zB rfl<|zC<|zA _ zB rfl<|zI (hi _)<|zBA (by simp only [zoP,zoN,zoT,hn];omega) ?_
   exact zAQ rfl rfl rfl rfl ((Old.refl _).push _)
  |true=>
   refine zAV (x:=rV ⟨((k+1:Nat):Int),m,true,true⟩) rfl<|zA _ zB rfl<|zI (ho _)<|zC<|zA _ zB rfl<|zD<|zA _ zB rfl<|zCl w1<|zCl w2<|zCl w3<|zBA (by simp only [zoP,zoN,zoT,hn];omega)<|zA _ zB rfl<|zD<|zBA (by simp only [zoP,zoN,zoT,hn];omega)<|zA _ zB rfl<|zI (hi _)<|zBA (by simp only [zoP,zoN,zoT,hn];omega) ?_
   exact zAQ rfl rfl rfl rfl ((Old.refl _).push _)
theorem zeq (hG:GT zEo=some zOi) (k:Nat) (h:1<=k/\k<=6) (H:Heap):EFun C GT zGj [v3 4 k] H (.str (wrongs.getD (k-1) [])) H:=by
 refine zH<|zAV (x:=v3 4 k) rfl<|zA (.int IntKind.i64 4) zB rfl<|zC<|zC<|zC<|zt (tT)<|zA (.int IntKind.i64 ↑k) zB rfl<|zt (tT)<|zA (.int IntKind.i64 ↑k) zB rfl<|zD<|zt (tT)<|sX ?_;refine zBA (And.intro tO tO)<|zg3 hG<|z8 (.str (wrongs.getD (k-1) [])) (zX5 k h) ?_
 exact sRv
end
def zGQ:AF:={ zJC with keep:=true }
def wrQ (H0 H:Heap) (b:Nat) (u:Bs):AV->Heap->Prop:=fun v H'=>v=.tup []/\BTo H0 H H' b u
theorem KpB.push0 (b:Nat) (H:Heap) (x:ABlk):KpB b H (H++[x]):=(KpB.refl b H).push x
section
variable {C:CSpec} {GT:zG_}
theorem zbL (hT:WtH C) (m:Nat) (hN:∀ H,C zH4 [zL m] H (v3 1 m) H) (hS:∀ H,C zCp [v3 1 m] H (.str (zFz m)) H) (H0:Heap) (b:Nat) (u:Bs) (H:Heap) (hB:BAt H0 H b u) (hO:Old H0 H) (hl:u.length+(zFz m).length<=1000000) :
  zDv C GT zGQ [bR b,ndV (zJj m)] H (wrQ H0 H b (u++zFz m)):=by
 obtain ⟨H2,hw,h2⟩:=hT H0 b u (zFz m) _ (hB.push (.box (ndV (zJj m)).cells)) (hO.push _) hl;clear hT;unfold zDv;refine sX ?_;exact zLf (zKq rfl rfl) ⟨rfl,h2.1,h2.2.1,(KpB.push0 b H _).trans h2.2.2⟩
theorem zbM (hT:WtH C) (t:Bs) (hR:∀ H,C zBI [.str t,.str [34],.str [34,34]] H (.str (esc t)) H) (H0:Heap) (b:Nat) (u:Bs) (H:Heap) (hB:BAt H0 H b u) (hO:Old H0 H) (hl:u.length+((esc t).length+2)<=1000000) :
  zDv C GT zGQ [bR b,ndV (zHG t)] H (wrQ H0 H b (u++(34::esc t++[34]))):=by
 obtain ⟨H2,hw,h2⟩:=hT H0 b u (34::esc t++[34]) _ (hB.push (.box (ndV (zHG t)).cells)) (hO.push _) (by simp;omega);clear hT;unfold zDv;refine sX ?_;refine zBA (by simp;omega)<|zBA (by simp;omega)<|sX ?_
 exact zLf (zKq rfl rfl) ⟨rfl,h2.1,h2.2.1,(KpB.push0 b H _).trans h2.2.2⟩
theorem zbN (hT:WtH C) (x:Bool) (hI:∀ H,C zDs [.bool x] H (v3 3 (if x=true then 1 else 0)) H) (hS:∀ H,C zCp [v3 3 (if x=true then 1 else 0)] H (.str (if x then zFx else zDS)) H) (H0:Heap) (b:Nat) (u:Bs) (H:Heap) (hB:BAt H0 H b u) (hO:Old H0 H) (hl:u.length+(if x then zFx else zDS:Bs).length<=1000000) :
  zDv C GT zGQ [bR b,ndV (zE3 x)] H (wrQ H0 H b (u++(if x then zFx else zDS))):=by
 obtain ⟨H2,hw,h2⟩:=hT H0 b u (if x then zFx else zDS) _ (hB.push (.box (ndV (zE3 x)).cells)) (hO.push _) hl;clear hT;unfold zDv;refine sX ?_;have e:((if x=true then (1:Int) else 0)==1)=x:=by cases x <;> rfl
 cases x with
 |true=>
  refine sX ?_;exact zLf (zKq rfl rfl) ⟨rfl,h2.1,h2.2.1,(KpB.push0 b H _).trans h2.2.2⟩
 |false=>
  refine sX ?_;exact zLf (zKq rfl rfl) ⟨rfl,h2.1,h2.2.1,(KpB.push0 b H _).trans h2.2.2⟩
theorem zbO (hT:WtH C) (k:Nat) (t:Bs) (hW:∀ H,C zCt [zL k] H (v3 4 k) H) (hS:∀ H,C zCp [v3 4 k] H (.str t) H) (H0:Heap) (b:Nat) (u:Bs) (H:Heap) (hB:BAt H0 H b u) (hO:Old H0 H) (hl:u.length+t.length<=1000000) :
  zDv C GT zGQ [bR b,ndV (zHJ k)] H (wrQ H0 H b (u++t)):=by
 obtain ⟨H2,hw,h2⟩:=hT H0 b u t _ (hB.push (.box (ndV (zHJ k)).cells)) (hO.push _) hl;clear hT;unfold zDv;refine sX ?_;exact zLf (zKq rfl rfl) ⟨rfl,h2.1,h2.2.1,(KpB.push0 b H _).trans h2.2.2⟩
theorem zbP (hT:WtH C) (r:RefP) (hN:∀ H,C zDC [rV r] H (.tup [.str (zD3 r),.nili]) H) (H0:Heap) (b:Nat) (u:Bs) (H:Heap) (hB:BAt H0 H b u) (hO:Old H0 H) (hl:u.length+(zD3 r).length<=1000000) (hb:b<H.length) :
  zDv C GT zGQ [bR b,ndV (zB3 r)] H (wrQ H0 H b (u++zD3 r)):=by
 obtain ⟨H2,hw,h2⟩:=hT H0 b u (zD3 r) _ (hB.push (.box (ndV (zB3 r)).cells)) (hO.push _) hl;have hn2:H2[H.length]?=some (.box (ndV (zB3 r)).cells):=h2.2.2.2 _ _ tO (by intro xs e;cases e) zB;clear hT;unfold zDv;refine sX ?_;exact zLf (zKq rfl rfl) ⟨rfl,h2.1,h2.2.1,(KpB.push0 b H _).trans h2.2.2⟩
end
def WrH (C:CSpec) (n:Nd):Prop:=∀ H0 b u H,BAt H0 H b u->Old H0 H->b<H.length->u.length+(txt n).length<=1000000->∃ H',C zEj [bR b,ndV n] H (.tup []) H'/\BTo H0 H H' b (u++txt n)
def BrH (C:CSpec) (n:Nd):Prop:=∀ x H0 b u H,BAt H0 H b u->Old H0 H->b<H.length->u.length+(brk x (txt n)).length<=1000000->∃ H',C zDK [bR b,ndV n,.bool x] H (.tup []) H'/\BTo H0 H H' b (u++brk x (txt n))
def zMW:AF:={ zGk with keep:=true }
theorem BAt.lt {H0 H:Heap} {b:Nat} {u:Bs} (h:BAt H0 H b u):b<H.length:=by
 obtain ⟨_,_,a,v,hb,_⟩:=h;exact (zl_ hb)
section
variable {C:CSpec} {GT:zG_}
theorem zbQ (hT:WtH C) (r o:RefP) (hN:∀ H,C zDC [rV r] H (.tup [.str (zD3 r),.nili]) H) (hN2:∀ H,C zDC [rV o] H (.tup [.str (zD3 o),.nili]) H) (H0:Heap) (b:Nat) (u:Bs) (H:Heap) (hB:BAt H0 H b u) (hO:Old H0 H) (hl:u.length+(zD3 r++58::zD3 o).length<=1000000) (hb:b<H.length) :
  zDv C GT zGQ [bR b,ndV (zAy r o)] H (wrQ H0 H b (u++(zD3 r++58::zD3 o))):=by
 simp only [zoP,zoN] at hl;obtain ⟨H2,hw,h2⟩:=hT H0 b u (zD3 r) _ (hB.push (.box (ndV (zAy r o)).cells)) (hO.push _) tO;have hn2:H2[H.length]?=some (.box (ndV (zAy r o)).cells):=h2.2.2.2 _ _ tO (by intro xs e;cases e) zB;obtain ⟨H3,hw3,h3⟩:=hT H0 b _ (58::zD3 o) _ h2.1 h2.2.1 (by simp;omega);clear hT;unfold zDv;refine sX ?_;refine zBA (by simp;omega)<|sX ?_
 rw [<-List.append_assoc];exact zLf (zKq rfl rfl) ⟨rfl,h3.1,h3.2.1,((KpB.push0 b H _).trans h2.2.2).trans h3.2.2⟩
theorem zUm (hWb:WbH C) (n:Nd) (hW:WrH C n) (x:Bool) (H0:Heap) (b:Nat) (u:Bs) (H:Heap) (hB:BAt H0 H b u) (hO:Old H0 H) (hl:u.length+(brk x (txt n)).length<=1000000) (hb:b<H.length) :
  zDv C GT zMW [bR b,ndV n,.bool x] H (wrQ H0 H b (u++brk x (txt n))):=by
 cases x with
 |true=>
  have hl:u.length+((txt n).length+2)<=1000000:=by simpa [brk] using hl
  obtain ⟨H2,hw2,h2⟩:=hWb H0 b u 40 _ (hB.push (.box (ndV n).cells)) (hO.push _) tO;have hn2:H2[H.length]?=some (.box (ndV n).cells):=h2.2.2.2 _ _ tO (by intro xs e;cases e) zB;obtain ⟨H3,hw3,h3⟩:=hW H0 b _ _ h2.1 h2.2.1 h2.1.lt (by simp;omega);obtain ⟨H4,hw4,h4⟩:=hWb H0 b _ 41 _ h3.1 h3.2.1 (by simp;omega);have e:u++brk true (txt n)=u++[40]++txt n++[41]:=by simp [brk]
  rw [e];clear hWb hW;unfold zDv;refine sX ?_;exact zLf (zKq rfl rfl) ⟨rfl,h4.1,h4.2.1,(((KpB.push0 b H _).trans h2.2.2).trans h3.2.2).trans h4.2.2⟩
 |false=>
  obtain ⟨H3,hw3,h3⟩:=hW H0 b _ _ (hB.push (.box (ndV n).cells)) (hO.push _) (by rw [zoP];omega) hl;clear hWb hW;unfold zDv;refine sX ?_;exact zLf (zKq rfl rfl) ⟨rfl,h3.1,h3.2.1,(KpB.push0 b H _).trans h3.2.2⟩
end
theorem zCX {s:Bs} {a:Nat} {c:UInt8} {r:Bs} (h:s.drop a=c::r):s[a]?=some c/\s.drop (a+1)=r:=by
 have h1:(s.drop a)[0]?=some c:=by rw [h];rfl
 rw [zo1,zmz] at h1;refine ⟨h1, ?_⟩;have:=zod List.tail h
 rwa [List.tail_drop] at this
theorem zFM {s:Bs} {a:Nat} {x v:Bs} (h:s.drop a=x++v):s.drop (a+x.length)=v:=by
 rw [<-List.drop_drop,h,List.drop_left]
theorem zRX {s:Bs} {a:Nat} {c:UInt8} {r:Bs} (h:s.drop a=c::r):a<s.length:=(zg (zCX h).1).1
theorem zOt {s:Bs} {a:Nat} {x v:Bs} (h:s.drop a=x++v) (ha:a<=s.length):a+x.length<=s.length:=by
 have:=zod List.length h;rw [zok,zoP] at this;omega
theorem zWF:∀ (x v:Bs),(∀ c∈x,zh c=true)->(∀ c,v.head?=some c->zh c=false)->zdP (x++v)=x.length
 |[],[],_,_=>rfl
 |[],c::r,_,h=>by rw [zo4,zdP,zWl (by rw [h c rfl];simp)];rfl
 |c::x,v,h,k=>by rw [zl9,zdP,zoQ (h c zS_),zWF x v (fun d hd=>h d (by simp [hd])) k];rfl
def Sep (v:Bs):Prop:=∀ c,v.head?=some c->zh c=false/\c≠34/\c≠40/\c≠58
theorem zS4 {c:UInt8} (h:zh c=true):c≠32/\c≠34/\c≠35:=by
 refine ⟨?_, ?_, ?_⟩ <;> (rintro rfl;revert h;decide)
theorem zQM {s:Bs} {a:Nat} {c:UInt8} {r:Bs} (h:s.drop a=c::r) (hc:c≠32):tok s a=zBi s a:=by
 unfold tok;rw [zDg (by rw [(zCX h).1];simpa using hc)]
theorem zer {s:Bs} {a:Nat} (h:s.drop a=[]):tok s a=.fin:=by
 have h0:s[a]?=none:=znK.2 (List.drop_eq_nil_iff.1 h);unfold tok;rw [zDg (by rw [h0];simp)];unfold zBi;rw [h0]
theorem zQN {s:Bs} {a:Nat} {x v:Bs} (h:s.drop a=x++v) (hx:x≠[]) (hw:∀ c∈x,zh c=true) (hv:∀ c,v.head?=some c->zh c=false):zBi s a=.word (a+x.length) x:=by
 obtain ⟨c,r,rfl⟩:=zmQ hx;have hc:=hw c zS_;have hr:zlz s a=a+(c::r).length:=by unfold zlz;rw [h,zWF _ _ hw hv]
 unfold zBi;rw [(zCX h).1];simp only;rw [zoQ hc,hr]
 congr 1
 unfold sub;rw [h,znC,List.take_left]
theorem zGw {s:Bs} {a:Nat} {x v:Bs} (h:s.drop a=x++v) (hx:x≠[]) (hw:∀ c∈x,zh c=true) (hv:∀ c,v.head?=some c->zh c=false):tok s a=.word (a+x.length) x:=by
 rw [<-zQN h hx hw hv];obtain ⟨c,r,rfl⟩:=zmQ hx;exact zQM h (zS4 (hw c zS_)).1
theorem zbR:∀ (t v:Bs) (i:Nat),v.head?≠some 34->quo (esc t++34::v) i=some (t,i+(esc t).length+1)
 |[],[],i,_=>by simp [esc,quo]
 |[],d::v,i,h=>by
  have hd:d≠34:=fun e=>h (by rw [e];rfl);simp [esc,quo,hd]
 |c::t,v,i,h=>by
  have ih:=zbR t v;by_cases hc:c=34
  ·subst hc;simp only [esc,zoz,zl9];rw [quo,zoQ rfl,zoQ rfl,ih (i+2) h];simp only [zoe,zoS,zob,zoN,true_and];omega
  ·simp only [esc,zWl hc,zl9];have hne:∃ d r,esc t++34::v=d::r:=zmQ zS_;obtain ⟨d,r,he⟩:=hne;have h1:=ih (i+1) h;rw [he] at h1 ⊢;rw [quo,zWl hc,h1];simp only [zoe,zoS,zob,zoN,true_and];omega
theorem zUn {s:Bs} {a:Nat} {t v:Bs} (h:s.drop a=(34::esc t++[34])++v) (hv:v.head?≠some 34):tok s a=.txt (a+(34::esc t++[34]).length) t:=by
 have h':s.drop a=34::(esc t++34::v):=by rw [h];simp
 rw [zQM h' zD_];unfold zBi;rw [(zCX h').1];simp only;rw [zWl zD_,zoQ trivial,(zCX h').2,zbR t v _ hv];simp only [zoP,zoN,zoT,zl9]
 congr 1
 omega
theorem zes (v:Bs):∀ k:Nat,1<=k->k<=6->zKK (wrongs.getD (k-1) []++v) wrongs 1=some (k,(wrongs.getD (k-1) []).length):=by
 intro k h1 h6;have:k=1\/k=2\/k=3\/k=4\/k=5\/k=6:=by omega
 rcases this with rfl|rfl|rfl|rfl|rfl|rfl <;> simp [wrongs,zKK]
theorem zUo {s:Bs} {a k:Nat} {v:Bs} (hk:1<=k/\k<=6) (h:s.drop a=wrongs.getD (k-1) []++v):tok s a=.bad (a+(wrongs.getD (k-1) []).length) k:=by
 have h35:∃ r,wrongs.getD (k-1) []=35::r:=by
  have:k=1\/k=2\/k=3\/k=4\/k=5\/k=6:=by omega
  rcases this with rfl|rfl|rfl|rfl|rfl|rfl <;> exact ⟨_,rfl⟩
 obtain ⟨r,hr⟩:=h35;have hb:=zes v k hk.1 hk.2;rw [<-h] at hb;rw [hr,zl9] at h;rw [zQM h zD_];unfold zBi;rw [(zCX h).1];simp only;rw [zWl zD_,zWl zD_,zoQ trivial,hb]
def zgF (c:UInt8) (v:Bs):Bool:=match v with
 |[]=>true
 |d::_=>!(decide ((c=60/\d=62)\/(c=60/\d=61)\/(c=62/\d=61)))
theorem zE0 {s:Bs} {a:Nat} {c:UInt8} {v:Bs} (h:s.drop a=c::v) (hc:c≠32/\zh c=false/\c≠34/\c≠35) (ho:zgF c v=true):tok s a=.sign (a+1) [c]:=by
 obtain ⟨h1,h2⟩:=zCX h;rw [zQM h hc.1];unfold zBi;rw [h1];simp only;rw [zWl (by rw [hc.2.1];simp),zWl hc.2.2.1,zWl hc.2.2.2];cases v with
 |nil=>(simp_all;done)
 |cons d r=>
  rw [(zCX h2).1];simp only;rw [zWl fun k=>?_];unfold zgF at ho;simp only [zoj k,Bool.not_true] at ho;cases ho
theorem zRY {s:Bs} {a:Nat} {c d:UInt8} {v:Bs} (h:s.drop a=c::d::v) (ho:(c=60/\d=62)\/(c=60/\d=61)\/(c=62/\d=61)):tok s a=.sign (a+2) [c,d]:=by
 obtain ⟨h1,h2⟩:=zCX h;have hc:c=60\/c=62:=by rcases ho with h|h|h <;> simp [h.1]
 have hc2:c≠32/\zh c=false/\c≠34/\c≠35:=by rcases hc with rfl|rfl <;> decide
 rw [zQM h hc2.1];unfold zBi;rw [h1];simp only;rw [zWl (by rw [hc2.2.1];simp),zWl hc2.2.2.1,zWl hc2.2.2.2,(zCX h2).1];simp only;rw [zoQ ho]
def Beg (v:Bs):Prop:=∃ c r,v=c::r/\(zh c=true\/c=34\/c=35\/c=45\/c=40)
theorem zkj {s:Bs} {a op:Nat} {v:Bs} (hop:1<=op/\op<=11) (h:s.drop a=opT op++v) (hv:Beg v):zHl s a=some (op,a+(opT op).length):=by
 obtain ⟨c,r,rfl,hc⟩:=hv;have h1:c≠61/\c≠62:=by
  refine ⟨?_, ?_⟩ <;> (rintro rfl;revert hc;decide)
 have k:op=1\/op=2\/op=3\/op=4\/op=5\/op=6\/op=7\/op=8\/op=9\/op=10\/op=11:=by omega
 have one:∀ x:UInt8,(x≠32/\zh x=false/\x≠34/\x≠35)->zgF x (c::r)=true:=fun x _=>by
  unfold zgF;simp [h1.1,h1.2]
 unfold zHl;rcases k with rfl|rfl|rfl|rfl|rfl|rfl|rfl|rfl|rfl|rfl|rfl
 all_goals first
  |(rw [zE0 (v:=c::r) h zD_ (one _ zD_)];rfl)
  |(rw [zRY (v:=c::r) h zD_];rfl)
def Stop (l:Nat) (s:Bs) (a:Nat):Prop:=∀ op e,zHl s a=some (op,e)->tight op<l
end Go.AM
