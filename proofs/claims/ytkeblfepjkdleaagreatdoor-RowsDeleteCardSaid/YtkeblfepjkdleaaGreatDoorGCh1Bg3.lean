/- Several texts of mine in one (Ch1, Owe, Ke, Rew, Bg3). Own work. -/
import Derived.Test.YtkeblfepjkdleaaGreatDoorGAm30Fp1
import Derived.Test.YtkeblfepjkdleaaGreatDoorGRq1Sm1
import Derived.Test.YtkeblfepjkdleaaGreatDoorGAm31Rf1
import Derived.Test.YtkeblfepjkdleaaGreatDoorAc
import Derived.Test.YtkeblfepjkdleaaGreatDoorGRt2Kd
import Derived.Test.YtkeblfepjkdleaaGreatDoorGArfMg1
import Derived.Test.YtkeblfepjkdleaaGreatDoorGRq4On6
import Derived.Test.YtkeblfepjkdleaaGreatDoorGSf0Rt0
import Derived.Test.YtkeblfepjkdleaaGreatDoorGRf5Rf3
set_option maxHeartbeats 8000000
set_option maxRecDepth 20000
set_option linter.all false
namespace Go.AM
def zQl (c:Chg) (t:Bs):Nat×Bs:=match zAn t with
  |none=>(0,t)
  |some n=>if eqN n (onN c n) then (0,t) else (zCB (onN c n),zDd (onN c n))
theorem zNo {t:Bs} (h:t.head?≠some 61):zAn t=none:=by
  unfold zAn;rw [zlD fun x=>h x.2]
theorem zVF {c:Chg} {t:Bs} (h:zAn t=none):zQl c t=(0,t):=by unfold zQl;rw [h]
theorem zVG {c:Chg} {t:Bs} {n:Nd} (h:zAn t=some n):zQl c t=if eqN n (onN c n) then (0,t) else (zCB (onN c n),zDd (onN c n)):=by unfold zQl;rw [h]
section
variable {C:CSpec} {GT:zG_}
theorem ziy (hCo:∀ s H,C zAh [.str s] H (.bool (decide (s.head?≠some 61))) H) (hP:∀ s H,C zAF [.str s] H (zFN s) H)
    (f:Nat) (cr:List AV) (l:List (Nat×ABlk)) (c:Chg) (t:Bs) (ht:zBu t=0) (hN:∀ n,zAn t=some n->∀ H,Holds l H->C f (ndV n::cr) H (.tup [ndV (onN c n),.nili]) H)
    (hS:∀ n,zAn t=some n->∀ H,C zAk [ndV n,ndV (onN c n)] H (.bool (eqN n (onN c n))) H) (hPr:∀ n,zAn t=some n->∀ H,C zCg [ndV (onN c n)] H (.tup [.str (zDd (onN c n)),eV (zCB (onN c n))]) H) (H:Heap) (hh:Holds l H) :
    EFun C GT zES [.str t,.fn f [] cr] H (.tup [.str (zQl c t).2,eV (zQl c t).1]) H:=by
  have hc:=hCo t;have hp:=hP t;clear hCo hP;by_cases h:t.head?=some 61
  · rw [tF (fun x=>x h)] at hc
    unfold zFN at hp;cases hq:zAn t with
    | none=>
      unfold zBu at ht;by_cases h2:200<t.length
      · rw [zlF h2] at ht;cases ht
      · rw [zlD h2,zlF h,hq] at ht;cases ht
    | some n=>
      rw [hq] at hp;have hp:∀ H,C zAF [.str t] H (.tup [ndV n,.int .i64 0,.nili]) H:=hp;have hs:=hS n hq;have hn:=hN n hq;have hpr:=hPr n hq;clear hS hN hPr;rw [zVG hq];cases he:eqN n (onN c n) with
      | true=>
        rw [he] at hs;refine zJ<|sX ?_
        refine sSA (ndV n) ?_;refine zx rfl<|zG<|zA (ndV n) hP rfl<|zM (hn _ (hh.old hO))<|zx rfl<|zx rfl<|sSA (ndV (onN c n)) ?_
        refine sX ?_;exact sRv
      | false=>
        rw [he] at hs;by_cases hl:(txt (onN c n)).length<=199
        · have e4:zCB (onN c n)=0:=by unfold zCB;rw [zlF hl]
          rw [e4] at hpr;show EFun C GT zES [.str t,.fn f [] cr] H (.tup [.str (zDd (onN c n)),eV (zCB (onN c n))]) H;rw [e4];refine zJ<|sX ?_
          refine sSA (ndV n) ?_;refine zx rfl<|zG<|zA (ndV n) hP rfl<|zM (hn _ (hh.old hO))<|zx rfl<|zx rfl<|sSA (ndV (onN c n)) ?_
          refine sX ?_;exact sRv
        · have e4:zCB (onN c n)=4:=by unfold zCB;rw [zlD hl]
          have et:zDd (onN c n)=[]:=by unfold zDd;rw [zlD hl]
          rw [e4,et] at hpr;show EFun C GT zES [.str t,.fn f [] cr] H (.tup [.str (zDd (onN c n)),eV (zCB (onN c n))]) H;rw [e4,et];refine zJ<|sX ?_
          refine sSA (ndV n) ?_;refine zx rfl<|zG<|zA (ndV n) hP rfl<|zM (hn _ (hh.old hO))<|zx rfl<|zx rfl<|sSA (ndV (onN c n)) ?_
          refine sX ?_;exact sRv
  · rw [zlY h] at hc
    rw [zVF (zNo h)];refine zJ<|sX ?_
    exact sRv
end
section
variable (cf:Fil->Nat×Bool×Fil) (rw_:Bs->Nat×Bs)
def zgH (f:Fil):Nat:=if (cf f).1≠0 then (cf f).1 else if (cf f).2.1=true then (rw_ f.text).1 else 0
def zO7:List Fil->Nat
  |[]=>0
  |f::r=>if zgH cf rw_ f=0 then zO7 r else zgH cf rw_ f
def zgI (f:Fil):Option Fil:=if (cf f).2.1=true then some ⟨(cf f).2.2.col,(cf f).2.2.row,(rw_ f.text).2⟩ else none
def zNp (l:List Fil):List Fil:=l.filterMap (zgI cf rw_)
def zQf (l:List Fil):AV:=if zO7 cf rw_ l=0 then zQi 3 ((zJa (zNp cf rw_ l)).map zl) else .lst (some true) 0 []
end
section
variable {cf:Fil->Nat×Bool×Fil} {rw_:Bs->Nat×Bs}
theorem zVH {l:List Fil} {i:Nat} {f:Fil} (h:l[i]?=some f):zO7 cf rw_ (l.drop i)=if zgH cf rw_ f=0 then zO7 cf rw_ (l.drop (i+1)) else zgH cf rw_ f:=by
  obtain ⟨a,b⟩:=zg h;rw [zmL a,b,zO7]
theorem zVI {l:List Fil} {i:Nat} {f:Fil} (h:l[i]?=some f):zNp cf rw_ (l.take (i+1))=zNp cf rw_ (l.take i)++(match zgI cf rw_ f with
    |none=>[]
    |some g=>[g]):=by
  unfold zNp;rw [zmv,h,List.filterMap_append]
  congr 1
  cases e:zgI cf rw_ f <;> simp [e]
theorem zMv (l:List Fil):(zNp cf rw_ l).length<=l.length:=List.length_filterMap_le _ _
variable {C:CSpec} {GT:zG_}
theorem zZY (f1 f2:Nat) (c1 c2:List AV) (L:List (Nat×ABlk)) (lv:AV) (l:List Fil)
    (hC:∀ f∈l,∀ b H,H[b]?=some (.box (zl f).cells)->Holds L H->(∀ p∈L,p.1<b)->C f1 (bR b::c1) H (.tup [.bool (cf f).2.1,eV (cf f).1]) (H.set b (.box (zl (cf f).2.2).cells)))
    (hC0:∀ f∈l,(cf f).1≠0->(cf f).2.1=false) (hCt:∀ f∈l,(cf f).2.2.text=f.text)
    (hR:∀ f∈l,∀ H,Holds L H->C zDK [.str f.text,.fn f2 [] c2] H (.tup [.str (rw_ f.text).2,eV (rw_ f.text).1]) H)
    (hS:∀ (b:Nat) (xs:List Fil) H,H[b]?=some (.row 3 (xs.map zl))->xs≠[]->xs.length<=1000->(xs.map zLh).Nodup->C zDw [.sl (some true) b 3 0 xs.length] H (.sl (some true) b 3 0 xs.length) (H.set b (.row 3 ((zJa xs).map zl))))
    (hS0:∀ H,C zDw [.lst (some true) 0 []] H (.lst (some true) 0 []) H)
    (hlv:zDe lv 3 (l.map zl)) (hl:l.length<=200) (hnd:zO7 cf rw_ l=0->((zNp cf rw_ l).map zLh).Nodup) (H:Heap) (hh:Holds L H) :
    EFun C GT zL8 [lv,.fn f1 [] c1,.fn f2 [] c2] H (.tup [zQf cf rw_ l,eV (zO7 cf rw_ l)]) H:=by
  have hlm:(l.map zl).length=l.length:=zlM _;have hLb:∀ p∈L,p.1<H.length:=fun p hp=>(zg (hh p hp)).1;refine zJ<|sX ?_
  refine zBG (fun z:Nat×AV=>[(15,zK z.1),(8,z.2),(2,.fn f2 [] c2),(1,.fn f1 [] c1),(13,lv),(14,zK l.length)]) (fun z H'=>Old H H'/\z.1<=l.length/\Owns H H' z.2 3 ((zNp cf rw_ (l.take z.1)).map zl)/\zO7 cf rw_ (l.drop z.1)=zO7 cf rw_ l) (fun z=>l.length-z.1) (0,.lst (some true) 0 []) rfl ⟨Old.refl H,by simp,.inl ⟨rfl,by simp [zNp]⟩,rfl⟩ (fun z H1 hi=>?_);obtain ⟨i,out⟩:=z;obtain ⟨ho0,hi,ho,hq⟩:=hi;dsimp only at hi ho hq ⊢;by_cases hlt:i<l.length
  · obtain ⟨f,hf⟩:∃ f,l[i]?=some f:=⟨_,zlI hlt⟩
    have hmem:=zlX hf;have hfm:(l.map zl)[i]?=some (zl f):=by rw [zlQ,hf];rfl
    have hol:((zNp cf rw_ (l.take i)).map zl).length<=200:=by
      rw [zlM];have:=zMv (cf:=cf) (rw_:=rw_) (l.take i);rw [zla] at this;omega
    have hHl:=ho0.1;obtain ⟨H2,hH2⟩:∃ H2,(H1++[ABlk.box zV3]).set H1.length (.box (zl f).cells)=H2:=⟨_,rfl⟩;have hO2:Old H H2:=by rw [<-hH2];exact ho0.pushSet _ _
    have ho2:Owns H H2 out 3 ((zNp cf rw_ (l.take i)).map zl):=by rw [<-hH2];exact ho.pushSet _ _
    have hnb:out.blk≠some H1.length:=fun e=>by have:=(ho.lt e).2;omega
    have hbx:H2[H1.length]?=some (.box (zl f).cells):=by rw [<-hH2];exact zU zB
    have hc:=hC f hmem H1.length H2 hbx (hh.old hO2) (fun p hp=>by have:=hLb p hp;omega);have hr:=hR f hmem;have hc0:=hC0 f hmem;have hct:=hCt f hmem;have hbl2:=(zl_ hbx);have hdr:=zVH (cf:=cf) (rw_:=rw_) hf;have htk:=zVI (cf:=cf) (rw_:=rw_) hf;rw [hdr] at hq;clear hC hC0 hCt hR hS hS0 hdr;unfold zgH at hq;unfold zgI at htk;obtain ⟨⟨e1,st,g⟩,hcf⟩:∃ z,cf f=z:=⟨_,rfl⟩;rw [hcf] at hc hc0 hct hq htk;simp only at hc hc0 hct hq htk;obtain ⟨H3,hH3⟩:∃ H3,H2.set H1.length (.box (zl g).cells)=H3:=⟨_,rfl⟩;have hO3:Old H H3:=by rw [<-hH3];exact hO2.set hHl _
    have ho3:Owns H H3 out 3 ((zNp cf rw_ (l.take i)).map zl):=by rw [<-hH3];exact ho2.set hnb _
    have hb3:H3[H1.length]?=some (.box (zl g).cells):=by rw [<-hH3];exact zU hbx
    rw [hH3] at hc;by_cases he1:e1=0
    · subst he1
      cases st with
      | false=>
        have hq:zO7 cf rw_ (l.drop (i+1))=zO7 cf rw_ l:=by simpa using hq
        have htk:zNp cf rw_ (l.take (i+1))=zNp cf rw_ (l.take i):=by simpa using htk
        have hc:C f1 (bR H1.length::c1) H2 (.tup [.bool false,.nili]) H3:=hc;refine sX ?_;refine sSA (zl f) ?_;rw [hH2];refine sX ?_;refine zS (r:=i+1) rfl tO ?_;exact zAR (i+1,out) rfl ⟨hO3,by simp only;omega,by rw [htk];exact ho3,hq⟩ (by simp only;omega)
      | true=>
        have hc:C f1 (bR H1.length::c1) H2 (.tup [.bool true,.nili]) H3:=hc;simp only [ne_eq,znn,zlj,zlp] at hq htk;obtain ⟨⟨e2,t2⟩,hrw⟩:∃ z,rw_ f.text=z:=⟨_,rfl⟩;rw [hrw] at hr hq htk;simp only at hr hq htk;have hr:=hr H3 (hh.old hO3);rw [<-hct] at hr;by_cases he2:e2=0
        · subst he2
          rw [zlF rfl] at hq;have hr:C zDK [.str g.text,.fn f2 [] c2] H3 (.tup [.str t2,.nili]) H3:=hr;obtain ⟨H4,hH4⟩:∃ H4,H3.set H1.length (.box (zl ⟨g.col,g.row,t2⟩).cells)=H4:=⟨_,rfl⟩;have hO4:Old H H4:=by rw [<-hH4];exact hO3.set hHl _
          have ho4:Owns H H4 out 3 ((zNp cf rw_ (l.take i)).map zl):=by rw [<-hH4];exact ho3.set hnb _
          have hb4:H4[H1.length]?=some (.box (zl ⟨g.col,g.row,t2⟩).cells):=by rw [<-hH4];exact zU hb3
          refine sX ?_;refine sSA (zl f) ?_;rw [hH2];refine sX ?_;refine sS (.str t2) (zl ⟨g.col,g.row,t2⟩).cells ?_;refine sW ?_;refine zA (zl { col:=g.col,row:=g.row,text:=t2 }) (zU hb3) rfl<|zAb (vs':=[zl { col:=g.col,row:=g.row,text:=t2 }]) rfl rfl ?_
          rw [hH4];refine zBw (H0:=H) (ys:=[zl ⟨g.col,g.row,t2⟩]) (ho4.push _) (hO4.push _) zAu zD_ (by simp only [zmQ];omega) zS_ (fun v' H' ho' hO' _ hfr=>?_);refine zS (r:=i+1) rfl tO ?_;refine zAR (i+1,v') rfl ⟨hO',by simp only;omega, ?_,hq⟩ (by simp only;omega);simp only;rw [htk,zlv];exact ho'
        · rw [zlD he2] at hq
          have ev:eV e2=zJG e2:=zlD he2;rw [ev] at hr;have er:AV.tup [zQf cf rw_ l,eV (zO7 cf rw_ l)]=.tup [.lst (some true) 0 [],zJG e2]:=by
            unfold zQf;rw [<-hq,zlD he2,ev]
          rw [er];refine sX ?_;refine sSA (zl f) ?_;rw [hH2];refine sX ?_;refine sS (.str t2) (zl ⟨g.col,g.row,t2⟩).cells ?_;refine sX ?_;exact sRv
    · rw [zlF he1,zlD he1] at hq
      have ev:eV e1=zJG e1:=zlD he1;have hst:=hc0 he1;rw [ev,hst] at hc;have er:AV.tup [zQf cf rw_ l,eV (zO7 cf rw_ l)]=.tup [.lst (some true) 0 [],zJG e1]:=by
        unfold zQf;rw [<-hq,zlD he1,ev]
      rw [er];refine sX ?_;refine sSA (zl f) ?_;rw [hH2];refine sX ?_;exact zAv rfl rfl rfl rfl hO3
  · have he:l.take i=l:=zlw tO
    rw [he] at ho;rw [zl3 tO] at hq;have hq:zO7 cf rw_ l=0:=hq.symm;have er:AV.tup [zQf cf rw_ l,eV (zO7 cf rw_ l)]=.tup [zQi 3 ((zJa (zNp cf rw_ l)).map zl),.nili]:=by
      unfold zQf;rw [hq];rfl
    have hnd:=hnd hq;have hle:=zMv (cf:=cf) (rw_:=rw_) l;rw [er];generalize zNp cf rw_ l=xs at *;rcases ho with ⟨rfl,h0⟩|⟨bb,rfl,g1,g2,g3⟩
    · have hl0:xs=[]:=by simpa using h0
      subst hl0;refine sX ?_;exact zAv rfl rfl rfl rfl ho0
    · have hne:xs≠[]:=fun e=>g3 (by rw [e];rfl)
      have hs:=hS bb xs H1 g2 hne tO hnd;have hln:(xs.map zl).length=xs.length:=zlM _;have hbl:=(zl_ g2);rw [hln];have hol:(zJa xs).length=xs.length:=(zKE _).length_eq;clear hS hS0 hC hR;have hO3:Old H (H1.set bb (.row 3 ((zJa xs).map zl))):=ho0.set g1 _;have hne2:(zJa xs).map zl≠[]:=fun e=>by
        have:=zlR List.length e;rw [zlM,hol] at this;exact hne (zmg.1 this)
      have hoo:Owns H (H1.set bb (.row 3 ((zJa xs).map zl))) (.sl (some true) bb 3 0 xs.length) 3 ((zJa xs).map zl):=
        .inr ⟨bb,by rw [zlM (f:=zl),hol],g1,zU g2,hne2⟩
      obtain ⟨H4,hf4,hO4,_⟩:=hoo.frz hO3;refine sX ?_;exact zQs rfl rfl (zU4 hf4 fun _=>rfl) (zfr _ _ _) hO4
end
def zMw (H0 H:Heap) (v:AV) (k:Nat) (xs:List AV):Prop:=
  (v=.lst (some true) 0 []/\xs=[])\/∃ b,v=.sl (some true) b k 0 xs.length/\H0.length<=b/\H[b]?=some (.row k xs)
theorem zMw.nil (H0 H:Heap) (k:Nat):zMw H0 H (.lst (some true) 0 []) k []:=.inl ⟨rfl,rfl⟩
theorem zMw.toOwns {H0 H:Heap} {v:AV} {k:Nat} {xs:List AV} (h:zMw H0 H v k xs) (hx:xs≠[]):Owns H0 H v k xs:=by
  rcases h with ⟨_,h⟩|⟨b,h1,h2,h3⟩
  · exact absurd h hx
  · exact .inr ⟨b,h1,h2,h3,hx⟩
theorem zMw.keep {H0 H H':Heap} {v:AV} {k:Nat} {xs:List AV} (h:zMw H0 H v k xs) (hk:∀ b x,v.blk=some b->H[b]?=some x->H'[b]?=some x):zMw H0 H' v k xs:=by
  rcases h with h|⟨b,rfl,h1,h2⟩
  · exact .inl h
  · exact .inr ⟨b,rfl,h1,hk b _ rfl h2⟩
theorem zMw.push {H0 H:Heap} {v:AV} {k:Nat} {xs:List AV} (h:zMw H0 H v k xs) (x:ABlk):zMw H0 (H++[x]) v k xs:=h.keep fun _ _ _ hx=>zD hx
theorem zKX {H0 H:Heap} {v y:AV} {k bytes:Nat} {xs ys:List AV} {K:AV->Heap->Prop} (ho:zMw H0 H v k xs) (hH:Old H0 H) (hy:view H k y=some ys) (hm:(xs.length+ys.length)*bytes<=140737488355328) (hl:xs.length+ys.length<=9223372036854775807)
    (q:∀ v' H',zMw H0 H' v' k (xs++ys)->Old H0 H'->v'.blk=some H.length->(∀ c x,v.blk≠some c->H[c]?=some x->H'[c]?=some x)->K v' H'):actP (.append k bytes) [v,y] H K:=by
  rcases ho with ⟨rfl,rfl⟩|⟨b,rfl,h1,h2⟩
  · simp only [zlL,zlx] at hl hm
    refine zQp (v:=.sl (some true) H.length k 0 ys.length) (H':=H++[.row k ys]) ?_ ?_
    · simp only [astep,hy]
      rw [zlF ⟨by omega,by omega⟩]
    · exact q _ _ (.inr ⟨_,rfl,hH.1,zB⟩) (hH.push _) rfl fun _ _ _ hx=>zD hx
  · refine zQp (v:=.sl (some true) H.length k 0 (xs.length+ys.length)) (H':=H.set b .dead++[.row k (xs++ys)]) ?_ ?_
    · simp only [astep,hy,h2]
      rw [zlF ⟨trivial,trivial,by omega,by omega,by omega⟩];simp
    · refine q _ _ (.inr ⟨_,by rw [zlH],hH.1, ?_⟩) ((hH.set h1 _).push _) rfl fun c x hc hx=>?_
      · have:(H.set b .dead).length=H.length:=zlP
        rw [<-this];exact zB
      · exact zD (zC (fun e=>hc (by rw [e];rfl)) hx)
theorem zXp {H0 H:Heap} {v:AV} {w:Nat} {xs:List AV} (h:Owns H0 H v w xs) {k:Nat} (hk:k<=xs.length):∃ v',zB9 (some w) v none (some (.int .i64 (k:Int)))=some v'/\v'.blk=v.blk/\∀ H',(∀ b x,v.blk=some b->H[b]?=some x->H'[b]?=some x)->view H' w v'=some (xs.take k):=by
  rcases h with ⟨rfl,rfl⟩|⟨b,rfl,h1,h2,h3⟩
  · have:k=0:=by simpa using hk
    subst this;refine ⟨.lst (some true) 0 [],by simp [zB9,zDf,aHi,aLo,zSC],rfl,fun H' _=>by simp [view]⟩
  · refine ⟨.sl (zjM (some true) 0 k) b w 0 k, ?_,rfl,fun H' hH'=>?_⟩
    · have e:zDf xs.length none (some (.int .i64 (k:Int)))=some (0,k):=by
        simp only [zDf,aHi,aLo];rw [zlF ⟨by omega,by omega⟩];simp
      simp only [zB9,zlp,e,zlW,zlx,zni]
    · have:=hH' b _ rfl h2
      simp only [view,zlp,this];rw [zlF ⟨trivial,by omega⟩];simp
theorem zXq {H0 H:Heap} {v:AV} {w:Nat} {xs:List AV} (h:Owns H0 H v w xs) {k:Nat} (hk:k<=xs.length):∃ v',zB9 (some w) v (some (.int .i64 (k:Int))) none=some v'/\v'.blk=v.blk/\∀ H',(∀ b x,v.blk=some b->H[b]?=some x->H'[b]?=some x)->view H' w v'=some (xs.drop k):=by
  rcases h with ⟨rfl,rfl⟩|⟨b,rfl,h1,h2,h3⟩
  · have:k=0:=by simpa using hk
    subst this;refine ⟨.lst (some true) 0 [],by simp [zB9,zDf,aHi,aLo,zSC],rfl,fun H' _=>by simp [view]⟩
  · refine ⟨.sl (zjM (some true) k xs.length) b w k (xs.length-k), ?_,rfl,fun H' hH'=>?_⟩
    · have e:zDf xs.length (some (.int .i64 (k:Int))) none=some (k,xs.length):=by
        simp only [zDf,aHi,aLo];rw [zlF ⟨by omega,by omega⟩];simp
      simp only [zB9,zlp,e,zlW,zlx]
    · have:=hH' b _ rfl h2
      simp only [view,zlp,this];rw [zlF ⟨trivial,by omega⟩];rw [zlw (by rw [zlg];omega)]
theorem zTV (b:Nat):AV.blk (.lst (some true) 0 [])≠some b:=by simp [AV.blk]
section
variable {C:CSpec} {GT:zG_}
theorem zWf (H:Heap):EFun C GT zFp [.lst (some true) 0 []] H (.lst (some true) 0 []) H:=by
  refine zJ ?_;refine zBG (fun i:Nat=>[(4,zK i),(3,.lst (some true) 0 []),(0,.lst (some true) 0 [])]) (fun i H'=>H'=H/\i=0) (fun i=>0) 0 rfl ⟨rfl,rfl⟩ (fun i H1 hi=>?_);obtain ⟨hH,hi⟩:=hi;subst hH hi;dsimp only;refine zQq ?_;refine zG ?_;exact sRr
theorem zku {p:Fil->Bool} {o:List Fil} {k:Nat} {g:Fil} (hg:o[k]?=some g) (hk:k<=(o.takeWhile p).length):(p g=true->k+1<=(o.takeWhile p).length)/\(p g=false->(o.takeWhile p).length=k):=by
  induction o generalizing k with
  |nil=>simp at hg
  | cons x o ih=>
    by_cases hx:p x=true
    · rw [List.takeWhile_cons_of_pos hx,zlE] at hk ⊢
      cases k with
      | zero=>
        simp at hg;subst hg;exact ⟨fun _=>by omega,fun h=>by rw [hx] at h;cases h⟩
      | succ k=>
        have:=ih (k:=k) (by simpa using hg) tO;exact ⟨fun h=>by have:=this.1 h;omega,fun h=>by have:=this.2 h;omega⟩
    · rw [List.takeWhile_cons_of_neg hx] at hk ⊢
      simp at hk;subst hk;simp at hg;subst hg;exact ⟨fun h=>absurd h hx,fun _=>rfl⟩
theorem zdI {f:Fil} {o:List Fil} {k:Nat} (h:(o.takeWhile (fun g=>decide (ltF g f))).length=k):zTG f o=o.take k++f::o.drop k:=by
  have e:=znt (p:=fun g=>decide (ltF g f)) (l:=o);unfold zTG;subst h;generalize o.takeWhile (fun g=>decide (ltF g f))=a at *;generalize o.dropWhile (fun g=>decide (ltF g f))=b at *;rw [<-e,List.take_left,List.drop_left]
theorem zdJ (a b:Fil):zE8 a b=decide (ltF a b):=by
  rw [zng,zmb];exact zQT a b
theorem zZZ (hA:∀ (a b:Fil) H,C zBy [zCx a.col a.row,zCx b.col b.row] H (.bool (zE8 a b)) H) (b0:Nat) (xs:List Fil) (H:Heap) (hx:xs.length<=200) (hb0:H[b0]?=some (.row 3 (xs.map zl))) :
    EFun C GT zFp [.sl (some true) b0 3 0 xs.length] H (zQi 3 ((zJa xs).map zl)) H:=by
  have hb0l:=(zl_ hb0);obtain ⟨n,hn⟩:∃ n,xs.length=n:=⟨_,rfl⟩;rw [hn];refine zJ ?_;refine zBG (fun z:Nat×AV=>[(4,zK z.1),(3,z.2),(0,.sl (some true) b0 3 0 n)]) (fun z H'=>Old H H'/\z.1<=n/\Owns H H' z.2 3 ((zJa (xs.take z.1)).map zl)) (fun z=>n-z.1) (0,.lst (some true) 0 []) rfl ⟨Old.refl H,by simp,.inl ⟨rfl,by simp [zJa]⟩⟩ (fun z H1 hi=>?_);obtain ⟨i,out⟩:=z;obtain ⟨hO,hi,ho⟩:=hi;dsimp only at hi ho ⊢;have hb1:=zPY hO hb0;by_cases hlt:i<n
  · obtain ⟨f,hf⟩:∃ f,xs[i]?=some f:=⟨_,zlI tO⟩
    have hfm:(xs.map zl)[i]?=some (zl f):=by rw [zlQ,hf];rfl
    obtain ⟨o,hoe⟩:∃ o,zJa (xs.take i)=o:=⟨_,rfl⟩;have hol:o.length=i:=by rw [<-hoe,(zKE _).length_eq,zla];omega
    have htk:zJa (xs.take (i+1))=zTG f o:=by rw [List.take_succ,hf,<-hoe];unfold zJa;rw [zn4];rfl
    rw [hoe] at ho;have hov:=ho.view;have hom:(o.map zl).length=o.length:=zlM _;refine zHq ?_;refine zn tT ?_;refine zBG (fun k:Nat=>[(5,zK k),(0,.sl (some true) b0 3 0 n),(4,zK i),(3,out)]) (fun k H'=>H'=H1/\k<=o.length/\k<=(o.takeWhile (fun g=>decide (ltF g f))).length) (fun k=>o.length-k) 0 rfl ⟨rfl,by omega,by omega⟩ (fun k H2 hk=>?_);obtain ⟨hH,hk,hkt⟩:=hk;subst hH;dsimp only;by_cases hkl:k<o.length
    · obtain ⟨g,hg⟩:∃ g,o[k]?=some g:=⟨_,zlI hkl⟩
      have hgm:(o.map zl)[k]?=some (zl g):=by rw [zlQ,hg];rfl
      have htw:=zku hg hkt;have ha:=fun H=>hA g f H;rw [zdJ] at ha;obtain ⟨bb,rfl,q1,q2,q3⟩:∃ b,out=.sl (some true) b 3 0 (o.map zl).length/\H.length<=b/\H2[b]?=some (.row 3 (o.map zl))/\o.map zl≠[]:=by
        rcases ho with ⟨_,h⟩|h
        · have:o=[]:=by simpa using h
          rw [this] at hkl;simp at hkl
        · exact h
      clear hA;cases hc:decide (ltF g f) with
      | true=>
        rw [hc] at ha;refine zHq ?_;refine zn tT ?_;refine sAt tO ?_;refine zBa k (zl g) (zCx g.col g.row) zS_ q2 hgm rfl ?_;refine sAt tO ?_;refine zBa i (zl f) (zCx f.col f.row) zS_ hb1 hfm rfl ?_;refine zM (ha _) ?_;refine zE ?_;refine zE ?_;refine zS (r:=k+1) rfl tO ?_;refine zAR (k+1) rfl ⟨rfl,by omega,htw.1 hc⟩ tO
      | false=>
        have hins:=zdI (htw.2 hc);rw [hc] at ha;refine zHq ?_;refine zn tT ?_;refine sAt tO ?_;refine zBa k (zl g) (zCx g.col g.row) zS_ q2 hgm rfl ?_;refine sAt tO ?_;refine zBa i (zl f) (zCx f.col f.row) zS_ hb1 hfm rfl ?_;refine zM (ha _) ?_;refine zE ?_;refine zG ?_;obtain ⟨s1,a1,b1,w1⟩:=zXp ho (k:=k) (by rw [zlM];omega);obtain ⟨s2,a2,b2,w2⟩:=zXq ho (k:=k) (by rw [zlM];omega);refine zx a1 ?_;refine zKX (H0:=H) (zMw.nil _ _ _) hO (w1 _ fun _ _ _ h=>h) ?_ ?_ (fun v1 H3 ho3 hO3 hb3 hf3=>?_)
        · simp only [zlL,zla,zlM];omega
        · simp only [zlL,zla,zlM];omega
        rw [zl2] at ho3;have hown3:Owns H H3 (.sl (some true) bb 3 0 (o.map zl).length) 3 (o.map zl):=ho.keep fun b x hb hx=>hf3 b x (zTV b) hx;have hlt3:∀ b,AV.blk (.sl (some true) bb 3 0 (o.map zl).length)=some b->b<H2.length:=fun b hb=>(ho.lt hb).2;have hb3':=zPY hO3 hb0;refine sAt tO ?_;refine zBa i (zl f) (zl f) zS_ hb3' hfm rfl ?_;refine zAb (vs':=[zl f]) rfl rfl ?_;refine zKX (H0:=H) (ho3.push _) (hO3.push _) zAu ?_ ?_ (fun v2 H4 ho4 hO4 hb4 hf4=>?_)
        · simp only [zla,zlM,zlE,zlL];omega
        · simp only [zla,zlM,zlE,zlL];omega
        have hne3:∀ b,AV.blk (.sl (some true) bb 3 0 (o.map zl).length)=some b->v1.blk≠some b:=fun b hb e=>by
          rw [hb3] at e;simp only [zlJ] at e;have:=hlt3 b hb;omega
        refine zx a2 ?_;refine zKX (H0:=H) ho4 hO4 (w2 _ fun b x hb hx=>hf4 b x (hne3 b hb) (zD (hf3 b x (zTV b) hx))) ?_ ?_ (fun v3 H5 ho5 hO5 hb5 hf5=>?_)
        · simp only [zlH,zlg,zla,zlM,zlE,zlL];omega
        · simp only [zlH,zlg,zla,zlM,zlE,zlL];omega
        refine zS (r:=i+1) rfl tO ?_;refine zAR (i+1,v3) rfl ⟨hO5,by simp only;omega, ?_⟩ (by simp only;omega);have e5:(o.map zl).take k++[zl f]++(o.map zl).drop k=(zTG f o).map zl:=by
          rw [hins];simp only [zlv,zn1,List.map_drop,zlU,zlk,zmG]
        simp only;rw [htk,<-e5];exact ho5.toOwns zS_
    · have hke:k=o.length:=by omega
      have htl:(o.takeWhile (fun g=>decide (ltF g f))).length=k:=by
        have:=(List.takeWhile_sublist (fun g=>decide (ltF g f)) (l:=o)).length_le;omega
      have hins:=zdI htl;clear hA;refine zjh o.length hov hom ?_;refine zi tF ?_;refine zG ?_;refine zG ?_;obtain ⟨s1,a1,b1,w1⟩:=zXp ho (k:=k) (by rw [zlM];omega);obtain ⟨s2,a2,b2,w2⟩:=zXq ho (k:=k) (by rw [zlM];omega);refine zx a1 ?_;refine zKX (H0:=H) (zMw.nil _ _ _) hO (w1 _ fun _ _ _ h=>h) ?_ ?_ (fun v1 H3 ho3 hO3 hb3 hf3=>?_)
      · simp only [zlL,zla,zlM];omega
      · simp only [zlL,zla,zlM];omega
      rw [zl2] at ho3;have hown3:Owns H H3 out 3 (o.map zl):=ho.keep fun b x hb hx=>hf3 b x (zTV b) hx;have hlt3:∀ b,AV.blk out=some b->b<H2.length:=fun b hb=>(ho.lt hb).2;have hb3':=zPY hO3 hb0;refine sAt tO ?_;refine zBa i (zl f) (zl f) zS_ hb3' hfm rfl ?_;refine zAb (vs':=[zl f]) rfl rfl ?_;refine zKX (H0:=H) (ho3.push _) (hO3.push _) zAu ?_ ?_ (fun v2 H4 ho4 hO4 hb4 hf4=>?_)
      · simp only [zla,zlM,zlE,zlL];omega
      · simp only [zla,zlM,zlE,zlL];omega
      have hne3:∀ b,AV.blk out=some b->v1.blk≠some b:=fun b hb e=>by
        rw [hb3] at e;simp only [zlJ] at e;have:=hlt3 b hb;omega
      refine zx a2 ?_;refine zKX (H0:=H) ho4 hO4 (w2 _ fun b x hb hx=>hf4 b x (hne3 b hb) (zD (hf3 b x (zTV b) hx))) ?_ ?_ (fun v3 H5 ho5 hO5 hb5 hf5=>?_)
      · simp only [zlH,zlg,zla,zlM,zlE,zlL];omega
      · simp only [zlH,zlg,zla,zlM,zlE,zlL];omega
      refine zS (r:=i+1) rfl tO ?_;refine zAR (i+1,v3) rfl ⟨hO5,by simp only;omega, ?_⟩ (by simp only;omega);have e5:(o.map zl).take k++[zl f]++(o.map zl).drop k=(zTG f o).map zl:=by
        rw [hins];simp only [zlv,zn1,List.map_drop,zlU,zlk,zmG]
      simp only;rw [htk,<-e5];exact ho5.toOwns zS_
  · have he:xs.take i=xs:=zlw tO
    rw [he] at ho;obtain ⟨H4,hf4,hO4,_⟩:=ho.frz hO;refine zHq ?_;refine zi tF ?_;exact zQs rfl rfl hf4 (zSS _ _ _) hO4
end
section
variable {C:CSpec} {GT:zG_}
variable {k0:Int} {row:Bool} {at_ many cols rows:Int} {bx:Bx}
theorem zkv {F:AF} {a b:Nat} {H H1:Heap} {fr:Fr} {v1 v2:AV} (hF:F.results=[.tmp a,.tmp b]) (hk:F.keep=false) (h1:zL0 fr a=v1) (h2:zL0 fr b=v2) (hf:zEM H.length (.tup [v1,v2]) H1=some (.tup [v1,v2],H1)) (hb:(AV.tup [v1,v2]).bel H.length=true) (ho:Old H H1):retP F H fr H1 (.tup [v1,v2]) H:=by
  refine zAv hk ?_ hf hb ho;rw [zFl] at h1 h2;simp only [hF,zBh,zLj,h1,h2,zlW];rfl
theorem ziz (c:Chg) (t:Bs) (ht:zBu t=0) (hP:∀ n,zAn t=some n->∀ H,C zBI [.str t] H (.tup [ndV n,zH 0,zH 0]) H)
    (hN:∀ n,zAn t=some n->∀ H,C zBc [(ccV k0 row at_ many cols rows bx),ndV n] H (ndV (onN c n)) H)
    (hS:∀ n,zAn t=some n->∀ H,C zCS [ndV n,ndV (onN c n)] H (.bool (eqN n (onN c n))) H) (hPr:∀ n,zAn t=some n->∀ H,C zEo [ndV (onN c n)] H (.tup [.str (zDd (onN c n)),zK (zCB (onN c n))]) H) (H:Heap) :
    EFun C GT zEZ [.str t,(ccV k0 row at_ many cols rows bx)] H (.tup [.str (zQl c t).2,zK (zQl c t).1]) H:=by
  by_cases h:t.head?=some 61
  · cases hq:zAn t with
    | none=>
      unfold zBu at ht;by_cases h2:200<t.length
      · rw [zlF h2] at ht;cases ht
      · rw [zlD h2,zlF h,hq] at ht;cases ht
    | some n=>
      have hp:=hP n hq;have hs:=hS n hq;have hn:=hN n hq;have hpr:=hPr n hq;have h0:t[0]?=some 61:=by rw [<-List.head?_eq_getElem?];exact h
      have hne:(t==([]:Bs))=false:=tN (fun e=>by rw [e] at h;cases h);clear hP hS hN hPr;rw [zVG hq];cases he:eqN n (onN c n) with
      | true=>
        rw [he] at hs;refine zJ<|zCR (x:=(ccV k0 row at_ many cols rows bx)) rfl<|zi hne<|zCF (i:=0) rfl h0<|sX ?_
        refine sSA (ndV n) ?_;refine sX ?_;refine sSA (ndV (onN c n)) ?_;refine sX ?_;exact sRv
      | false=>
        rw [he] at hs;show EFun C GT zEZ [.str t,(ccV k0 row at_ many cols rows bx)] H (.tup [.str (zDd (onN c n)),zK (zCB (onN c n))]) H;by_cases hl:(txt (onN c n)).length<=199
        · have e4:zCB (onN c n)=0:=by unfold zCB;rw [zlF hl]
          rw [e4] at hpr ⊢;refine zJ<|zCR (x:=(ccV k0 row at_ many cols rows bx)) rfl<|zi hne<|zCF (i:=0) rfl h0<|sX ?_
          refine sSA (ndV n) ?_;refine sX ?_;refine sSA (ndV (onN c n)) ?_;refine sX ?_;exact sRv
        · have e4:zCB (onN c n)=4:=by unfold zCB;rw [zlD hl]
          have et:zDd (onN c n)=[]:=by unfold zDd;rw [zlD hl]
          rw [e4,et] at hpr ⊢;refine zJ<|zCR (x:=(ccV k0 row at_ many cols rows bx)) rfl<|zi hne<|zCF (i:=0) rfl h0<|sX ?_
          refine sSA (ndV n) ?_;refine sX ?_;refine sSA (ndV (onN c n)) ?_;refine sX ?_;exact sRv
  · rw [zVF (zNo h)]
    refine zJ<|sX ?_
    cases t with
    | nil => refine zE ?_
             refine sX ?_;exact sRv
    | cons a r=>
      have e1:((a.toNat:Int) != 61)=true:=zlz.2 (fun e=>h (by
        have:a=61:=by rw [<-UInt8.toNat_inj];show a.toNat=61;omega
        rw [this];rfl))
      refine sX ?_;refine zCF (i:=0) rfl rfl<|sX ?_
      exact sRv
abbrev RwH (C:CSpec) (cv:AV) (c:Chg) (t:Bs):Prop:=∀ H,C zBx [.str t,cv] H (.tup [.str (zQl c t).2,zK (zQl c t).1]) H
end
theorem zdK {ws:List Nat} {i:Nat} (h:i<ws.length):wval (ws.drop i)=ws[i]+4294967296*wval (ws.drop (i+1)):=by
  rw [<-List.getElem_cons_drop h,wval]
theorem or32' (a b:Nat) (ha:a<4294967296) (hb:b<4294967296):zI3 .or .u64 ((b*4294967296:Nat):Int) (a:Int)=some (.int .u64 ((b*4294967296+a:Nat):Int)):=by
  have h:=or32 a b ha hb;simp only [zI3] at h ⊢;have e:(BitVec.ofInt IntKind.u64.bits ((b*4294967296:Nat):Int) ||| BitVec.ofInt IntKind.u64.bits (a:Int))=(BitVec.ofInt IntKind.u64.bits (a:Int) ||| BitVec.ofInt IntKind.u64.bits ((b*4294967296:Nat):Int)):=BitVec.or_comm _ _;rw [e,h]
  congr 2
  omega
theorem zi0 (qs:List Nat) (i q:Nat):((List.replicate (i+1) 0++qs).map zBY).set i (zBY q)=(List.replicate i 0++q::qs).map zBY:=by
  rw [<-List.map_set]
  congr 1
  rw [List.replicate_succ',zlk,zml _ _ zS_];simp
theorem zgJ (qs:List Nat) (i:Nat):((List.replicate (i+1) 0++qs).map zBY)[i]?=some (zBY 0):=by
  rw [zlQ,zlS zS_,znm];simp
def zVJ (n:Nat) (f:Nat->UInt8):List AV:=zW7 n fun k=>zo (f k)
theorem zXr {n i:Nat} {f:Nat->UInt8} {v:UInt8}:(zVJ n f).set i (zo v)=zVJ n (upd f i v):=by
  unfold zVJ;rw [zXA];congr 1;funext j;unfold upd;split <;> rfl
theorem zO8 {n i:Nat} {f:Nat->UInt8} (h:i<n):(zVJ n f)[i]?=some (zo (f i)):=zW9 h
theorem zdL (xs:List UInt8):xs.map zo=zVJ xs.length fun k=>xs.getD k 0:=by
  apply znA;intro i;by_cases h:i<xs.length
  · rw [zO8 h,zlQ,zlI h,zmJ,zlI h];rfl
  · rw [zl0 (by simp;omega),zl0 (by unfold zVJ;rw [zW8];omega)]
def turn (n i:Nat) (f:Nat->UInt8):Nat->UInt8:=fun k=>if k<i\/n-i<=k then f (n-1-k) else f k
theorem zdM (n:Nat) (f:Nat->UInt8):zVJ n (turn n 0 f)=zVJ n f:=by
  unfold zVJ;refine zKM fun k hk=>?_;unfold turn;rw [zlD tO]
theorem zdN {n i:Nat} {f:Nat->UInt8} (h:i<n-1-i):zVJ n (upd (upd (turn n i f) i (turn n i f (n-1-i))) (n-1-i) (turn n i f i))=zVJ n (turn n (i+1) f):=by
  unfold zVJ;refine zKM fun k hk=>?_
  congr 1
  have e1:turn n i f (n-1-i)=f (n-1-i):=by unfold turn;rw [zlD tO]
  have e2:turn n i f i=f i:=by unfold turn;rw [zlD tO]
  rw [e1,e2];unfold upd turn;by_cases h1:k=n-1-i
  · rw [zlF h1,zlF tO];congr 1;omega
  · rw [zlD h1]
    by_cases h2:k=i
    · rw [zlF h2,zlF tO];congr 1;omega
    · rw [zlD h2]
      by_cases h3:k<i\/n-i<=k
      · rw [zlF h3,zlF tO]
      · rw [zlD h3,zlD tO]
theorem zgK {i:Nat} {xs:List UInt8} (h:xs.length-1-i<=i) (hi:i<=xs.length):zVJ xs.length (turn xs.length i fun k=>xs.getD k 0)=xs.reverse.map zo:=by
  rw [zdL xs.reverse,zmx];unfold zVJ;refine zKM fun k hk=>?_
  congr 1
  have e:xs.reverse.getD k 0=xs.getD (xs.length-1-k) 0:=by
    rw [zmJ,zmJ,List.getElem?_reverse hk]
  show _=xs.reverse.getD k 0;rw [e];unfold turn;split
  · rfl
  · congr 1;omega
section
variable {C:CSpec} {GT:zG_}
theorem zi1 (av:AV) (m:Nat) (H:Heap) (ha:Mag av m) (hm:m≠0) (hl:(wds m).length<=100000):EFun C GT zGU [av] H (.lst (some false) 1 ((wds m).map zBY)) H:=by
  have h0:(wds m).map zBY≠[]:=by rw [zDG hm];simp
  refine zJ ?_;refine zBw (H0:=H) (Owns.nil _ _ _) (Old.refl _) (ha.view H) tO (by simp;omega) h0 (fun v' H' ho' hO' hb hf=>?_);rw [zl2] at ho';obtain ⟨H2,hf2,hO2,_⟩:=ho'.frz hO';have e:zQi 1 ((wds m).map zBY)=.lst (some false) 1 ((wds m).map zBY):=by rw [zDG hm];rfl
  rw [e] at hf2;exact zQs rfl rfl hf2 rfl hO2
structure SSl where
  k:Nat
  r:Nat
  qs:List Nat
theorem zgL (hT:∀ b m ws H,ws.length=m->H[b]?=some (.row 1 (ws.map zBY))->Small ws->m<=1000000->C zAG [.sl (some false) b 1 0 m] H (.sl (some false) b 1 0 (wds (wval ws)).length) H)
    (av:AV) (a d n:Nat) (H:Heap) (ha:Mag av a) (hn:(wds a).length=n) (hl:n<=100000) (hd0:0<d) (hd:d<4294967296):EFun C GT zFz [av,zBY d] H (.tup [zFV (a/d),zBY (a%d)]) H:=by
  have hal:((wds a).map zBY).length=n:=by rw [zlM,hn]
  refine zJ ?_;refine zBH n ha hal ?_;refine zd2 (n:=n) rfl (Int.le_refl _) ⟨by omega,by omega⟩ rfl ?_;refine zBH n ha hal ?_;refine zjg ⟨by omega,by omega⟩ ?_;refine zBG (fun s:SSl=>[(8,zH ((s.k:Int)-1)),(1,zBY d),(6,.sl (some false) H.length 1 0 n),(0,av),(7,zTc s.r)])
    (fun s H'=>Old H H'/\s.k<=n/\s.qs.length=n-s.k/\Small s.qs/\s.r<d/\H'[H.length]?=some (.row 1 ((List.replicate s.k 0++s.qs).map zBY))/\wval ((wds a).drop s.k)=d*wval s.qs+s.r) (fun s=>s.k) ⟨n,0,[]⟩ rfl
    ⟨(Old.refl _).push _,zlK _,by simp,(fun w hw=>by cases hw),hd0,by rw [zma,znk];exact zB,by show wval ((wds a).drop n)=d*wval []+0;rw [List.drop_of_length_le tO];rfl⟩ (fun ⟨k,r,qs⟩ H1 ⟨hO,hk,hq,hsm,hr,hrow,hval⟩=>?_)
  simp only at hk hq hsm hr hrow hval;dsimp only;refine zEY (fun h=>?_) (fun h=>?_)
  · have h:1<=k:=by have:=zlr h;omega
    obtain ⟨i,rfl⟩:∃ i,k=i+1:=⟨k-1,by omega⟩;have hi:i<(wds a).length:=by omega
    have hax:=zK6 hi;have hdr:=zdK hi;have hsx:=zB4 a _ (zmM hi);generalize (wds a)[i]=w at *;have hq1:(r*4294967296+w)/d<4294967296:=by
      rw [Nat.div_lt_iff_lt_mul hd0];have:(r+1)*4294967296<=d*4294967296:=zl1 _ hr;rw [zmZ 4294967296 d];omega
    have hqt:(((r*4294967296+w:Nat)):Int).tdiv (d:Int)=(((r*4294967296+w)/d:Nat):Int):=(Int.ofNat_tdiv _ _).symm;have hrt:(((r*4294967296+w:Nat)):Int).tmod (d:Int)=(((r*4294967296+w)%d:Nat):Int):=(Int.ofNat_tmod _ _).symm;have hrd:(r*4294967296+w)%d<d:=Nat.mod_lt _ hd0;have e:=Nat.div_add_mod (r*4294967296+w) d;have hne:(d:Int)≠0:=by omega
    obtain ⟨q,hqd⟩:∃ q,(r*4294967296+w)/d=q:=⟨_,rfl⟩;obtain ⟨rm,hrm⟩:∃ rm,(r*4294967296+w)%d=rm:=⟨_,rfl⟩;rw [hqd] at hq1 hqt e;rw [hrm] at hrt hrd e;have hget:=zgJ qs i;have hset:=zi0 qs i q;refine zx (zkE r tO) ?_;refine zFD i (zBY w) ha tO hax ?_;refine zA9 (zBY w) rfl ?_;refine zEI (r:=w) rfl tO ?_;refine zx (or32' w r hsx tO) ?_;refine zEI (r:=d) rfl tO ?_;refine zBF hne ?_;refine zh1 q (by rw [hqt];omega) ?_;refine zNi q tO ?_;refine sAt ⟨by omega,by omega⟩ ?_;refine zKs i (zBY q) tO hrow hget rfl zD_ rfl (fun cs h=>by cases h) ?_;refine zEI (r:=d) rfl tO ?_;refine zBF hne ?_;refine zDh (r:=(rm:Int)) hrt ?_;refine zjg ⟨by omega,by omega⟩ ?_;refine zAR (SSl.mk i rm (q::qs)) ?_ ⟨hO.set (zlK _) _,by simp only;omega,by simp only [zlE];omega, ?_,hrd,by simp only;rw [hset];exact zU hrow, ?_⟩ (by simp only;omega)
    · have:((i+1:Nat):Int)-1-1=(i:Int)-1:=by omega
      simp only [<-this];rfl
    · intro x hx
      rcases zmC.1 hx with rfl|hx
      · exact hq1
      · exact hsm x hx
    · simp only [wval]
      rw [hdr,hval];rw [znB,znB,<-Nat.mul_assoc d 4294967296,zmZ d 4294967296,zmz];omega
  · have h:k=0:=by have:=zly h;omega
    subst h;rw [znC,zE6] at hval;rw [znc,zl2] at hrow;have hv:wval qs=a/d:=by rw [hval,Nat.mul_add_div hd0,Nat.div_eq_of_lt hr];rfl
    have hm:a%d=r:=by rw [hval,Nat.mul_add_mod,znW hr]
    have ht:=hT H.length n qs H1 tO hrow hsm tO;rw [hv] at ht;rw [hm];have hfz:=zQR (H0:=H) (H:=H1) (b:=H.length) (n:=a/d) (zlK _) hrow hsm hv;refine zM ht ?_;refine zNi r tO ?_;exact zQs (v0:=.tup [.sl (some false) H.length 1 0 (wds (a/d)).length,zBY r]) rfl rfl (by simp only [zEM,zLg] at hfz ⊢;rw [hfz];rfl) rfl (hO.set (zlK _) _)
structure STx where
  m:Nat
  mv:AV
  v:AV
  out:List UInt8
theorem zgM (hTw:∀ av m H,Mag av m->m≠0->(wds m).length<=100000->C zDC [av] H (.lst (some false) 1 ((wds m).map zBY)) H)
    (hSm:∀ av a d H,Mag av a->(wds a).length<=100000->0<d->d<4294967296->C zCc [av,zBY d] H (.tup [zFV (a/d),zBY (a%d)]) H)
    (b:Nat) (v:Int) (H:Heap) (hb:H[b]?=some (.box (zGG v))) (hv:v.natAbs<10000000000000000000000) (hl:(wds v.natAbs).length<=100):EFun C GT zCq [.ref b 0 0 0,zH 10] H (.str (zZH v)) H:=by
  have hb2:H[b]?=some (.box [.bool (decide (v<0)),zFV v.natAbs]):=hb;clear hb;have hdl:(zUt v.natAbs).length<=22:=zTH 22 _ (by have:(10:Nat)^22=10000000000000000000000:=zD_;omega);refine zJ ?_;refine zx rfl ?_;refine zG ?_;refine zA (zFV v.natAbs) hb2 rfl ?_;refine zBH (wds v.natAbs).length (zGc _) zS_ ?_;by_cases h0:v=0
  · subst h0
    refine zE ?_;exact sRr
  have hz:(wds v.natAbs).length≠0:=by rw [zDG tO];simp
  refine zEY (fun h=>absurd (eq_of_beq h) tO) (fun _=>?_);have htw:=hTw (zFV v.natAbs) v.natAbs H (zGc _) tO tO;have hdig:zZH v=(signed v).reverse:=by unfold zZH;rw [zlD h0]
  rw [hdig];refine zA (zFV v.natAbs) hb2 rfl ?_;refine zM (htw) ?_;refine zBG (fun s:STx=>[(5,s.v),(1,zH 10),(6,s.mv),(0,.ref b 0 0 0)]) (fun s H'=>Old H H'/\Owns H H' s.v 1 (s.out.map zo)/\Mag s.mv s.m/\s.out++zUt s.m=zUt v.natAbs/\s.m<=v.natAbs/\(s.m≠0\/s.out≠[])) (fun s=>s.m) ⟨v.natAbs,_,.lst (some true) 0 [],[]⟩ rfl
    ⟨Old.refl _,Owns.nil _ _ _,⟨_,_,rfl,.inl rfl⟩,rfl,zlK _,.inl (by show v.natAbs≠0;omega)⟩ (fun ⟨m,mv,ov,out⟩ H1 ⟨hO,hown,hmg,hdg,hmle,hne⟩=>?_)
  simp only at hown hmg hdg hmle hne;dsimp only;have hml:(wds m).length<=100:=zmR (zN8 hmle) hl;refine zBH (wds m).length hmg zS_ ?_;refine zEY (fun h=>?_) (fun h=>?_)
  · have h0:m≠0:=fun e=>by subst e;exact absurd h (by simp [zE5])
    have hsm:=hSm mv m 10 H1 hmg tO tO tO;rw [zI1 h0] at hdg;have hol:out.length<=22:=by
      have:=zlR List.length hdg;rw [zlH] at this;omega
    have hmod:m%10<10:=Nat.mod_lt _ tO;have hu:(UInt8.ofNat (48+m%10)).toNat=48+m%10:=by rw [UInt8.toNat_ofNat'];omega
    refine zNi 10 tO ?_;refine zM hsm ?_;refine zx rfl ?_;refine zx rfl ?_;refine zEY (fun _=>?_) (fun h=>absurd (zly h) tO);refine zNi (48+m%10) tO ?_;refine zDh (r:=((UInt8.ofNat (48+m%10)).toNat:Int)) (by rw [hu,IntKind.wrap_u8];omega) ?_;refine zAb (vs':=[zo (UInt8.ofNat (48+m%10))]) rfl rfl ?_;refine zBw (H0:=H) (hown.push _) (hO.push _) zAu tO (by simp;omega) zS_ (fun v' H' ho' hO' hblk hfr=>?_);exact zAR (STx.mk (m/10) (zFV (m/10)) v' (out++[UInt8.ofNat (48+m%10)])) rfl ⟨hO',by simp only [zlv];exact ho',zGc _,by simp only [zlk];exact hdg,by simp only;omega,.inr zS_⟩ (by simp only;omega)
  · have hm0:m=0:=by
      by_cases e:m=0
      · exact e
      · exact absurd h (by rw [zDG e];simp)
    subst hm0;rw [zKF,zma] at hdg;have hoe:out≠[]:=hne.resolve_left zS_;have hol:out.length<=22:=by rw [hdg];exact hdl
    have fin:∀ (ov:AV) (out:List UInt8) (H1:Heap),Old H H1->Owns H H1 ov 1 (out.map zo)->out≠[]->out.length<=23->EW C GT (zEi.behind 6) (zaO zCq H (.str out.reverse) H) [(5,ov)] H1:=by
      intro ov out H1 hO hown hne hlen;obtain ⟨c,rfl,hcl,hrow⟩:∃ c,ov=.sl (some true) c 1 0 out.length/\H.length<=c/\H1[c]?=some (.row 1 (out.map zo)):=by
        rcases hown with ⟨_,h⟩|⟨c,h1,h2,h3,_⟩
        · exact absurd (by simpa using h) hne
        · exact ⟨c,by rw [h1,zlM],h2,h3⟩
      obtain ⟨n,hn⟩:∃ n,out.length=n:=⟨_,rfl⟩;have hn0:0<n:=by rw [<-hn];exact znF.2 hne
      rw [zdL,hn,<-zdM] at hrow;rw [hn];refine zHq ?_;refine zS (r:=n-1) tO tO ?_;refine zBG (fun i:Nat=>[(9,zH ((n:Int)-1-i)),(8,zK i),(5,.sl (some true) c 1 0 n)]) (fun i H'=>Old H H'/\i<=n/\i<=n-i/\H'[c]?=some (.row 1 (zVJ n (turn n i fun k=>out.getD k 0)))) (fun i=>n-i) 0 ?_ ⟨hO,zl6 _,by omega,hrow⟩ (fun i H2 ⟨hO2,hi,hi2,hrow2⟩=>?_)
      · have:((n-1:Nat):Int)=(n:Int)-1-(0:Nat):=by omega
        simp only [<-this];rfl
      dsimp only;refine zEY (fun h=>?_) (fun h=>?_)
      · have h:i<n-1-i:=by have:=zlr h;omega
        have g1:=zO8 (n:=n) (i:=i) (f:=turn n i fun k=>out.getD k 0) tO;have g2:=zO8 (n:=n) (i:=n-1-i) (f:=turn n i fun k=>out.getD k 0) tO;have ts:=zdN (f:=fun k=>out.getD k 0) h;generalize hf:turn n i (fun k=>out.getD k 0)=f at *;have g3:=zO8 (n:=n) (i:=n-1-i) (f:=upd f i (f (n-1-i))) tO;have r2:(H2.set c (.row 1 ((zVJ n f).set i (zo (f (n-1-i))))))[c]?=some (.row 1 (zVJ n (upd f i (f (n-1-i))))):=by rw [zXr];exact zU hrow2
        refine sAt ⟨by omega,by omega⟩ ?_;refine zBa i (zo (f i)) (zo (f i)) tO hrow2 g1 rfl ?_;refine sAt ⟨by omega,by omega⟩ ?_;refine zBa (n-1-i) (zo (f (n-1-i))) (zo (f (n-1-i))) tO hrow2 g2 rfl ?_;refine sAt ⟨by omega,by omega⟩ ?_;refine zKs i (zo (f (n-1-i))) tO hrow2 g1 rfl zD_ rfl (fun cs h=>by cases h) ?_;refine sAt ⟨by omega,by omega⟩ ?_;refine zKs (n-1-i) (zo (f i)) tO r2 g3 rfl zD_ rfl (fun cs h=>by cases h) ?_;refine zS (r:=i+1) rfl tO ?_;refine zjg ⟨by omega,by omega⟩ ?_;refine zAR (i+1) ?_ ⟨(hO2.set hcl _).set hcl _,by omega,by omega, ?_⟩ tO
        · have:(n:Int)-1-(i:Int)-1=(n:Int)-1-((i+1:Nat):Int):=by omega
          simp only [<-this];rfl
        · rw [<-ts,<-zXr (f:=upd f i (f (n-1-i)))]
          exact zU r2
      · have h:n-1-i<=i:=by have:=zly h;omega
        have e:=zgK (i:=i) (xs:=out) tO tO;rw [hn] at e;rw [e] at hrow2;have ho:Owns H H2 (.sl (some true) c 1 0 n) 1 (out.reverse.map zo):=.inr ⟨c,by rw [zlM,zmx,hn],hcl,hrow2,by simp [hne]⟩;refine zHs ho ?_;exact zAv rfl rfl rfl rfl hO2
    by_cases hn:v<0
    · have e:signed v=out++[45]:=by unfold signed;rw [zlF hn,hdg]
      rw [e];rw [zlY hn] at hb2;have hb3:=zPY hO hb2;refine zA (.bool true) hb3 rfl ?_;refine zE ?_;refine zAb (vs':=[zo 45]) rfl rfl ?_;refine zBw (H0:=H) (hown.push _) (hO.push _) zAu tO (by simp;omega) zS_ (fun v' H' ho' hO' hblk hfr=>?_);refine zFM rfl (fin v' (out++[45]) H' hO' (by rw [zlv];exact ho') zS_ (by simp;omega)) ?_;rfl
    · have e:signed v=out:=by unfold signed;rw [zlD hn,hdg]
      rw [e];rw [zlf hn] at hb2;have hb3:=zPY hO hb2;refine zA (.bool false) hb3 rfl ?_;refine zG ?_;refine zFM rfl (fin ov out H1 hO hown hoe tO) ?_;rfl
theorem zZa (hT:∀ b v H,H[b]?=some (.box (zGG v))->v.natAbs<10000000000000000000000->(wds v.natAbs).length<=100->C zBA [.ref b 0 0 0,zH 10] H (.str (zZH v)) H)
    (b:Nat) (v:Int) (H:Heap) (hb:H[b]?=some (.box (zGG v))) (hv:v.natAbs<10000000000000000000000) (hl:(wds v.natAbs).length<=100):EFun C GT zD3 [.ref b 0 0 0] H (.str (zZH v)) H:=by
  have h:=hT b v H hb hv hl;refine zJ ?_;refine zM (h) ?_;exact sRr
theorem zZb (hNew:∀ v H,zEK v->C zAV [zH v] H (.ref H.length 0 0 0) (H++[.box (zGG v)]))
    (hS:∀ b v H,H[b]?=some (.box (zGG v))->v.natAbs<10000000000000000000000->(wds v.natAbs).length<=100->C zCC [.ref b 0 0 0] H (.str (zZH v)) H)
    (v:Int) (H:Heap) (hv:zEK v):EFun C GT zJC [zH v] H (.str (zZH v)) H:=by
  have e2:(4294967296:Nat)^2=18446744073709551616:=by decide
  have la:(wds v.natAbs).length<=2:=zTB (by rw [e2];unfold zEK at hv;omega);have h:=hS H.length v (H++[.box (zGG v)]) zB (by unfold zEK at hv;omega) tO;refine zJ ?_;refine zCI (hNew v _ hv) (fun h=>by cases h) ?_;refine zM (h) ?_;exact zAv rfl rfl rfl rfl ((Old.refl _).push _)
end
end Go.AM
