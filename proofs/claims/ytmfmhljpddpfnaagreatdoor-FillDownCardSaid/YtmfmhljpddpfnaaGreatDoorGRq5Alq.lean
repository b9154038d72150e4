/- Texts of mine in one. Own work. -/
import Derived.Test.YtmfmhljpddpfnaaGreatDoorGAm23Am35
import Derived.Test.YtmfmhljpddpfnaaGreatDoorGOn1Rq4
import Derived.Test.YtmfmhljpddpfnaaGreatDoorLc
import Derived.Test.YtmfmhljpddpfnaaGreatDoorGBe0Itd
import Derived.Test.YtmfmhljpddpfnaaGreatDoorGRt2Pr1
import Derived.Test.YtmfmhljpddpfnaaGreatDoorGRfdGq
import Derived.Test.YtmfmhljpddpfnaaGreatDoorGRf5Rf3
set_option maxHeartbeats 4000000
set_option maxRecDepth 20000
set_option linter.all false
namespace Go.AM
section
variable {C:CSpec} {GT:zG_}
theorem zb8 (n:Nd) (hn:Wf false n) (hd:need n<=30) (hcn:cnt n<=200) (hln:(txt n).length<=5000) (hCt:RcH C n) (hF:RfH C false n) (hT:RtH C n)
  (hP:zAj (61::txt n)=some n->∀ H,C zBx [.str (61::txt n)] H (.tup [ndV n,zK 0,zK 0]) H) (H:Heap):EFun C GT zI5 [ndV n] H (.tup [.str (zDT n),zL (zB9 n)]) H:=by
 have hc:=fun H=>hCt 200 H hcn tO;have hf:∀ H,C zBK [ndV n,.bool false] H (.bool true) H:=hF;have ht:∀ H,C zBm [ndV n] H (.str (txt n)) H:=hT;have c0:decide ((cnt n:Int)>200)=false:=tF;clear hCt hF hT;refine zH<|sX ?_
 by_cases hl:(txt n).length<=199
 ·have hp:=hP (zS9 hn hd hl);have et:zDT n=61::txt n:=by unfold zDT;rw [zoQ hl]
  have en:zB9 n=0:=by unfold zB9;rw [zoQ hl]
  have c1:decide ((([61]++txt n).length:Int)>200)=false:=tF (by simp only [zoP,zoN,zoT];omega);rw [et,en];clear hP;refine sX ?_;refine zBA (by simp only [zoP,zoN,zoT];omega)<|sX ?_;refine sSA (ndV n) ?_;refine sX ?_
  exact sRv
 ·have et:zDT n=[]:=by unfold zDT;rw [zWl hl]
  have en:zB9 n=4:=by unfold zB9;rw [zWl hl]
  have c1:decide ((([61]++txt n).length:Int)>200)=true:=tT (by simp only [zoP,zoN,zoT];omega);rw [et,en];clear hP;refine sX ?_;refine zBA (by simp only [zoP,zoN,zoT];omega)<|sX ?_
  exact sRv
end
theorem zRi (c1 r1 c2 r2:Int):zQJ c1 r1 c2 r2<0↔r1<r2\/(r1=r2/\c1<c2):=by
 unfold zQJ zWA
 repeat' split
 all_goals omega
theorem zb9 (c1 r1 c2 r2:Int):zQJ c1 r1 c2 r2=0↔r1=r2/\c1=c2:=by
 unfold zQJ zWA
 repeat' split
 all_goals omega
def aheadC (c r:Int) (f:Fil):Bool:=decide (f.row<r\/(f.row=r/\f.col<c))
def zBW (c r:Int) (f:Fil):Bool:=decide (r<f.row\/(r=f.row/\c<f.col))
def isC (c r:Int) (f:Fil):Bool:=decide (f.row=r/\f.col=c)
theorem zTM (a b:Fil):zEb a b=true↔a.row<b.row\/(a.row=b.row/\a.col<b.col):=by
 unfold zEb;rw [zmt];exact zRi _ _ _ _
def Srtd (l:List Fil):Prop:=l.Pairwise fun a b=>a.row<b.row\/(a.row=b.row/\a.col<b.col)
theorem Srtd.nil:Srtd []:=List.Pairwise.nil
theorem zcA:∀ (l:List Fil) (prev:Option Fil),zGY prev l=0->Srtd l/\∀ p,prev=some p->∀ f∈l,p.row<f.row\/(p.row=f.row/\p.col<f.col):=by
 intro l;induction l with
 |nil=>intro prev _;exact ⟨List.Pairwise.nil,fun _ _ f hf=>absurd hf zS_⟩
 |cons f r ih=>
  intro prev h;have h0:zUi prev f=0/\zGY (some f) r=0:=by
   have e:=zMV (f::r) 0 f rfl prev;simp only [znY,zl7,zoF] at e;rw [e] at h;by_cases h1:zUi prev f=0
   ·rw [zoQ h1] at h;exact ⟨h1,h⟩
   ·rw [zWl h1] at h;exact absurd h h1
  obtain ⟨s,hs⟩:=ih (some f) h0.2;have hp:∀ p,prev=some p->p.row<f.row\/(p.row=f.row/\p.col<f.col):=fun p hp=>by
   subst hp;have h2:=h0.1;unfold zUi at h2;by_cases h3:okC f.col f.row=false
   ·rw [zoQ h3] at h2;cases h2
   ·rw [zWl h3] at h2;cases h4:zEb p f with
    |true=>exact (zTM p f).1 h4
    |false=>simp [h4] at h2
  refine ⟨List.Pairwise.cons (fun g hg=>hs f rfl g hg) s,fun p hpp g hg=>?_⟩;rcases zmG.1 hg with rfl|hg
  ·exact hp p hpp
  ·have h1:=hp p hpp;have h2:=hs f rfl g hg;omega
theorem zYI {l:List Fil} (h:zDj l=0):Srtd l:=by
 unfold zDj at h;by_cases h1:200<l.length
 ·rw [zoQ h1] at h;cases h
 ·rw [zWl h1] at h;exact (zcA l none h).1
def zEc (l:List Fil) (c r:Int) (t:Bs):List Fil:=l.filter (aheadC c r)++(if t=[] then [] else [⟨c,r,t⟩])++l.filter (zBW c r)
def zK1 (l:List Fil) (c r:Int):Nat:=(l.filter (aheadC c r)).length
theorem ziK (l:List Fil) (c r:Int):zK1 l c r<=l.length:=zn4 _ _
theorem zKy {l:List Fil} (h:Srtd l) (c r:Int):l=l.filter (aheadC c r)++l.filter (fun f=>!aheadC c r f):=by
 induction l with
 |nil=>rfl
 |cons f t ih=>
  obtain ⟨h1,h2⟩:=znF.1 h;cases hf:aheadC c r f with
  |true=>
   rw [zmw hf,zmi (by simp [hf]),zl9,<-ih h2]
  |false=>
   have hn:t.filter (aheadC c r)=[]:=by
    refine znE.2 fun g hg=>?_;have:=h1 g hg;have h3:¬ (f.row<r\/(f.row=r/\f.col<c)):=by simpa [aheadC] using hf
    simp only [aheadC,zoY];omega
   have ht:t.filter (fun f=>!aheadC c r f)=t:=by
    refine List.filter_eq_self.2 fun g hg=>?_;have:=znE.1 hn g hg;simpa using this
   rw [zmi (by simp [hf]),zmw (by simp [hf]),hn,ht,zo4]
theorem zWP {l:List Fil} (h:Srtd l) (c r:Int):l.take (zK1 l c r)=l.filter (aheadC c r):=by
 conv=>lhs;rw [zKy h c r]
 unfold zK1;rw [zKy h c r];simp
theorem zRj {l:List Fil} (h:Srtd l) (c r:Int):l.drop (zK1 l c r)=l.filter (fun f=>!aheadC c r f):=by
 have e:=zKy h c r;have e2:zK1 l c r=(l.filter (aheadC c r)).length:=rfl;rw [e2]
 conv=>lhs;rw [e]
 rw [List.drop_left' (by rw [<-e])]
theorem zOy {l:List Fil} (h:Srtd l) (c r:Int):l.filter (fun f=>!aheadC c r f)=l.filter (isC c r)++l.filter (zBW c r):=by
 induction l with
 |nil=>rfl
 |cons f t ih=>
  obtain ⟨h1,h2⟩:=znF.1 h;have hi:=ih h2;by_cases ha:f.row<r\/(f.row=r/\f.col<c)
  ·rw [zmi (by simp [aheadC,ha]),zmi (by simp only [isC,zoY];omega),zmi (by simp only [zBW,zoY];omega)];exact hi
  ·by_cases he:f.row=r/\f.col=c
   ·rw [zmw (by simp only [aheadC,zmD,zl4];exact ha),zmw (by simp only [isC,zoY];exact he),zmi (by simp only [zBW,zoY];omega),zl9,<-hi]
   ·have hn:t.filter (isC c r)=[]:=by
     refine znE.2 fun g hg=>?_;have:=h1 g hg;simp only [isC,zoY];omega
    rw [zmw (by simp only [aheadC,zmD,zl4];exact ha),zmi (by simp only [isC,zoY];exact he),zmw (by simp only [zBW,zoY];omega),hn,zo4,hi,hn,zo4]
theorem zcB {l:List Fil} (h:Srtd l) (c r:Int):(∃ f,l[zK1 l c r]?=some f/\f.row=r/\f.col=c/\l.filter (isC c r)=[f])\/(l.filter (isC c r)=[]/\∀ f,l[zK1 l c r]?=some f->¬ (f.row=r/\f.col=c)):=by
 have e:l.drop (zK1 l c r)=l.filter (isC c r)++l.filter (zBW c r):=(zRj h c r).trans (zOy h c r);have e2:l[zK1 l c r]?=(l.drop (zK1 l c r)).head?:=by rw [zno]
 rw [e2,e];cases hq:l.filter (isC c r) with
 |nil=>
  refine .inr ⟨rfl,fun f hf hh=>?_⟩;rw [zo4] at hf;have hm:f∈l.filter (zBW c r):=List.mem_of_head? hf;have:=(znI.1 hm).2;simp only [zBW,zoY] at this;omega
 |cons f t=>
  have hf:f∈l.filter (isC c r):=by rw [hq];simp
  have h1:=(znI.1 hf).2;simp only [isC,zoY] at h1;refine .inl ⟨f,by simp,h1.1,h1.2, ?_⟩;have hp:Srtd (f::t):=by rw [<-hq];exact h.filter _
  have ht:t=[]:=by
   cases t with
   |nil=>rfl
   |cons g u=>
    have hg:g∈l.filter (isC c r):=by rw [hq];simp
    have h2:=(znI.1 hg).2;simp only [isC,zoY] at h2;have h3:=(znF.1 hp).1 g zS_;omega
  rw [ht]
theorem zQX {l:List Fil} (h:Srtd l) (c r:Int) (t:Bs):Srtd (zEc l c r t):=by
 unfold zEc;refine zoC.2 ⟨zoC.2 ⟨h.filter _, ?_,fun a ha b hb=>?_⟩,h.filter _,fun a ha b hb=>?_⟩
 ·split
  ·exact List.Pairwise.nil
  ·exact List.pairwise_singleton _ _
 ·have h1:=(znI.1 ha).2;simp only [aheadC,zoY] at h1;split at hb
  ·simp at hb
  ·simp only [zl5] at hb;subst hb;exact h1
 ·have h2:=(znI.1 hb).2;simp only [zBW,zoY] at h2;rcases zmm.1 ha with ha|ha
  ·have h1:=(znI.1 ha).2;simp only [aheadC,zoY] at h1;omega
  ·split at ha
   ·simp at ha
   ·simp only [zl5] at ha;subst ha;exact h2
theorem zcC {l:List Fil} (h:Srtd l) (c r:Int) {f:Fil} (hf:l[zK1 l c r]?=some f) (hr:f.row=r) (hc:f.col=c) (t:Bs):zEc l c r t=if t=[] then l.eraseIdx (zK1 l c r) else l.set (zK1 l c r) ⟨c,r,t⟩:=by
 have e:l.drop (zK1 l c r)=l.filter (isC c r)++l.filter (zBW c r):=(zRj h c r).trans (zOy h c r);have hq:l.filter (isC c r)=[f]:=by
  rcases zcB h c r with ⟨g,hg,_,_,h4⟩|⟨_,h4⟩
  ·rw [hf] at hg;cases hg;exact h4
  ·exact absurd ⟨hr,hc⟩ (h4 f hf)
 have hlt:=(zl_ hf);have hd:l.drop (zK1 l c r+1)=l.filter (zBW c r):=by
  rw [hq,zmF hlt] at e;simp only [zl9,zo4,zmZ] at e;exact e.2
 unfold zEc;rw [<-zWP h c r,<-hd];split
 ·rw [zmR,zn5]
 ·rw [zn3,zoQ hlt,zou];rfl
theorem zcD {l:List Fil} (h:Srtd l) (c r:Int) (hn:∀ f,l[zK1 l c r]?=some f->¬ (f.row=r/\f.col=c)) (t:Bs):zEc l c r t=if t=[] then l else l.take (zK1 l c r)++⟨c,r,t⟩::l.drop (zK1 l c r):=by
 have e:l.drop (zK1 l c r)=l.filter (isC c r)++l.filter (zBW c r):=(zRj h c r).trans (zOy h c r);have hq:l.filter (isC c r)=[]:=by
  rcases zcB h c r with ⟨g,hg,h1,h2,_⟩|⟨h4,_⟩
  ·exact absurd ⟨h1,h2⟩ (hn g hg)
  ·exact h4
 rw [hq,zo4] at e;unfold zEc;rw [<-zWP h c r,<-e];split
 ·rw [zmR,zmr]
 ·rw [zou];rfl
structure Goods (l:List Fil):Prop where
 srt:Srtd l
 len:l.length<=200
 each:∀ f∈l,zhw f=0/\f.text≠[]
theorem zcE:∀ (l:List Fil) (prev:Option Fil),Srtd l->(∀ f∈l,zhw f=0/\f.text≠[])->(∀ p,prev=some p->∀ f∈l,p.row<f.row\/(p.row=f.row/\p.col<f.col))->zGY prev l=0
 |[],_,_,_,_=>rfl
 |f::r,prev,hs,he,hp=>by
  have h0:zUi prev f=0:=by
   obtain ⟨h1,h2⟩:=he f (znP ..);unfold zhw at h1;unfold zUi;cases hc:okC f.col f.row with
   |false=>rw [hc] at h1;cases h1
   |true=>
    rw [hc,zoQ rfl] at h1;rw [zWl zS_];cases prev with
    |none=>
     show (if f.text=[] then 3 else zBV f.text)=0;rw [zWl h2];exact h1
    |some p=>
     have hl:=(zTM p f).2 (hp p rfl f (znP ..));show (if zEb p f=false then 5 else if f.text=[] then 3 else zBV f.text)=0;rw [hl,zWl zS_,zWl h2];exact h1
  unfold zGY;rw [zoQ h0];exact zcE r (some f) (znF.1 hs).2 (fun g hg=>he g (zmX _ hg)) (fun p hpe g hg=>by cases hpe;exact (znF.1 hs).1 g hg)
theorem Goods.check {l:List Fil} (h:Goods l):zDj l=0:=by
 unfold zDj;rw [zWl (by have:=h.len;omega)];exact zcE l none h.srt h.each (fun p hp=>by cases hp)
theorem zQY:∀ (l:List Fil) (prev:Option Fil),zGY prev l=0->∀ f∈l,zhw f=0/\f.text≠[]
 |[],_,_,f,hf=>absurd hf zS_
 |g::r,prev,h,f,hf=>by
  unfold zGY at h;by_cases h0:zUi prev g=0
  ·rw [zoQ h0] at h;rcases zmG.1 hf with rfl|hf
   ·unfold zUi at h0;unfold zhw;cases hc:okC f.col f.row with
    |false=>rw [hc,zoQ rfl] at h0;cases h0
    |true=>
     rw [hc,zWl zS_] at h0;rw [zoQ rfl];have h0:(if f.text=[] then 3 else zBV f.text)=0:=by
      cases prev with
      |none=>exact h0
      |some p=>
       have h0:(if zEb p f=false then 5 else if f.text=[] then 3 else zBV f.text)=0:=h0;by_cases hp:zEb p f=false
       ·rw [zoQ hp] at h0;cases h0
       ·rwa [zWl hp] at h0
     by_cases he:f.text=[]
     ·rw [zoQ he] at h0;cases h0
     ·rw [zWl he] at h0;exact ⟨h0,he⟩
   ·exact zQY r _ h f hf
  ·rw [zWl h0] at h;exact absurd h h0
theorem zWQ {l:List Fil} (h:zDj l=0):Goods l:=by
 refine ⟨zYI h,(zbA h).1, ?_⟩;unfold zDj at h;by_cases h1:200<l.length
 ·rw [zoQ h1] at h;cases h
 ·rw [zWl h1] at h;exact zQY l none h
theorem Goods.nil:Goods []:=⟨Srtd.nil,by simp,fun f hf=>absurd hf zS_⟩
theorem Goods.take {l:List Fil} (h:Goods l) (n:Nat):Goods (l.take n):=⟨h.srt.sublist (List.take_sublist n l),by rw [zon];have:=h.len;omega,fun f hf=>h.each f (zmk hf)⟩
def zO8 (f:Fil):Int×Int:=(f.col,f.row)
def zCA (l:List Fil) (p:Int×Int):Bs:=match l with
 |[]=>[]
 |f::r=>if p=zO8 f then f.text else zCA r p
theorem zUz (f:Fil) (r:List Fil) (p:Int×Int):zCA (f::r) p=if p=zO8 f then f.text else zCA r p:=rfl
theorem zYJ {l:List Fil} (h:Srtd l) {f:Fil} (hf:f∈l):zCA l (zO8 f)=f.text:=by
 induction l with
 |nil=>cases hf
 |cons g r ih=>
  have hp:=znF.1 h;unfold zCA;rcases zmG.1 hf with rfl|hf
  ·rw [zoQ rfl]
  ·have:zO8 f≠zO8 g:=fun e=>by
    have:=hp.1 f hf;have e1:f.col=g.col:=zod Prod.fst e;have e2:f.row=g.row:=zod Prod.snd e;omega
   rw [zWl this];exact ih hp.2 hf
theorem zcF {l:List Fil} {p:Int×Int} (h:p ∉ l.map zO8):zCA l p=[]:=by
 induction l with
 |nil=>rfl
 |cons g r ih=>
  simp only [zoa,zmG,not_or] at h;unfold zCA;rw [zWl h.1];exact ih h.2
def ltF (a b:Fil):Prop:=a.row<b.row\/(a.row=b.row/\a.col<b.col)
instance (a b:Fil):Decidable (ltF a b):=by unfold ltF;infer_instance
theorem sRetW {F:AF} {H H1 H2 H':Heap} {fr:Fr} {v0 v:AV} (hk:F.keep=false) (hr:(zBd fr H1 F.results).map tupled=some v0) (hf:zDm H.length v0 H1=some (v,H2)) (hb:v.bel H.length=true) (ho:zWc H H2) (hH:H'=H2.take H.length):retP F H fr H1 v H':=by
 refine zcs ?_;unfold zHM;cases hs:zBd fr H1 F.results with
 |none=>rw [hs] at hr;cases hr
 |some vs=>
  rw [hs] at hr;simp only [zoe,zoS] at hr;subst hr;simp only [hk,hf,zoZ,zot];exact ⟨hb,ho,trivial,hH⟩
theorem zJZ {n:Nat} {v v' y:AV} {H H':Heap} (h:zDm n v H=some (v',H')) (hy:∀ H,zDm n y H=some (y,H)):zDm n (.tup [v,y]) H=some (.tup [v',y],H'):=by
 simp only [zDm,zKR,h,hy]
theorem zfQ (n k:Nat) (xs:List AV):(AV.tup [zJ7 k xs,.nili]).bel n=true:=by simp [AV.bel,AV.belL,zNU]
section
variable {C:CSpec} {GT:zG_}
theorem zMy {F:AF} {a s b s' t:Nat} {ag ag':Bool} {H H1:Heap} {fr:Fr} {v v1 v2:AV} {cs cs':List AV} {o o':Nat} (hF:F.results=[.cell a s ag,.cell b s' ag',.tmp t]) (hk:F.keep=false) (hp:zy H1 (zMk fr a)=some (cs,o)) (hpt:part cs o s ag=some v)
  (hp2:zy H1 (zMk fr b)=some (cs',o')) (hpt2:part cs' o' s' ag'=some v1) (ht:zMk fr t=v2)
  (hf:zDm H.length (.tup [v,v1,v2]) H1=some (.tup [v,v1,v2],H1)) (hb:(AV.tup [v,v1,v2]).bel H.length=true) (ho:Old H H1):retP F H fr H1 (.tup [v,v1,v2]) H:=by
 refine zAQ hk ?_ hf hb ho;rw [zFA] at hp ht hp2;simp only [hF,zBd,zKS,hp,hpt,hp2,hpt2,ht,zoe];rfl
abbrev NkH (C:CSpec) (n:Nd):Prop:=∀ H,C zF8 [ndV n] H .nili H
abbrev OnH (C:CSpec) (c:Chg) (n:Nd):Prop:=∀ (fr fb:Nat) (cr cb:List AV) (l:List (Nat×ABlk)) H,zgK C fr cr l c.ref->BoxQ C fb cb l c.box->Holds l H->C zAl [cgV fr fb cr cb,ndV n] H (ndV (onN c n)) H
theorem zcG {H:Heap} {a b:Nat} {x y:ABlk} (h1:H[a]?=some x) (h2:H[b]?=some y):Holds [(a,x),(b,y)] H:=fun p hp=>by
 rcases zmG.1 hp with rfl|hp
 ·exact h1
 ·rw [zl5.1 hp];exact h2
end
end Go.AM
