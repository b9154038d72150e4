/- Texts of mine in one. Own work. -/
import Derived.Test.YtmfmhljpddpfnaaGreatDoorGWtcMg4
import Derived.Test.YtmfmhljpddpfnaaGreatDoorGAm23Am35
import Derived.Test.YtmfmhljpddpfnaaGreatDoorGFl1Fl6
import Derived.Test.YtmfmhljpddpfnaaGreatDoorGRq5Alq
import Derived.Test.YtmfmhljpddpfnaaGreatDoorGAlgBg3
import Derived.Test.YtmfmhljpddpfnaaGreatDoorLc
set_option maxHeartbeats 16000000
set_option maxRecDepth 20000
set_option linter.all false
namespace Go.AM
section
variable {C:CSpec} {GT:zG_}
theorem zQc (l:List Fil) (c r:Int) (t:Bs):(zEc l c r t).length<=l.length+1:=by
 have h:∀ l:List Fil,(l.filter (aheadC c r)).length+(l.filter (zBW c r)).length<=l.length:=fun l=>by
  induction l with
  |nil=>simp
  |cons f l ih=>
   simp only [List.filter_cons,zoN];by_cases h1:aheadC c r f=true
   ·have h2:zBW c r f=false:=by
     unfold aheadC at h1;unfold zBW;simp only [zoY] at h1;exact tF
    rw [zoQ h1,h2,zWl zS_,zoN];omega
   ·rw [zWl h1];split <;> (try simp only [zoN]) <;> omega
 have:=h l;unfold zEc;simp only [zoP];split <;> simp <;> omega
def ShV (v:AV) (l:List Fil):Prop:=∃ q k,v=.lst (some q) k (l.map zf)/\(k=3\/l=[])/\(q=true->l=[])
theorem ShV.of {v:AV} {l:List Fil} (h:ShV v l):zCS v 3 (l.map zf):=by
 obtain ⟨q,k,rfl,h1,_⟩:=h;exact ⟨_,_,rfl,h1.imp id fun h=>by rw [h];rfl⟩
theorem ShV.view {v:AV} {l:List Fil} (h:ShV v l) (H:Heap):view H 3 v=some (l.map zf):=h.of.view H
theorem zfr (l:List Fil):ShV (zJ7 3 (l.map zf)) l:=by
 cases l with
 |nil=>exact ⟨true,0,rfl,.inr rfl,fun _=>rfl⟩
 |cons f l=>exact ⟨false,3,rfl,.inl rfl,fun h=>by cases h⟩
theorem zk6 (q:Bool) (l:List Fil) (hq:q=true->l=[]):ShV (opV q l) l:=by
 cases q with
 |true=>exact ⟨true,0,rfl,.inr (hq rfl),hq⟩
 |false=>exact ⟨false,3,rfl,.inl rfl,hq⟩
end
def zcv (dc dr:Int) (s:List Fil):List (Int×Int)->List Fil->Nat×List Fil
 |[],l=>(0,l)
 |p::ps,l=>if (zNd (zL0 dc dr) (zCA s p)).1≠0 then ((zNd (zL0 dc dr) (zCA s p)).1,[]) else zcv dc dr s ps (zEc l (p.1+dc) (p.2+dr) (zNd (zL0 dc dr) (zCA s p)).2)
theorem zTX (dc dr:Int) (s:List Fil) (p:Int×Int) (ps:List (Int×Int)) (l:List Fil):zcv dc dr s (p::ps) l=if (zNd (zL0 dc dr) (zCA s p)).1≠0 then ((zNd (zL0 dc dr) (zCA s p)).1,[]) else zcv dc dr s ps (zEc l (p.1+dc) (p.2+dr) (zNd (zL0 dc dr) (zCA s p)).2):=rfl
theorem zlX {dc dr:Int} {s:List Fil}:∀ {ps:List (Int×Int)} {l:List Fil},Srtd l->Srtd (zcv dc dr s ps l).2
 |[],l,h=>h
 |p::ps,l,h=>by
  rw [zTX];split
  ·exact Srtd.nil
  ·exact zlX (zQX h _ _ _)
theorem zlY {dc dr:Int} {s:List Fil}:∀ {ps:List (Int×Int)} {l:List Fil},(zcv dc dr s ps l).2.length<=l.length+ps.length
 |[],l=>zoR _
 |p::ps,l=>by
  rw [zTX];split
  ·simp
  ·have h1:=zlY (dc:=dc) (dr:=dr) (s:=s) (ps:=ps) (l:=zEc l (p.1+dc) (p.2+dr) (zNd (zL0 dc dr) (zCA s p)).2);have h2:=zQc l (p.1+dc) (p.2+dr) (zNd (zL0 dc dr) (zCA s p)).2;rw [zoN];omega
theorem zWX {s:List Fil} (h:∀ f∈s,zBV f.text=0) (p:Int×Int):zBV (zCA s p)=0:=by
 induction s with
 |nil=>rfl
 |cons f r ih=>
  rw [zUz];split
  ·exact h f zS_
  ·exact ih fun g hg=>h g (zmX _ hg)
section
variable {C:CSpec} {GT:zG_}
theorem zie (n:Nd) (b:Bx) (c r:Int) (hb:b.ok=true) (ho:okC c r=true) (hM:∀ H,C zGf [ndV n,zK (c-b.c0),zK (r-b.r0)] H (.tup [ndV (onN (zL0 (c-b.c0) (r-b.r0)) n),.nili]) H) (b7 b6:Nat) (H:Heap)
  (h7:H[b7]?=some (.box [zK c,zK r])) (h6:H[b6]?=some (.box (bxV b).cells)):EFun C GT zIW [ndV n,bR b7,bR b6] H (.tup [ndV (onN (zL0 (c-b.c0) (r-b.r0)) n),.nili]) H:=by
 have hbk:=zO2 hb;have hto:=(zHI c r).1 ho;have l7:=(zl_ h7);have l6:=(zl_ h6);have w1:IntKind.i64.wrap (c-b.c0)=c-b.c0:=by rw [IntKind.wrap_i64];omega
 have w3:IntKind.i64.wrap (r-b.r0)=r-b.r0:=by rw [IntKind.wrap_i64];omega
 refine zH<|zAV (x:=ndV n) rfl ?_;refine sW ?_;refine zCl w1 ?_;refine sW ?_;refine zCl w3 ?_;refine sW ?_;refine sS (ndV (onN (zL0 (c-b.c0) (r-b.r0)) n)) (AV.cells (ndV (onN (zL0 (c-b.c0) (r-b.r0)) n))) ?_
 exact zj (o:=0) rfl rfl (zJ (zS zB)) rfl rfl rfl rfl hO
abbrev CpR (C:CSpec) (b:Bx) (c r:Int):Prop:=∀ t,zBV t=0->∀ (b7 b6:Nat) H,H[b7]?=some (.box [zK c,zK r])->H[b6]?=some (.box (bxV b).cells)->C zEF [.str t,.fn zEG [] [bR b7,bR b6]] H (.tup [.str (zNd (zL0 (c-b.c0) (r-b.r0)) t).2,eV (zNd (zL0 (c-b.c0) (r-b.r0)) t).1]) H
abbrev WiH (C:CSpec):Prop:=∀ (v:AV) (l:List Fil) (c r:Int) (t:Bs) H,ShV v l->l.length<=3000->Srtd l->∃ v',ShV v' (zEc l c r t)/\C zGd [v,ze c r,.str t] H v' H
def zgP (b:Bx) (c r:Int):AV:=if zL1 b c r=true then .tup [zJ7 2 ((zCB b).map cV),zJ7 2 ((shX b c r).map cV),.nili] else .tup [.lst (some true) 0 [],.lst (some true) 0 [],zFo 1]
def zYU (b:Bx) (c r:Int) (s l:List Fil):Nat×List Fil:=if zL1 b c r=true then zcv (c-b.c0) (r-b.r0) s (zCB b) l else (1,[])
def CopQ (R:Nat×List Fil) (H:Heap) (x:AV) (H':Heap):Prop:=H'=H/\∃ v,x=.tup [v,eV R.1]/\ShV v R.2
theorem zO3 {v:AV} {l:List Fil} (h:ShV v l) (n:Nat):v.bel n=true/\∀ H,zDm n v H=some (v,H):=by
 obtain ⟨q,k,rfl,_⟩:=h;exact ⟨rfl,fun _=>rfl⟩
theorem zGx {F:AF} {a b:Nat} {H H1:Heap} {fr:Fr} {v1 v2:AV} {Q:AV->Heap->Prop} (hF:F.results=[.tmp a,.tmp b]) (hk:F.keep=false) (h1:zMk fr a=v1) (h2:zMk fr b=v2) (hf:zDm H.length (.tup [v1,v2]) H1=some (.tup [v1,v2],H1)) (hb:(AV.tup [v1,v2]).bel H.length=true) (ho:Old H H1) (hq:Q (.tup [v1,v2]) H):retQ F H fr H1 Q:=by
 refine zLf (zAQ hk ?_ hf hb ho) hq;rw [zFA] at h1 h2;simp only [hF,zBd,zKS,h1,h2,zoe];rfl
theorem zci (hT:∀ b c r H,C zFI [bxV b,ze c r] H (zgP b c r) H) (hP:∀ lv s H,view H 3 lv=some (s.map zf)->Srtd s->s.length<=1000->C zG4 [lv] H (.mps (s.map zO8) (s.map txV)) H)
  (hR:∀ b c r,zL1 b c r=true->CpR C b c r) (hW:WiH C) (v sv:AV) (l s:List Fil) (hv:ShV v l) (hsv:ShV sv s) (hs:Srtd s) (hsl:s.length<=1000) (hst:∀ f∈s,zBV f.text=0) (hl:Srtd l) (b:Bx) (c r:Int) (hll:(zL1 b c r=true->l.length+(zCB b).length<=3000)) (H:Heap) :
  zDv C GT zLQ [v,sv,bxV b,ze c r] H (CopQ (zYU b c r s l) H):=by
 have ht:=hT b c r;clear hT;unfold zYU;cases hm:zL1 b c r with
 |false=>
  have e:zgP b c r=.tup [.lst (some true) 0 [],.lst (some true) 0 [],zFo 1]:=by unfold zgP;rw [zWl (by rw [hm];simp)]
  rw [e] at ht;rw [zWl zS_];clear hR hW hP;show EW _ _ _ _ _ _;refine zAV (x:=bxV b) rfl<|zAV (x:=ze c r) rfl<|sW ?_
  exact zGx rfl rfl rfl rfl rfl rfl hO ⟨rfl,_,rfl,true,0,rfl,.inr rfl,fun _=>rfl⟩
 |true=>
  rw [zoQ rfl];have hR:=hR b c r hm;have hll:=hll hm;have e:zgP b c r=.tup [zJ7 2 ((zCB b).map cV),zJ7 2 ((shX b c r).map cV),.nili]:=by unfold zgP;rw [zoQ hm]
  rw [e] at ht;have hp:=fun H=>hP sv s H (hsv.view H) hs hsl;have hsh:∀ (i:Nat) (p:Int×Int),(zCB b)[i]?=some p->((shX b c r).map cV)[i]?=some (ze (p.1+(c-b.c0)) (p.2+(r-b.r0))):=fun i p h=>by unfold shX;rw [zoX,zoX,h];rfl
  obtain ⟨L,hL⟩:∃ L,zCB b=L:=⟨_,rfl⟩;rw [hL] at ht hll hsh ⊢;have hLm:(L.map cV).length=L.length:=zoU _;obtain ⟨lv,hlv⟩:∃ lv,zJ7 2 (L.map cV)=lv:=⟨_,rfl⟩;have hlO:zCS lv 2 (L.map cV):=hlv ▸ zQs _ _;obtain ⟨ov,hov⟩:∃ ov,zJ7 2 ((shX b c r).map cV)=ov:=⟨_,rfl⟩;have hoO:zCS ov 2 ((shX b c r).map cV):=hov ▸ zQs _ _;rw [hlv,hov] at ht;have hg:=fun (p:Int×Int) (H:Heap)=>zYR (H:=H) (m:=.mps (s.map zO8) (s.map txV)) (l:=s) rfl p.1 p.2;obtain ⟨mv,hmv⟩:∃ mv,AV.mps (s.map zO8) (s.map txV)=mv:=⟨_,rfl⟩;rw [hmv] at hp hg;clear hP;show EW _ _ _ _ _ _;refine zAV (x:=bxV b) rfl<|zAV (x:=ze c r) rfl<|sW ?_;refine zAk L.length hlO hLm ?_
  obtain ⟨Hs,hHs⟩:∃ Hs,(H++[ABlk.box (bxV b).cells])++[ABlk.box (ze c r).cells]=Hs:=⟨_,rfl⟩;obtain ⟨b7,hb7⟩:∃ b7,(H++[ABlk.box (bxV b).cells]).length=b7:=⟨_,rfl⟩;have hOs:Old H Hs:=hHs ▸ ((Old.refl H).push _).push _;have g6:Hs[H.length]?=some (.box (bxV b).cells):=hHs ▸ zG zB;have g7:Hs[b7]?=some (.box [zK c,zK r]):=hHs ▸ hb7 ▸ zB;rw [hHs,hb7];clear hHs hb7 ht hp;refine zAr (fun x:Nat×AV×List Fil=>[(32,zL x.1),(11,ov),(0,x.2.1),(7,.ref b7 0 0 0),(6,.ref H.length 0 0 0),(13,mv),(30,lv),(31,zL L.length)]) (fun x H'=>Old Hs H'/\x.1<=L.length/\ShV x.2.1 x.2.2/\Srtd x.2.2/\x.2.2.length<=l.length+x.1/\zcv (c-b.c0) (r-b.r0) s (L.drop x.1) x.2.2=zcv (c-b.c0) (r-b.r0) s L l) (fun x=>L.length-x.1) (0,v,l) rfl ⟨Old.refl _,by simp,hv,hl,by simp,rfl⟩ (fun x H1 hi=>?_);obtain ⟨i,w,m⟩:=x;obtain ⟨hO,hi,hw,hm2,hml,hput⟩:=hi;dsimp only at hi hw hm2 hml hput ⊢;have k6:H1[H.length]?=some (.box (bxV b).cells):=zFB hO g6;have k7:H1[b7]?=some (.box [zK c,zK r]):=zFB hO g7;have hOH:Old H H1:=hOs.trans hO;by_cases hlt:i<L.length
  case neg=>
   have e:i=L.length:=by omega
   subst e;rw [znd] at hput;obtain ⟨hb1,hf1⟩:=zO3 hw H.length;rw [show zcv (c-b.c0) (r-b.r0) s [] m=(0,m) from rfl] at hput;rw [<-hput];refine sW ?_;exact zGx (v1:=w) (v2:=.nili) rfl rfl rfl rfl (zJZ (hf1 _) fun _=>rfl) (by simp only [AV.bel,AV.belL,hb1,zoK]) hOH ⟨rfl,w,rfl,hw⟩
  obtain ⟨p,hp⟩:∃ p,L[i]?=some p:=⟨_,zoO hlt⟩;have hpm:(L.map cV)[i]?=some (cV p):=by rw [zoX,hp];rfl
  have hom:=hsh i p hp;have hgp:=hg p;have hdr:L.drop i=p::L.drop (i+1):=by rw [zmF hlt,(zg hp).2]
  rw [hdr,zTX] at hput;have hRt:=hR (zCA s p) (zWX hst p) b7 H.length;obtain ⟨q,hq⟩:∃ q,zNd (zL0 (c-b.c0) (r-b.r0)) (zCA s p)=q:=⟨_,rfl⟩;rw [hq] at hRt hput;obtain ⟨u,hu⟩:∃ u,p.1+(c-b.c0)=u:=⟨_,rfl⟩;obtain ⟨z,hz⟩:∃ z,p.2+(r-b.r0)=z:=⟨_,rfl⟩;rw [hu,hz] at hom hput;have hkk:((H1++[ABlk.box [.int .i64 0,.int .i64 0]]).set H1.length (.box (cV p).cells))[b7]?=some (.box [zK c,zK r]):=zFB ((Old.refl H1).pushSet _ _) k7;have hkj:((H1++[ABlk.box [.int .i64 0,.int .i64 0]]).set H1.length (.box (cV p).cells))[H.length]?=some (.box (bxV b).cells):=zFB ((Old.refl H1).pushSet _ _) k6;have hRt:=hRt _ hkk hkj;clear hR hg hsh hdr;obtain ⟨w2,hw2,hWc⟩:=hW w m u z q.2 ((H1++[ABlk.box [.int .i64 0,.int .i64 0]]).set H1.length (.box (cV p).cells)) hw tO hm2;clear hW;refine sW ?_;refine zBg i (cV p) hlO rfl hpm<|sW ?_
  by_cases hq0:q.1=0
  case neg=>
   have e:eV q.1=zFo (q.1:Nat):=by unfold eV;rw [zWl hq0]
   rw [zoQ hq0] at hput;rw [e] at hRt;refine sS (cV p) (AV.cells (cV p)) ?_;refine sW ?_;refine zk3 (hgp _)<|sW ?_
   rw [<-hput];exact zGx (v1:=.lst (some true) 0 []) (v2:=zFo (q.1:Nat)) rfl rfl rfl rfl rfl rfl (hOH.pushSet _ _) ⟨rfl,.lst (some true) 0 [],by rw [e],true,0,rfl,.inr rfl,fun _=>rfl⟩
  have e:eV q.1=.nili:=by unfold eV;rw [zoQ hq0]
  rw [zWl (fun h=>h hq0)] at hput;rw [e] at hRt;refine sS (cV p) (AV.cells (cV p)) ?_;refine sW ?_;refine zk3 (hgp _)<|sW ?_;refine zBg i (ze u z) hoO rfl hom<|sW ?_;refine zQ (r:=i+1) rfl tO ?_
  exact zAJ (i+1,w2,zEc m u z q.2) rfl ⟨hO.pushSet _ _,by simp only;omega,hw2,zQX hm2 _ _ _,by have:=zQc m u z q.2;simp only;omega,hput⟩ (by simp only;omega)
end
def zcj (R:Nat×List Fil):Nat×List Fil:=if R.1≠0 then (R.1,[]) else if 200<R.2.length then (4,[]) else R
def zJ4 (b:Bx) (c r:Int) (l:List Fil):Nat×List Fil:=if zDj l≠0 then (zDj l,[]) else zcj (zYU b c r l l)
def zly (b:Bx):Bx:=⟨b.c0,b.r0,b.c1,b.r0⟩
def zlS (b:Bx) (s:List Fil):List Int->List Fil->Nat×List Fil
 |[],l=>(0,l)
 |r::rs,l=>if (zYU (zly b) b.c0 r s l).1≠0 then ((zYU (zly b) b.c0 r s l).1,[]) else zlS b s rs (zYU (zly b) b.c0 r s l).2
theorem zlT (b:Bx) (s:List Fil) (r:Int) (rs:List Int) (l:List Fil):zlS b s (r::rs) l=if (zYU (zly b) b.c0 r s l).1≠0 then ((zYU (zly b) b.c0 r s l).1,[]) else zlS b s rs (zYU (zly b) b.c0 r s l).2:=rfl
def zlQ (b:Bx):List Int:=(List.range (b.r1-b.r0).toNat).map fun i:Nat=>b.r0+1+(i:Int)
def zlM (b:Bx) (l:List Fil):Nat×List Fil:=if zDj l≠0 then (zDj l,[]) else if b.ok=false then (1,[]) else zcj (zlS b l (zlQ b) l)
theorem zlV {b:Bx} (h:b.ok=true):(zly b).ok=true/\(zCB (zly b)).length<=26:=by
 have hb:=zO2 h;refine ⟨?_, ?_⟩
 ·unfold zly Bx.ok okC;simp only [zTo,zoY];omega
 ·have:=zU6 (zly b) ((zly b).r1+1-(zly b).r0).toNat;unfold zCB;rw [this];show (b.r0+1-b.r0).toNat*(b.c1+1-b.c0).toNat<=26;have h1:(b.r0+1-b.r0).toNat=1:=by omega
  rw [h1];omega
theorem zlZ {b:Bx} {c r:Int} {s l:List Fil} {n:Nat} (h:(zCB b).length<=n):(zYU b c r s l).2.length<=l.length+n:=by
 unfold zYU;split
 ·have:=zlY (dc:=c-b.c0) (dr:=r-b.r0) (s:=s) (ps:=zCB b) (l:=l);omega
 ·simp
theorem zla {b:Bx} {c r:Int} {s l:List Fil} (h:Srtd l):Srtd (zYU b c r s l).2:=by
 unfold zYU;split
 ·exact zlX h
 ·exact Srtd.nil
abbrev CopH (C:CSpec):Prop:=∀ (v sv:AV) (l s:List Fil) (b:Bx) (c r:Int) H,ShV v l->ShV sv s->Srtd s->s.length<=1000->(∀ f∈s,zBV f.text=0)->Srtd l->(b.ok=true->l.length+(zCB b).length<=3000)->∃ w,ShV w (zYU b c r s l).2/\C zFu [v,sv,bxV b,ze c r] H (.tup [w,eV (zYU b c r s l).1]) H
abbrev GcH (C:CSpec):Prop:=∀ lv (l:List Fil) H,view H 3 lv=some (l.map zf)->C zEe [lv] H (eV (zDj l)) H
abbrev FuO (C:CSpec):Prop:=∀ v (l:List Fil) H,zCS v 3 (l.map zf)->l.length<=200->C zH0 [v] H (.tup [v,.nili]) H
abbrev FuN (C:CSpec):Prop:=∀ v (l:List Fil) H,zCS v 3 (l.map zf)->200<l.length->C zH0 [v] H (.tup [.lst (some true) 0 [],zFo 4]) H
theorem zWY {f:Fil} (h:zhw f=0):zBV f.text=0:=by
 unfold zhw at h;cases hc:okC f.col f.row with
 |false=>rw [hc] at h;cases h
 |true=>rw [hc] at h;exact h
theorem zTY:ShV (.lst (some true) 0 []) []:=⟨true,0,rfl,.inr rfl,fun _=>rfl⟩
theorem zfs {n:Nat} (h:n≠0):eV n=zFo (n:Nat):=by unfold eV;rw [zWl h]
section
variable {C:CSpec} {GT:zG_}
theorem zif (hG:GcH C) (hC:CopH C) (hF:FuO C) (hN:FuN C) (lv:AV) (l:List Fil) (hl:ShV lv l) (b:Bx) (c r:Int) (H:Heap):zDv C GT zN7 [lv,bxV b,ze c r] H (CopQ (zJ4 b c r l) H):=by
 have hg:=fun H=>hG lv l H (hl.view H);unfold zJ4;obtain ⟨hb1,hf1⟩:=zO3 hl 0;by_cases h0:zDj l=0
 case neg=>
  rw [zoQ h0];rw [zfs h0] at hg;clear hG hC hF hN;show EW _ _ _ _ _ _;refine zAV (x:=bxV b) rfl<|zAV (x:=ze c r) rfl<|sW ?_
  exact zGx (v1:=.lst (some true) 0 []) (v2:=zFo (zDj l:Nat)) rfl rfl rfl rfl rfl rfl hO ⟨rfl,.lst (some true) 0 [],by rw [zfs h0],zTY⟩
 rw [zWl (fun h=>h h0)];have hgd:=zWQ h0;rw [h0] at hg;have hg:∀ H,C zEe [lv] H .nili H:=hg;obtain ⟨w,hw,hc⟩:=hC lv lv l l b c r ((H++[ABlk.box (bxV b).cells])++[ABlk.box (ze c r).cells]) hl hl hgd.srt (by have:=hgd.len;omega) (fun f hf=>zWY (hgd.each f hf).1) hgd.srt (fun hb=>by have:=zHq hb;have:=hgd.len;omega);clear hG hC;obtain ⟨R,hR⟩:∃ R,zYU b c r l l=R:=⟨_,rfl⟩;rw [hR] at hw hc ⊢;clear hR;by_cases h1:R.1=0
 case neg=>
  unfold zcj;rw [zoQ h1];rw [zfs h1] at hc;clear hF hN;show EW _ _ _ _ _ _;refine zAV (x:=bxV b) rfl<|zAV (x:=ze c r) rfl<|sW ?_
  exact zGx (v1:=.lst (some true) 0 []) (v2:=zFo (R.1:Nat)) rfl rfl rfl rfl rfl rfl hO ⟨rfl,.lst (some true) 0 [],by rw [zfs h1],zTY⟩
 have hc:C zFu [lv,lv,bxV b,ze c r] ((H++[ABlk.box (bxV b).cells])++[ABlk.box (ze c r).cells]) (.tup [w,.nili]) ((H++[ABlk.box (bxV b).cells])++[ABlk.box (ze c r).cells]):=by rw [h1] at hc;exact hc
 unfold zcj;rw [zWl (fun h=>h h1)];obtain ⟨hb2,hf2⟩:=zO3 hw H.length;by_cases h2:200<R.2.length
 ·rw [zoQ h2];have hn:=fun H=>hN w R.2 H hw.of h2;clear hF hN;show EW _ _ _ _ _ _;refine zAV (x:=bxV b) rfl<|zAV (x:=ze c r) rfl<|sW ?_
  exact zGx (v1:=.lst (some true) 0 []) (v2:=zFo 4) rfl rfl rfl rfl rfl rfl hO ⟨rfl,.lst (some true) 0 [],rfl,zTY⟩
 ·rw [zWl h2];have hn:=fun H=>hF w R.2 H hw.of tO;clear hF hN;show EW _ _ _ _ _ _;refine zAV (x:=bxV b) rfl<|zAV (x:=ze c r) rfl<|sW ?_
  exact zGx (v1:=w) (v2:=.nili) rfl rfl rfl rfl (zJZ (hf2 _) fun _=>rfl) (by simp only [AV.bel,AV.belL,hb2,zoK]) hO ⟨rfl,w,by rw [h1];rfl,hw⟩
theorem zll (hG:GcH C) (hB:∀ b H,C zFR [bxV b] H (.bool b.ok) H) (hC:CopH C) (hF:FuO C) (hN:FuN C) (lv:AV) (l:List Fil) (hl:ShV lv l) (b:Bx) (H:Heap):zDv C GT zlP [lv,bxV b] H (CopQ (zlM b l) H):=by
 have hg:=fun H=>hG lv l H (hl.view H);have hb0:=hB b;unfold zlM;by_cases h0:zDj l=0
 case neg=>
  rw [zoQ h0];rw [zfs h0] at hg;clear hG hC hF hN hB hb0;show EW _ _ _ _ _ _;refine zAV (x:=bxV b) rfl<|sW ?_
  exact zGx (v1:=.lst (some true) 0 []) (v2:=zFo (zDj l:Nat)) rfl rfl rfl rfl rfl rfl hO ⟨rfl,.lst (some true) 0 [],by rw [zfs h0],zTY⟩
 rw [zWl (fun h=>h h0)];have hgd:=zWQ h0;rw [h0] at hg;have hg:∀ H,C zEe [lv] H .nili H:=hg;cases hok:b.ok with
 |false=>
  rw [hok] at hb0;clear hG hC hF hN hB;show EW _ _ _ _ _ _;refine zAV (x:=bxV b) rfl<|sW ?_
  exact zGx (v1:=.lst (some true) 0 []) (v2:=zFo 1) rfl rfl rfl rfl rfl rfl hO ⟨rfl,.lst (some true) 0 [],rfl,zTY⟩
 |true=>
  rw [hok] at hb0;rw [zWl zS_];have hbk:=zO2 hok;obtain ⟨fo,f26⟩:=zlV hok;have hl200:=hgd.len;have htx:∀ f∈l,zBV f.text=0:=fun f hf=>zWY (hgd.each f hf).1;have hsr:=hgd.srt;obtain ⟨n,hn⟩:∃ n,(b.r1-b.r0).toNat=n:=⟨_,rfl⟩;have hrl:(zlQ b).length=n:=by unfold zlQ;rw [zoU,znV,hn]
  have hrg:∀ i,i<n->(zlQ b)[i]?=some (b.r0+1+(i:Int)):=fun i h=>by unfold zlQ;rw [zoX,zmb tO];rfl
  have hn98:n<=98:=by omega
  obtain ⟨rs,hrs⟩:∃ rs,zlQ b=rs:=⟨_,rfl⟩;rw [hrs] at hrl hrg ⊢;obtain ⟨R,hR⟩:∃ R,zlS b l rs l=R:=⟨_,rfl⟩;rw [hR];clear hG hB;show EW _ _ _ _ _ _;refine zAV (x:=bxV b) rfl ?_;have w0:IntKind.i64.wrap (b.r0+1)=b.r0+1+((0:Nat):Int):=by rw [IntKind.wrap_i64];omega
  refine sW ?_;refine sS (bxV (zly b)) (AV.cells (bxV (zly b))) ?_;refine sW ?_;refine zCl w0 ?_;obtain ⟨b7,hb7⟩:∃ b7,(H++[ABlk.box (bxV b).cells]).length=b7:=⟨_,rfl⟩;obtain ⟨Hs,hHs⟩:∃ Hs,List.set (H++[ABlk.box (bxV b).cells]++[ABlk.box zV9]) (H++[ABlk.box (bxV b).cells]).length (ABlk.box (bxV (zly b)).cells)=Hs:=⟨_,rfl⟩;have hOs:Old H Hs:=hHs ▸ ((Old.refl H).push _).pushSet _ _;have g3:Hs[H.length]?=some (.box (bxV b).cells):=hHs ▸ zFB ((Old.refl _).pushSet _ _) zB;have g7:Hs[b7]?=some (.box (bxV (zly b)).cells):=hHs ▸ hb7 ▸ zS zB;rw [hHs,hb7];clear hHs hb7;refine zAr (fun x:Nat×AV×List Fil=>[(9,zK (b.r0+1+(x.1:Int))),(3,.ref H.length 0 0 0),(7,.ref b7 0 0 0),(0,lv),(8,x.2.1)]) (fun x H'=>Old Hs H'/\x.1<=n/\ShV x.2.1 x.2.2/\Srtd x.2.2/\x.2.2.length<=200+x.1*26/\zlS b l (rs.drop x.1) x.2.2=R) (fun x=>n-x.1) (0,lv,l) rfl ⟨Old.refl _,by simp,hl,hsr,by simp only;omega,hR⟩ (fun x H1 hi=>?_);obtain ⟨i,w,m⟩:=x;obtain ⟨hO,hi,hw,hm2,hml,hput⟩:=hi;dsimp only at hi hw hm2 hml hput ⊢;have k3:H1[H.length]?=some (.box (bxV b).cells):=zFB hO g3;have k7:H1[b7]?=some (.box (bxV (zly b)).cells):=zFB hO g7;have hOH:Old H H1:=hOs.trans hO;obtain ⟨hb1,hf1⟩:=zO3 hw H.length;by_cases hlt:i<n
  case neg=>
   have e:i=n:=by omega
   subst e;rw [<-hrl,znd] at hput;rw [show zlS b l [] m=(0,m) from rfl] at hput;rw [<-hput];unfold zcj;rw [zWl (fun h=>h rfl)];by_cases h2:200<m.length
   ·rw [zoQ h2];have hn:=fun H=>hN w m H hw.of h2;clear hF hN hC;refine sW ?_;exact zGx (v1:=.lst (some true) 0 []) (v2:=zFo 4) rfl rfl rfl rfl rfl rfl hOH ⟨rfl,.lst (some true) 0 [],rfl,zTY⟩
   ·rw [zWl h2];have hn:=fun H=>hF w m H hw.of tO;clear hF hN hC;refine sW ?_;exact zGx (v1:=w) (v2:=.nili) rfl rfl rfl rfl (zJZ (hf1 _) fun _=>rfl) (by simp only [AV.bel,AV.belL,hb1,zoK]) hOH ⟨rfl,w,rfl,hw⟩
  have hri:=hrg i hlt;have hdr:rs.drop i=(b.r0+1+(i:Int))::rs.drop (i+1):=by rw [zmF tO,(zg hri).2]
  rw [hdr,zlT] at hput;obtain ⟨w2,hw2,hc⟩:=hC w lv m l (zly b) b.c0 (b.r0+1+(i:Int)) H1 hw hl hsr tO htx hm2 (fun _=>by omega);have hgr:=zlZ (b:=zly b) (c:=b.c0) (r:=b.r0+1+(i:Int)) (s:=l) (l:=m) f26;have hsr2:=zla (b:=zly b) (c:=b.c0) (r:=b.r0+1+(i:Int)) (s:=l) hm2;obtain ⟨X,hX⟩:∃ X,zYU (zly b) b.c0 (b.r0+1+(i:Int)) l m=X:=⟨_,rfl⟩;rw [hX] at hw2 hc hput hgr hsr2;clear hX hC hF hN hdr hri;have w1:IntKind.i64.wrap (b.r0+1+(i:Int)+1)=b.r0+1+((i+1:Nat):Int):=by rw [IntKind.wrap_i64];omega
  by_cases hx:X.1=0
  case neg=>
   rw [zoQ hx] at hput;rw [zfs hx] at hc;rw [<-hput];unfold zcj;rw [zoQ hx];refine sW ?_;exact zGx (v1:=.lst (some true) 0 []) (v2:=zFo (X.1:Nat)) rfl rfl rfl rfl rfl rfl hOH ⟨rfl,.lst (some true) 0 [],by rw [zfs hx],zTY⟩
  rw [zWl (fun h=>h hx)] at hput;have hc:C zFu [w,lv,bxV (zly b),ze b.c0 (b.r0+1+(i:Int))] H1 (.tup [w2,.nili]) H1:=by rw [hx] at hc;exact hc
  refine sW ?_;refine zCl w1 ?_;exact zAJ (i+1,w2,X.2) rfl ⟨hO,by simp only;omega,hw2,hsr2,by simp only;omega,hput⟩ (by simp only;omega)
theorem zig (lv:AV) (l:List Fil) (H:Heap) (hlv:zCS lv 3 (l.map zf)) (hs:Srtd l) (hl:l.length<=1000) (c r:Int):EFun C GT zKC [lv,ze c r] H (.str (zCA l (c,r))) H:=by
 have hlm:(l.map zf).length=l.length:=zoU _;refine zH ?_;refine zAV (x:=ze c r) rfl ?_;have hb0:(H++[ABlk.box (ze c r).cells])[H.length]?=some (.box (ze c r).cells):=zB;have hO:Old H (H++[ABlk.box (ze c r).cells]):=(Old.refl H).push _;generalize H++[ABlk.box (ze c r).cells]=H1 at *;refine zAr (fun i:Nat=>[(5,zL i),(0,lv),(3,.ref H.length 0 0 0)]) (fun i H'=>H'=H1/\i<=l.length/\∀ f∈l.take i,zO8 f≠(c,r)) (fun i=>l.length-i) 0 rfl ⟨rfl,by omega,by simp⟩ (fun i H2 hi=>?_);obtain ⟨hH,hi,hno⟩:=hi;subst hH;dsimp only;by_cases hlt:i<l.length
 ·obtain ⟨f,hf⟩:∃ f,l[i]?=some f:=⟨_,zoO hlt⟩;have hfm:(l.map zf)[i]?=some (zf f):=by rw [zoX,hf];rfl
  by_cases e:zO8 f=(c,r)
  ·have ht:=zYJ hs (zoc hf);rw [e] at ht;have e1:f.col=c:=zod Prod.fst e;have e2:f.row=r:=zod Prod.snd e;have ex:zL9 false (f.col==c&&(f.row==r&&true))=true:=by rw [e1,e2];simp [zL9]
   rw [ht];refine zAk l.length hlv hlm ?_;refine zt tT ?_;refine zBg i (zf f) hlv rfl hfm ?_;refine z8 (ze f.col f.row) rfl ?_;refine zA (ze c r) hb0 rfl ?_;refine za rfl ?_;refine zt ex ?_;refine zBg i (zf f) hlv rfl hfm ?_;refine z8 (.str f.text) rfl ?_;exact zAQ rfl rfl rfl rfl hO
  ·have ex:zL9 false (f.col==c&&(f.row==r&&true))=false:=by
    cases hx:(f.col==c&&(f.row==r&&true)) with
    |false=>rfl
    |true=>simp at hx;exact absurd (Prod.ext hx.1 hx.2) e
   refine zAk l.length hlv hlm ?_;refine zt tT ?_;refine zBg i (zf f) hlv rfl hfm ?_;refine z8 (ze f.col f.row) rfl ?_;refine zA (ze c r) hb0 rfl ?_;refine za rfl ?_;refine zc ex ?_;refine zQ (r:=i+1) rfl tO ?_;refine zAJ (i+1) rfl ⟨rfl,by omega,fun g hg=>?_⟩ tO;rw [znw,hf,zmm] at hg;rcases hg with hg|hg
   ·exact hno g hg
   ·simp at hg;rw [hg];exact e
 ·have he:l.take i=l:=zox tO;rw [he] at hno;rw [zcF fun k=>by obtain ⟨f,hf,e⟩:=zmf.1 k;exact hno f hf e];refine zAk l.length hlv hlm ?_;refine zc tF ?_;exact zAQ rfl rfl rfl rfl hO
abbrev ShH (C:CSpec):Prop:=∀ (r:RefP),okR r->∀ (cols rows:Int),-26<=cols/\cols<=26->-99<=rows/\rows<=99->∀ H,C zGA [rV r,zK cols,zK rows] H (.tup [rV ((inR (zLu cols rows r)).getD noRef),.bool (inR (zLu cols rows r)).isSome]) H
theorem zft (hS:ShH C) (r:RefP) (h:okR r) (row:Bool) (at_ many cols rows:Int) (bx:Bx) (hc:-26<=cols/\cols<=26) (hr:-99<=rows/\rows<=99) (H:Heap) :
  EFun C GT zIX [ccV 1 row at_ many cols rows bx,rV r] H (.tup [rV ((inR (zLu cols rows r)).getD noRef),.bool (inR (zLu cols rows r)).isSome]) H:=by
 have hs:=hS r h cols rows hc hr;clear hS;obtain ⟨x,hx⟩:∃ x,(inR (zLu cols rows r)).getD noRef=x:=⟨_,rfl⟩;obtain ⟨y,hy⟩:∃ y,(inR (zLu cols rows r)).isSome=y:=⟨_,rfl⟩;rw [hx,hy] at hs ⊢;refine zH<|zAV (x:=ccV 1 row at_ many cols rows bx) rfl<|zAV (x:=rV r) rfl ?_;refine sW ?_;refine sS (rV x) (AV.cells (rV x)) ?_
 exact zj (o:=0) rfl rfl (zJ (zS zB)) rfl rfl rfl rfl hO
theorem zk7 (hB:∀ b H,C zEg [bxV b] H (.bool b.ok) H) (hI:InH C) (b:Bx) (c r:Int) (H:Heap):EFun C GT zLN [bxV b,ze c r] H (.bool (zL1 b c r)) H:=by
 have h1:=hB b;have h2:=hI c r;clear hB hI;unfold zL1;cases e1:b.ok with
 |false=>
  rw [e1] at h1;simp only [zmW];cases e2:okC c r with
  |false=>
   rw [e2] at h2;refine zH<|zAV (x:=bxV b) rfl<|zAV (x:=ze c r) rfl<|sW ?_
   exact sRv
  |true=>
   rw [e2] at h2;refine zH<|zAV (x:=bxV b) rfl<|zAV (x:=ze c r) rfl<|sW ?_
   exact sRv
 |true=>
  rw [e1] at h1;simp only [zmN];cases e2:okC c r with
  |false=>
   rw [e2] at h2;simp only [zmW];refine zH<|zAV (x:=bxV b) rfl<|zAV (x:=ze c r) rfl<|sW ?_
   exact sRv
  |true=>
   rw [e2] at h2;simp only [zmN];have hb:=zO2 e1;have ho:=(zHI c r).1 e2;have w1:IntKind.i64.wrap (c+b.c1)=c+b.c1:=by rw [IntKind.wrap_i64];omega
   have w2:IntKind.i64.wrap (c+b.c1-b.c0)=c+b.c1-b.c0:=by rw [IntKind.wrap_i64];omega
   have w3:IntKind.i64.wrap (r+b.r1)=r+b.r1:=by rw [IntKind.wrap_i64];omega
   have w4:IntKind.i64.wrap (r+b.r1-b.r0)=r+b.r1-b.r0:=by rw [IntKind.wrap_i64];omega
   by_cases e3:c+b.c1-b.c0<=26
   ·rw [zoj e3,zmN];refine zH ?_;refine zAV (x:=bxV b) rfl ?_;refine zAV (x:=ze c r) rfl ?_;refine zA (bxV b) hP rfl ?_;refine zI (h1 _) ?_;refine zA (ze c r) hP rfl ?_;refine zI (h2 _) ?_;refine zD<|zD<|zD ?_;refine zA (zK c) hP rfl ?_;refine zA (zK b.c1) hP rfl ?_;refine zCl w1 ?_;refine zA (zK b.c0) hP rfl ?_;refine zCl w2 ?_;refine zD<|zt (zoj e3) ?_;refine zA (zK r) hP rfl ?_
    refine zA (zK b.r1) hP rfl ?_;refine zCl w3 ?_;refine zA (zK b.r0) hP rfl ?_;refine zCl w4 ?_;refine zD ?_;exact sRv
   ·rw [zop e3,zmW];refine zH ?_;refine zAV (x:=bxV b) rfl ?_;refine zAV (x:=ze c r) rfl ?_;refine zA (bxV b) hP rfl ?_;refine zI (h1 _) ?_;refine zA (ze c r) hP rfl ?_;refine zI (h2 _) ?_;refine zD<|zD<|zD ?_;refine zA (zK c) hP rfl ?_;refine zA (zK b.c1) hP rfl ?_;refine zCl w1 ?_;refine zA (zK b.c0) hP rfl ?_;refine zCl w2 ?_;refine zD<|zc (zop e3)<|zC ?_
    exact sRv
end
def PutQ (R:Nat×List Fil) (H:Heap) (x:AV) (H':Heap):Prop:=H'=H/\∃ v,x=.tup [v,zL R.1]/\ShV v R.2
section
variable {C:CSpec} {GT:zG_}
abbrev cmV (dc dr:Int):AV:=ccV 1 false 0 0 dc dr ⟨0,0,0,0⟩
abbrev RwM (C:CSpec) (dc dr:Int):Prop:=∀ t,zBV t=0->∀ H,C zBv [.str t,cmV dc dr] H (.tup [.str (zNd (zL0 dc dr) t).2,zL (zNd (zL0 dc dr) t).1]) H
abbrev TxH (C:CSpec):Prop:=∀ (lv:AV) (l:List Fil) (c r:Int) H,zCS lv 3 (l.map zf)->Srtd l->l.length<=1000->C zG5 [lv,ze c r] H (.str (zCA l (c,r))) H
abbrev RwiH (C:CSpec):Prop:=∀ (lv:AV) (l:List Fil) (c r:Int) (t:Bs) H,zCS lv 3 (l.map zf)->l.length<=3000->Srtd l->C zG6 [lv,ze c r,.str t] H (zJ7 3 ((zEc l c r t).map zf)) H
theorem zih (hCe:∀ b,b.ok=true->∀ H,C zF7 [bxV b] H (zJ7 2 ((zCB b).map cV)) H) (hT:TxH C) (hR:∀ b c r,zL1 b c r=true->RwM C (c-b.c0) (r-b.r0)) (hW:RwiH C)
  (v sv:AV) (l s:List Fil) (hv:ShV v l) (hsv:ShV sv s) (hs:Srtd s) (hsl:s.length<=1000) (hst:∀ f∈s,zBV f.text=0) (hl:Srtd l) (b:Bx) (c r:Int) (hm:zL1 b c r=true) (hll:l.length+(zCB b).length<=3000) (H:Heap) :
  zDv C GT zLO [v,sv,bxV b,ze c r] H (PutQ (zYU b c r s l) H):=by
 have hR:=hR b c r hm;have hbo:b.ok=true:=by unfold zL1 at hm;rw [zTo] at hm;exact hm.1
 have hto:okC c r=true:=by unfold zL1 at hm;rw [zTo,zTo] at hm;exact hm.2.1
 have hbk:=zO2 hbo;have htk:=(zHI c r).1 hto;have hce:=hCe b hbo;have hmem:=fun p (hp:p∈zCB b)=>zMZ hbo hp;unfold zYU;rw [zoQ hm];obtain ⟨L,hL⟩:∃ L,zCB b=L:=⟨_,rfl⟩;rw [hL] at hce hll hmem ⊢;have hLm:(L.map cV).length=L.length:=zoU _;obtain ⟨lv,hlv⟩:∃ lv,zJ7 2 (L.map cV)=lv:=⟨_,rfl⟩;have hlO:zCS lv 2 (L.map cV):=hlv ▸ zQs _ _;rw [hlv] at hce;have hg:=fun (p:Int×Int) (H:Heap)=>hT sv s p.1 p.2 H hsv.of hs hsl;have w1:IntKind.i64.wrap (c-b.c0)=c-b.c0:=by rw [IntKind.wrap_i64];omega
 have w3:IntKind.i64.wrap (r-b.r0)=r-b.r0:=by rw [IntKind.wrap_i64];omega
 clear hT hCe;obtain ⟨dc,hdc⟩:∃ dc,c-b.c0=dc:=⟨_,rfl⟩;obtain ⟨dr,hdr⟩:∃ dr,r-b.r0=dr:=⟨_,rfl⟩;rw [hdc] at hR ⊢;rw [hdr] at hR ⊢;have w1:IntKind.i64.wrap (c-b.c0)=dc:=by rw [w1,hdc]
 have w3:IntKind.i64.wrap (r-b.r0)=dr:=by rw [w3,hdr]
 show EW _ _ _ _ _ _;refine zAV (x:=bxV b) rfl ?_;refine zAV (x:=ze c r) rfl ?_;refine zA (zK c) hP rfl ?_;refine zA (zK b.c0) hP rfl ?_;refine zCl w1 ?_;refine zA (zK r) hP rfl ?_;refine zA (zK b.r0) hP rfl ?_;refine zCl w3 ?_;refine za (v:=[.int .i64 1,.bool false,.int .i64 0,.int .i64 0,.int .i64 dc,.int .i64 dr,.int .i64 0,.int .i64 0,.int .i64 0,.int .i64 0]) rfl ?_;refine zM (v:=cmV dc dr) (AV.cells (cmV dc dr)) hP rfl rfl rfl rfl ?_;refine zA (bxV b) hP rfl ?_;refine zI (hce _) ?_;obtain ⟨b10,hb10⟩:∃ b10,(H++[ABlk.box (bxV b).cells]++[ABlk.box (ze c r).cells]).length=b10:=⟨_,rfl⟩;obtain ⟨Hs,hHs⟩:∃ Hs,List.set (H++[ABlk.box (bxV b).cells]++[ABlk.box (ze c r).cells]++[ABlk.box [.int .i64 0,.bool false,.int .i64 0,.int .i64 0,.int .i64 0,.int .i64 0,.int .i64 0,.int .i64 0,.int .i64 0,.int .i64 0]]) (H++[ABlk.box (bxV b).cells]++[ABlk.box (ze c r).cells]).length (ABlk.box (cmV dc dr).cells)=Hs:=⟨_,rfl⟩;have hOs:Old H Hs:=hHs ▸ (((Old.refl H).push _).push _).pushSet _ _;have g10:Hs[b10]?=some (.box (cmV dc dr).cells):=hHs ▸ hb10 ▸ zS zB;rw [hHs,hb10];clear hHs hb10 hce;refine zAr (fun x:Nat×AV×List Fil=>[(12,zL x.1),(10,.ref b10 0 0 0),(11,lv),(0,x.2.1),(1,sv)]) (fun x H'=>Old Hs H'/\x.1<=L.length/\ShV x.2.1 x.2.2/\Srtd x.2.2/\x.2.2.length<=l.length+x.1/\zcv dc dr s (L.drop x.1) x.2.2=zcv dc dr s L l) (fun x=>L.length-x.1) (0,v,l) rfl ⟨Old.refl _,by simp,hv,hl,by simp,rfl⟩ (fun x H1 hi=>?_);obtain ⟨i,w,m⟩:=x;obtain ⟨hO,hi,hw,hm2,hml,hput⟩:=hi
 dsimp only at hi hw hm2 hml hput ⊢;have k10:H1[b10]?=some (.box (cmV dc dr).cells):=zFB hO g10;have hOH:Old H H1:=hOs.trans hO;refine zAk L.length hlO hLm ?_;by_cases hlt:i<L.length
 case neg=>
  have e:i=L.length:=by omega
  subst e;rw [znd] at hput;obtain ⟨hb1,hf1⟩:=zO3 hw H.length;rw [show zcv dc dr s [] m=(0,m) from rfl] at hput;rw [<-hput];refine zc tF ?_;exact zGx (v1:=w) (v2:=zL 0) rfl rfl rfl rfl (zJZ (hf1 _) fun _=>rfl) (by simp only [AV.bel,AV.belL,hb1,zoK,zL]) hOH ⟨rfl,w,rfl,hw⟩
 obtain ⟨p,hp⟩:∃ p,L[i]?=some p:=⟨_,zoO hlt⟩;have hpm:(L.map cV)[i]?=some (cV p):=by rw [zoX,hp];rfl
 have hpb:=hmem p (zoc hp);have hgp:=hg p;have hdr2:L.drop i=p::L.drop (i+1):=by rw [zmF hlt,(zg hp).2]
 rw [hdr2,zTX] at hput;have hRt:=hR (zCA s p) (zWX hst p);obtain ⟨q,hq⟩:∃ q,zNd (zL0 dc dr) (zCA s p)=q:=⟨_,rfl⟩;rw [hq] at hRt hput;have w5:IntKind.i64.wrap (p.1+dc)=p.1+dc:=by rw [IntKind.wrap_i64];omega
 have w6:IntKind.i64.wrap (p.2+dr)=p.2+dr:=by rw [IntKind.wrap_i64];omega
 clear hR hg hdr2;have hWc:=fun H=>hW w m (p.1+dc) (p.2+dr) q.2 H hw.of tO hm2;clear hW;refine zt tT ?_;refine zBg i (cV p) hlO rfl hpm ?_;refine z8 (cV p) rfl ?_;by_cases hq0:q.1=0
 case neg=>
  rw [zoQ hq0] at hput;refine zI (hgp _) ?_;refine zA (cmV dc dr) k10 rfl ?_;refine zI (hRt _) ?_;refine za rfl ?_;refine za rfl ?_;refine zt (zo0.2 tO) ?_;rw [<-hput];exact zGx (v1:=.lst (some true) 0 []) (v2:=zL q.1) rfl rfl rfl rfl rfl rfl hOH ⟨rfl,.lst (some true) 0 [],rfl,zTY⟩
 rw [zWl (fun h=>h hq0)] at hput;rw [hq0] at hRt;have hRt:∀ H,C zBv [.str (zCA s p),cmV dc dr] H (.tup [.str q.2,zL 0]) H:=hRt;refine zI (hgp _) ?_;refine zA (cmV dc dr) k10 rfl ?_;refine zI (hRt _) ?_;refine za rfl ?_;refine za rfl ?_;refine zc (zog.2 rfl) ?_;refine zBg i (cV p) hlO rfl hpm ?_;refine z8 (zK p.1) rfl ?_;refine zA (zK dc) k10 rfl ?_;refine zCl w5 ?_;refine zBg i (cV p) hlO rfl hpm ?_;refine z8 (zK p.2) rfl ?_;refine zA (zK dr) k10 rfl ?_;refine zCl w6 ?_;refine za (v:=[.int .i64 (p.fst+dc),.int .i64 (p.snd+dr)]) rfl ?_;refine zI (hWc _) ?_;refine zQ (r:=i+1) rfl tO ?_;exact zAJ (i+1,_,zEc m (p.1+dc) (p.2+dr) q.2) rfl ⟨hO,by simp only;omega,zfr _,zQX hm2 _ _ _,by have:=zQc m (p.1+dc) (p.2+dr) q.2;simp only;omega,hput⟩ (by simp only;omega)
end
abbrev PuH (C:CSpec):Prop:=∀ (v sv:AV) (l s:List Fil) (b:Bx) (c r:Int) H,ShV v l->ShV sv s->Srtd s->s.length<=1000->(∀ f∈s,zBV f.text=0)->Srtd l->zL1 b c r=true->l.length+(zCB b).length<=3000->∃ w,ShV w (zYU b c r s l).2/\C zFt [v,sv,bxV b,ze c r] H (.tup [w,zL (zYU b c r s l).1]) H
abbrev RckH (C:CSpec):Prop:=∀ lv (l:List Fil) H,view H 3 lv=some (l.map zf)->C zCY [lv] H (zL (zDj l)) H
abbrev MaH (C:CSpec):Prop:=∀ (v v':AV) (l:List Fil) (n:Nat) H,view H 3 v=some (l.map zf)->view H 3 v'=some (l.map zf)->l.length<=1000000->C zG3 [v,eV n,v',zL n] H (.bool true) H
theorem zgQ {n:Nat} (h:n≠0):(((n:Nat):Int) != 0)=true:=zo0.2 tO
section
variable {C:CSpec} {GT:zG_}
theorem zfu (hG:RckH C) (hM:∀ b c r H,C zHz [bxV b,ze c r] H (.bool (zL1 b c r)) H) (hP:PuH C) (lv:AV) (l:List Fil) (hl:ShV lv l) (b:Bx) (c r:Int) (H:Heap):zDv C GT zJ8 [lv,bxV b,ze c r] H (PutQ (zJ4 b c r l) H):=by
 have hg:=fun H=>hG lv l H (hl.view H);have hm0:=hM b c r;unfold zJ4;by_cases h0:zDj l=0
 case neg=>
  rw [zoQ h0];have hne:=zgQ h0;clear hG hM hP hm0;show EW _ _ _ _ _ _;refine zAV (x:=bxV b) rfl<|zAV (x:=ze c r) rfl<|sW ?_
  exact zGx (v1:=.lst (some true) 0 []) (v2:=zL (zDj l)) rfl rfl rfl rfl rfl rfl hO ⟨rfl,.lst (some true) 0 [],rfl,zTY⟩
 rw [zWl (fun h=>h h0)];have hgd:=zWQ h0;rw [h0] at hg;cases hm:zL1 b c r with
 |false=>
  rw [hm] at hm0;have e:zYU b c r l l=(1,[]):=by unfold zYU;rw [zWl (by rw [hm];simp)]
  rw [e];clear hG hM hP;show EW _ _ _ _ _ _;refine zAV (x:=bxV b) rfl<|zAV (x:=ze c r) rfl<|sW ?_
  exact zGx (v1:=.lst (some true) 0 []) (v2:=zL 1) rfl rfl rfl rfl rfl rfl hO ⟨rfl,.lst (some true) 0 [],rfl,zTY⟩
 |true=>
  rw [hm] at hm0;have hbo:b.ok=true:=by unfold zL1 at hm;rw [zTo] at hm;exact hm.1
  obtain ⟨w,hw,hc⟩:=hP lv lv l l b c r ((H++[ABlk.box (bxV b).cells])++[ABlk.box (ze c r).cells]) hl hl hgd.srt (by have:=hgd.len;omega) (fun f hf=>zWY (hgd.each f hf).1) hgd.srt hm (by have:=zHq hbo;have:=hgd.len;omega);clear hG hM hP;obtain ⟨R,hR⟩:∃ R,zYU b c r l l=R:=⟨_,rfl⟩;rw [hR] at hw hc ⊢;clear hR;obtain ⟨hb2,hf2⟩:=zO3 hw H.length;have hwm:(R.2.map zf).length=R.2.length:=zoU _;unfold zcj;by_cases h1:R.1=0
  case neg=>
   rw [zoQ h1];have hne:=zgQ h1;have hn0:(((R.1:Nat):Int)==0)=false:=tN;show EW _ _ _ _ _ _;refine zAV (x:=bxV b) rfl<|zAV (x:=ze c r) rfl<|sW ?_
   exact zGx (v1:=.lst (some true) 0 []) (v2:=zL R.1) rfl rfl rfl rfl rfl rfl hO ⟨rfl,.lst (some true) 0 [],rfl,zTY⟩
  rw [zWl (fun h=>h h1)];have hc:C zFt [lv,lv,bxV b,ze c r] ((H++[ABlk.box (bxV b).cells])++[ABlk.box (ze c r).cells]) (.tup [w,zL 0]) ((H++[ABlk.box (bxV b).cells])++[ABlk.box (ze c r).cells]):=by rw [h1] at hc;exact hc
  by_cases h2:200<R.2.length
  ·rw [zoQ h2];show EW _ _ _ _ _ _;refine zAV (x:=bxV b) rfl ?_;refine zAV (x:=ze c r) rfl ?_;refine zI (hg _) ?_;refine zc (zog.2 rfl) ?_;refine zA (bxV b) hP rfl ?_;refine zA (ze c r) hP rfl ?_;refine zI (hm0 _) ?_;refine zC ?_;refine zA (bxV b) hP rfl ?_;refine zA (ze c r) hP rfl ?_;refine zI hc ?_;refine za rfl ?_;refine za rfl ?_;refine zt tT ?_;refine zAk R.2.length hw.of hwm ?_;refine zD<|zt tT<|zt (zo0.2 zD_) ?_
   exact zGx (v1:=.lst (some true) 0 []) (v2:=zL 4) rfl rfl rfl rfl rfl rfl hO ⟨rfl,.lst (some true) 0 [],rfl,zTY⟩
  ·rw [zWl h2];show EW _ _ _ _ _ _;refine zAV (x:=bxV b) rfl<|zAV (x:=ze c r) rfl<|sW ?_;refine zAk R.2.length hw.of hwm<|sW ?_
   exact zGx (v1:=w) (v2:=zL 0) rfl rfl rfl rfl (zJZ (hf2 _) fun _=>rfl) (by simp only [AV.bel,AV.belL,hb2,zoK,zL]) hO ⟨rfl,w,by rw [h1],hw⟩
theorem zck (b:Bx) (c r:Int) (l:List Fil):(zJ4 b c r l).2.length<=1000000:=by
 unfold zJ4 zcj;split
 ·simp
 ·split
  ·simp
  ·split
   ·simp
   ·omega
theorem zcl (hR:∀ lv (l:List Fil) b c r H,ShV lv l->∃ w,ShV w (zJ4 b c r l).2/\C zFH [lv,bxV b,ze c r] H (.tup [w,zL (zJ4 b c r l).1]) H) (hC:∀ lv (l:List Fil) b c r H,ShV lv l->∃ w,ShV w (zJ4 b c r l).2/\C zHy [lv,bxV b,ze c r] H (.tup [w,eV (zJ4 b c r l).1]) H)
  (hM:MaH C) (lv:AV) (l:List Fil) (hl:ShV lv l) (b:Bx) (c r:Int) (H:Heap):EFun C GT zFk [lv,bxV b,ze c r] H (.bool true) H:=by
 obtain ⟨w,hw,h1⟩:=hR lv l b c r ((H++[ABlk.box (bxV b).cells])++[ABlk.box (ze c r).cells]) hl;obtain ⟨u,hu,h2⟩:=hC lv l b c r ((H++[ABlk.box (bxV b).cells])++[ABlk.box (ze c r).cells]) hl;have h3:=fun H=>hM u w (zJ4 b c r l).2 (zJ4 b c r l).1 H (hu.view H) (hw.view H) (zck b c r l);clear hR hC hM;refine zH<|zAV (x:=bxV b) rfl<|zAV (x:=ze c r) rfl<|sW ?_
 exact sRv
end
end Go.AM
