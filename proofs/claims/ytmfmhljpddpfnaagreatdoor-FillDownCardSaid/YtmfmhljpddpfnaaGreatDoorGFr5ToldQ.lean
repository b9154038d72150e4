/- Several texts of mine in one (Fr5, Fp4, Fr6, Fr7, Fm, ToldQ). Own work. -/
import Derived.Test.YtmfmhljpddpfnaaGreatDoorGFp0Bg0
import Derived.Test.YtmfmhljpddpfnaaGreatDoorGFp2Fr4
import Derived.Test.YtmfmhljpddpfnaaGreatDoorAsQ
import Derived.Lib.LaidTab
import Derived.Shelf.Strconv.Itoa3
import Derived.Test.YtmfmhljpddpfnaaGreatDoorLk
import Derived.Test.YtmfmhljpddpfnaaGreatDoorGAm23Am35
set_option maxRecDepth 100000
set_option linter.all false
namespace Go.AM
theorem zXZ (s:Bs) (q:Ps) (p d:Nat):zB8 s q (skip s p) d=zB8 s q p d:=by unfold zB8;rw [zLg]
theorem zZr {s:Bs} {p d:Nat} (h:s[p]?=some 45):zB8 s (P s) p d=if d=30 then none else ((P s).one (p+1) (d+1)).map fun q=>(zl1 q.1,q.2):=by
 have hs:skip s p=p:=zDg (by rw [h];simp);have ht:=zHn (s:=s) (p:=p) (c:=45) (by rw [hs];exact h) zD_;rw [hs] at ht;unfold zB8;rw [ht];rfl
def zf6 (s:Bs) (p d:Nat):Option (Nd×Nat):=match zDw s p with
 |some r=>r
 |none=>bl s ((P s).loose 1 p d)
theorem sub_self (s:Bs) (a:Nat):sub s a a=[]:=by unfold sub;rw [Nat.sub_self];rfl
theorem zVj:zE8 []=none:=rfl
theorem zju (s:Bs) (p:Nat):zDw s p=match zE8 (sub s (skip s p) (zlz s (skip s p))) with
  |some r=>if s[zlz s (skip s p)]?=some 58 then some ((zE8 (sub s (zlz s (skip s p)+1) (zlz s (zlz s (skip s p)+1)))).map fun r2=>(zAy r r2,zlz s (zlz s (skip s p)+1))) else none
  |none=>none:=by
 unfold zDw;by_cases hw:∃ c,s[skip s p]?=some c/\zh c=true
 ·obtain ⟨c,hc,hw⟩:=hw;have ht:tok s p=.word (zlz s (skip s p)) (sub s (skip s p) (zlz s (skip s p))):=by rw [<-zLg];exact zVi hc hw
  rw [ht];simp only;cases zE8 (sub s (skip s p) (zlz s (skip s p))) with
  |none=>rfl
  |some r=>
   simp only;generalize zlz s (skip s p)=e;by_cases h58:s[e]?=some 58
   ·rw [zoQ h58,zoQ h58];by_cases hw2:∃ c,s[e+1]?=some c/\zh c=true
    ·obtain ⟨c2,hc2,hw2⟩:=hw2;have ht2:zBi s (e+1)=.word (zlz s (e+1)) (sub s (e+1) (zlz s (e+1))):=by
      unfold zBi;rw [hc2];simp only [hw2,zoz]
     rw [ht2]
    ·have hst:zlz s (e+1)=e+1:=zHk fun c h=>zmI.2 fun x=>hw2 ⟨c,h,x⟩;rw [hst,sub_self,zVj];unfold zBi;split
     ·rename_i heq;split at heq
      ·cases heq
      ·rename_i c2 hc2;rw [zWl (fun x=>hw2 ⟨c2,hc2,x⟩)] at heq;split at heq
       ·split at heq <;> cases heq
       ·split at heq
        ·split at heq <;> cases heq
        ·split at heq
         ·split at heq <;> cases heq
         ·cases heq
     ·rfl
   ·rw [zWl h58,zWl h58]
 ·have hst:zlz s (skip s p)=skip s p:=zHk fun c h=>zmI.2 fun x=>hw ⟨c,h,x⟩;rw [hst,sub_self,zVj];simp only;split
  ·rename_i e t heq;exfalso;unfold tok zBi at heq;split at heq
   ·cases heq
   ·rename_i c2 hc2;rw [zWl (fun x=>hw ⟨c2,hc2,x⟩)] at heq;split at heq
    ·split at heq <;> cases heq
    ·split at heq
     ·split at heq <;> cases heq
     ·split at heq
      ·split at heq <;> cases heq
      ·cases heq
  ·rfl
section
variable {C:CSpec} {GT:zG_}
theorem zjv (hB:∀ b s p d H,H[b]?=some (rdB s p d)->p<=s.length->s.length<=200->C zn [pR b] H (.tup []) (H.set b (rdB s (skip s p) d)))
  (hWi:∀ f caps a b s p d H r,H[b]?=some (rdB s p d)->d<=1000->(∀ H',H'[b]?=some (rdB s p (d+1))->Off H b H'->CR C f caps H' b s (d+1) r)->CR C zAE [pR b,.int .i64 a,.fn f [] caps] H b s d (if d=30 then none else r))
  (b:Nat) (s:Bs) (p d:Nat) (H:Heap) (hb:H[b]?=some (rdB s p d)) (hp:p<=s.length) (hl:s.length<=200) (hd:d<=1000)
  (hNc:s[skip s p]?=some 45->∀ H' rb,H'[b]?=some (rdB s (skip s p) (d+1))->H'[rb]?=some (.box [pR b])->CR C zA5 [pR rb] H' b s (d+1) (((P s).one (skip s p+1) (d+1)).map fun q=>(zl1 q.1,q.2)))
  (hPr:s[skip s p]?≠some 45->∀ H',H'[b]?=some (rdB s (skip s p) d)->CR C zBP [pR b] H' b s d (zB8 s (P s) (skip s p) d)) :
  zCk C GT zDb [pR b] H b (wkC s) zHK (mkR s d ((P s).one p d)):=by
 have hbl:=zl_ hb;rw [zPZ d hp,<-zXZ];have hbk:=hB b s p d (H++[ABlk.box (pR b).cells]++[ABlk.box (ndC zU)]) (zG (zG hb)) hp hl;have hql:=zCO hp;generalize skip s p=q at *;by_cases h45:s[q]?=some 45
 ·have hlt:=zl_ h45;rw [zZr h45];have hnc:=hNc h45;have hw:=hWi zA5 [pR H.length] q b s q d ((H++[ABlk.box (pR b).cells]++[ABlk.box (ndC zU)]).set b (rdB s q d)) (((P s).one (q+1) (d+1)).map fun q=>(zl1 q.1,q.2)) (zS (zG (zG hb))) hd (fun H' h1 ho=>hnc H' H.length h1 (ho _ _ hP tO));clear hB hWi hNc hPr hnc;refine zAH ?_;cases hr:(if d=30 then none else ((P s).one (q+1) (d+1)).map fun q=>(zl1 q.1,q.2)) with
  |none=>
   rw [hr] at hw;have hw:=hw.2 rfl;have e:mkR s d none=none:=rfl;rw [e];refine sX ?_;refine zAz hw ?_;exact sP
  |some x=>
   obtain ⟨n,e⟩:=x;rw [hr] at hw;have hw:=hw.1 n e rfl;have e0:mkR s d (some (n,e))=some (ndV n,rdB s e d):=rfl;rw [e0];refine sX ?_;refine zCP hw<|sSA (ndV n) ?_
   exact zAC (o:=0) (ndV n) (by first|rfl|assumption) rfl rfl (zJ hP) rfl rfl rfl hO rfl
 ·have hpr:=hPr h45 ((H++[ABlk.box (pR b).cells]++[ABlk.box (ndC zU)]).set b (rdB s q d)) (zS (zG (zG hb)));clear hB hWi hNc hPr;generalize zB8 s (P s) q d=r at *;refine zAH ?_;by_cases hlt:q<s.length
  ·obtain ⟨c,hc⟩:∃ c,s[q]?=some c:=⟨_,zoO hlt⟩;have hn:c.toNat≠45:=fun e=>h45 (by rw [hc,show c=45 from zoi.1 e]);cases r with
   |none=>
    have hpr:=hpr.2 rfl;have e:mkR s d none=none:=rfl;rw [e];refine sX ?_;refine zAz hpr ?_;exact sP
   |some x=>
    obtain ⟨n,e⟩:=x;have hpr:=hpr.1 n e rfl;have e0:mkR s d (some (n,e))=some (ndV n,rdB s e d):=rfl;rw [e0];refine sX ?_;refine zCP hpr<|sSA (ndV n) ?_
    exact zAC (o:=0) (ndV n) (by first|rfl|assumption) rfl rfl (zJ hP) rfl rfl rfl hO rfl
  ·cases r with
   |none=>
    have hpr:=hpr.2 rfl;have e:mkR s d none=none:=rfl;rw [e];refine sX ?_;refine zAz hpr ?_;exact sP
   |some x=>
    obtain ⟨n,e⟩:=x;have hpr:=hpr.1 n e rfl;have e0:mkR s d (some (n,e))=some (ndV n,rdB s e d):=rfl;rw [e0];refine sX ?_;refine zCP hpr<|sSA (ndV n) ?_
    exact zAC (o:=0) (ndV n) (by first|rfl|assumption) rfl rfl (zJ hP) rfl rfl rfl hO rfl
theorem zjw (hB:∀ b s p d H,H[b]?=some (rdB s p d)->p<=s.length->s.length<=200->C zn [pR b] H (.tup []) (H.set b (rdB s (skip s p) d)))
  (hF:∀ b s p d a e H,H[b]?=some (rdB s p d)->C zo (.pan .undef::[pR b,.int .i64 a,zFo e]) H zHK (H.set b (.box (wkC s))))
  (hWo:∀ b s p d H,H[b]?=some (rdB s p d)->p<=s.length->s.length<=200->C zAa [pR b] H (.str (sub s p (zlz s p))) (H.set b (rdB s (zlz s p) d)))
  (hR:∀ s H,s.length<=1000->C zCG [.str s] H (zZf (zE8 s)) H)
  (b:Nat) (s:Bs) (p d:Nat) (H:Heap) (hb:H[b]?=some (rdB s p d)) (hp:p<=s.length) (hl:s.length<=200)
  (hT:∀ H',H'[b]?=some (rdB s (skip s p) d)->CR C zr [pR b,zK 0] H' b s d (bl s ((P s).loose 1 p d))) :
  zCk C GT zCD [pR b] H b (wkC s) zHK (mkR s d (zf6 s p d)):=by
 have hbl:=zl_ hb;unfold zf6;rw [zju];have hbk:=hB b s p d (H++[ABlk.box (ndC zU)]) (zG hb) hp hl;have hql:=zCO hp;generalize skip s p=q at *;have hwo:=fun H' h=>hWo b s q d H' h hql hl;have hel:=zJN hql;have htl:(sub s q (zlz s q)).length<=1000:=by rw [zMT hel];omega
 generalize zlz s q=e at *;have hrr:=fun H'=>hR (sub s q e) H' htl;have hTT:∃ r,bl s ((P s).loose 1 p d)=r:=⟨_,rfl⟩;obtain ⟨r0,hr0⟩:=hTT;rw [hr0] at hT;rw [hr0];generalize sub s q e=t at *;cases hrt:zE8 t with
 |none=>
  rw [hrt] at hrr;have hrr:∀ H',C zCG [.str t] H' (.tup [rV noRef,zFo 2]) H':=hrr;clear hB hF hWo hR;simp only;refine zAH ?_;cases r0 with
  |none=>
   have hT:=fun H' h=>(hT H' h).2 rfl;have e:mkR s d none=none:=rfl;rw [e];refine sX ?_;refine sSA (rV noRef) ?_;refine sX ?_;refine sS (zL q) [.str s,zL q,zL d] ?_;refine zAz (hT _ hP) ?_;exact sP
  |some x=>
   obtain ⟨n,e'⟩:=x;have hT:=fun H' h=>(hT H' h).1 n e' rfl;have e0:mkR s d (some (n,e'))=some (ndV n,rdB s e' d):=rfl;rw [e0];refine sX ?_;refine sSA (rV noRef) ?_;refine sX ?_;refine sS (zL q) [.str s,zL q,zL d] ?_;refine zCP (hT _ hP) ?_;refine sSA (ndV n) ?_;exact zAC (o:=0) (ndV n) (by first|rfl|assumption) rfl rfl (zJ hP) rfl rfl rfl hO rfl
 |some r=>
  rw [hrt] at hrr;have hrr:∀ H',C zCG [.str t] H' (.tup [rV r,.nili]) H':=hrr;simp only;by_cases h58:s[e]?=some 58
  case neg=>
   rw [zWl h58];clear hB hF hWo hR;simp only;refine zAH ?_;by_cases hlt:e<s.length
   ·obtain ⟨c,hc⟩:∃ c,s[e]?=some c:=⟨_,zoO hlt⟩;have hn:c.toNat≠58:=fun x=>h58 (by rw [hc,show c=58 from zoi.1 x]);cases r0 with
    |none=>
     have hT:=fun H' h=>(hT H' h).2 rfl;have e:mkR s d none=none:=rfl;rw [e];refine sX ?_;refine sSA (rV r) ?_;refine sX ?_;refine zt (zo0.2 tO) ?_;refine sS (zL q) [.str s,zL q,zL d] ?_;refine zAz (hT _ hP) ?_;exact sP
    |some x=>
     obtain ⟨n,e'⟩:=x;have hT:=fun H' h=>(hT H' h).1 n e' rfl;have e0:mkR s d (some (n,e'))=some (ndV n,rdB s e' d):=rfl;rw [e0];refine sX ?_;refine sSA (rV r) ?_;refine sX ?_;refine zt (zo0.2 tO) ?_;refine sS (zL q) [.str s,zL q,zL d] ?_;refine zCP (hT _ hP) ?_;refine sSA (ndV n) ?_;exact zAC (o:=0) (ndV n) (by first|rfl|assumption) rfl rfl (zJ hP) rfl rfl rfl hO rfl
   ·cases r0 with
    |none=>
     have hT:=fun H' h=>(hT H' h).2 rfl;have e:mkR s d none=none:=rfl;rw [e];refine sX ?_;refine sSA (rV r) ?_;refine sX ?_;refine sS (zL q) [.str s,zL q,zL d] ?_;refine zAz (hT _ hP) ?_;exact sP
    |some x=>
     obtain ⟨n,e'⟩:=x;have hT:=fun H' h=>(hT H' h).1 n e' rfl;have e0:mkR s d (some (n,e'))=some (ndV n,rdB s e' d):=rfl;rw [e0];refine sX ?_;refine sSA (rV r) ?_;refine sX ?_;refine sS (zL q) [.str s,zL q,zL d] ?_;refine zCP (hT _ hP) ?_;refine sSA (ndV n) ?_;exact zAC (o:=0) (ndV n) (by first|rfl|assumption) rfl rfl (zJ hP) rfl rfl rfl hO rfl
  case pos=>
   have hlt:=zl_ h58;rw [zoQ h58];clear hT;simp only;have hwo2:=fun H' h=>hWo b s (e+1) d H' h tO hl;have hel2:=zJN (s:=s) (a:=e+1) tO;have htl2:(sub s (e+1) (zlz s (e+1))).length<=1000:=by rw [zMT hel2];omega
   generalize zlz s (e+1)=e2 at *;have hrr2:=fun H'=>hR (sub s (e+1) e2) H' htl2;generalize sub s (e+1) e2=t2 at *;have hf:=fun H' h=>hF b s e2 d (e+1:Nat) 2 H' h;clear hB hF hWo hR;refine zAH ?_;cases hrt2:zE8 t2 with
   |none=>
    rw [hrt2] at hrr2;have hrr2:∀ H',C zCG [.str t2] H' (.tup [rV noRef,zFo 2]) H':=hrr2;have e0:mkR s d (Option.map (fun r2=>(zAy r r2,e2)) none)=none:=rfl;rw [e0];refine sX ?_;refine sSA (rV r) ?_;refine sX ?_;refine zQ (r:=e+1) rfl tO<|sS (.int .i64 ↑(e+1)) [.str s,.int .i64 ↑(e+1),zL d] ?_;refine zA (.int .i64 ↑(e+1)) (zS (zE tA (zG (zS (zS (zG hb)))))) rfl<|zBc (hwo2 _ hP) (fun h=>by cases h)<|zI (hrr2 _)<|sW ?_;refine sSA (rV noRef) ?_;refine sW ?_;refine zAz (hf _ hP) ?_
    exact sP
   |some r2=>
    rw [hrt2] at hrr2;have hrr2:∀ H',C zCG [.str t2] H' (.tup [rV r2,.nili]) H':=hrr2;have e0:mkR s d (Option.map (fun r2=>(zAy r r2,e2)) (some r2))=some (ndV (zAy r r2),rdB s e2 d):=rfl;rw [e0];refine sX ?_;refine sSA (rV r) ?_;refine sX ?_;refine zQ (r:=e+1) rfl tO<|sS (.int .i64 ↑(e+1)) [.str s,.int .i64 ↑(e+1),zL d] ?_;refine zA (.int .i64 ↑(e+1)) (zS (zE tA (zG (zS (zS (zG hb)))))) rfl<|zBc (hwo2 _ hP) (fun h=>by cases h)<|zI (hrr2 _)<|sW ?_;refine sSA (rV r2) ?_;refine sX ?_;refine sSA (.agg (zR 6 r r2)) ?_
    exact zAC (o:=0) (.agg (zR 6 r r2)) (by first|rfl|assumption) rfl rfl (zJ hP) rfl rfl rfl hO rfl
end
def zKp (c:UInt8) (d:Option UInt8):Bs:=match d with
 |some d=>if (c=60/\d=62)\/(c=60/\d=61)\/(c=62/\d=61) then [c,d] else [c]
 |none=>[c]
theorem zUO {s:Bs} {q:Nat} {c:UInt8} (h:s[q]?=some c) (h32:c≠32) (h34:c≠34) (h35:c≠35) (hw:zh c=false) :
  zHl s q=if zCE (zKp c s[q+1]?)=0 then none else some (zCE (zKp c s[q+1]?),q+(zKp c s[q+1]?).length):=by
 unfold zHl;rw [zMv (by rw [h];exact fun e=>h32 (zoh e))];unfold zBi;rw [h];simp only [hw,zoZ,zot,h34,h35];unfold zKp;cases s[q+1]? with
 |none=>rfl
 |some d=>grind
theorem zZs {s:Bs} {q op e:Nat} (hs:s[q]?≠some 32) (h:zHl s q=some (op,e)):∃ c,s[q]?=some c/\c≠34/\c≠35/\zh c=false:=by
 unfold zHl at h;rw [zMv hs] at h;unfold zBi at h;cases hc:s[q]? with
 |none=>rw [hc] at h;cases h
 |some c=>grind
def sgn:Nat->List Bs
 |0=>[[60,62],[60,61],[62,61],[61],[60],[62]]
 |1=>[[38]]
 |2=>[[43],[45]]
 |3=>[[42],[47]]
 |_=>[]
theorem zIM {s:Bs} {q:Nat} {c d:UInt8}:([c,d]:Bs).isPrefixOf (s.drop q)=true↔s[q]?=some c/\s[q+1]?=some d:=by
 cases hc:s[q]? with
 |none=>rw [zJM hc];simp
 |some c'=>
  rw [zBh hc];cases hd:s[q+1]? with
  |none=>rw [zJM hd];simp [List.isPrefixOf]
  |some d'=>
   rw [zBh hd];simp only [List.isPrefixOf,zm1,zTo,zol,zoS];exact ⟨fun h=>⟨h.1.symm,h.2.symm⟩,fun h=>⟨h.1.symm,h.2.symm⟩⟩
theorem zFK {s:Bs} {q:Nat} {c:UInt8}:([c]:Bs).isPrefixOf (s.drop q)=true↔s[q]?=some c:=by
 cases hc:s[q]? with
 |none=>rw [zJM hc];simp
 |some c'=>
  rw [zBh hc];simp only [List.isPrefixOf,zm1,zol,zoS];exact ⟨fun h=>h.symm,fun h=>h.symm⟩
theorem zZt {s:Bs} {q:Nat} {c d:UInt8} (h1:s[q]?=some c) (h2:s[q+1]?=some d) (hcd:(c=60/\d=62)\/(c=60/\d=61)\/(c=62/\d=61)):zHl s q=some (zCE [c,d],q+2):=by
 have h3:c≠32/\c≠34/\c≠35/\zh c=false/\zCE [c,d]≠0:=by rcases hcd with ⟨rfl,rfl⟩|⟨rfl,rfl⟩|⟨rfl,rfl⟩ <;> decide
 rw [zUO h1 h3.1 h3.2.1 h3.2.2.1 h3.2.2.2.1,h2];have e:zKp c (some d)=[c,d]:=zoQ hcd;rw [e,zWl h3.2.2.2.2];rfl
theorem zMw {s:Bs} {q:Nat} {c:UInt8} (h1:s[q]?=some c) (hc:c=60\/c=62\/c=61\/c=38\/c=43\/c=45\/c=42\/c=47) (hn:∀ d,s[q+1]?=some d->¬ ((c=60/\d=62)\/(c=60/\d=61)\/(c=62/\d=61))):zHl s q=some (zCE [c],q+1):=by
 have h3:c≠32/\c≠34/\c≠35/\zh c=false/\zCE [c]≠0:=by rcases hc with rfl|rfl|rfl|rfl|rfl|rfl|rfl|rfl <;> decide
 rw [zUO h1 h3.1 h3.2.1 h3.2.2.1 h3.2.2.2.1];have e:zKp c s[q+1]?=[c]:=by
  unfold zKp;cases hd:s[q+1]? with
  |none=>rfl
  |some d=>simp only;rw [zWl (hn d hd)]
 rw [e,zWl h3.2.2.2.2];rfl
theorem zdv {s:Bs} {q l i:Nat} {t:Bs} (ht:(sgn l)[i]?=some t) (hp:t.isPrefixOf (s.drop q)=true) (hno:∀ j u,j<i->(sgn l)[j]?=some u->u.isPrefixOf (s.drop q)=false) :
  zHl s q=some (zCE t,q+t.length)/\tight (zCE t)=l+1/\zCE t≠0:=by
 rcases l with _|_|_|_|l
 ·rcases i with _|_|_|_|_|_|i
  ·cases ht;have:=zIM.1 hp;exact ⟨zZt this.1 this.2 zD_,by decide,by decide⟩
  ·cases ht;have:=zIM.1 hp;exact ⟨zZt this.1 this.2 zD_,by decide,by decide⟩
  ·cases ht;have:=zIM.1 hp;exact ⟨zZt this.1 this.2 zD_,by decide,by decide⟩
  ·cases ht;have:=zFK.1 hp;exact ⟨zMw this zD_ (fun d _=>by rintro (⟨h,_⟩|⟨h,_⟩|⟨h,_⟩) <;> revert h <;> decide),by decide,by decide⟩
  ·cases ht;have h1:=zFK.1 hp;refine ⟨zMw h1 zD_ (fun d hd=>?_),by decide,by decide⟩;rintro (⟨_,rfl⟩|⟨_,rfl⟩|⟨h,_⟩)
   ·have:=hno 0 _ tO rfl;rw [zIM.2 ⟨h1,hd⟩] at this;cases this
   ·have:=hno 1 _ tO rfl;rw [zIM.2 ⟨h1,hd⟩] at this;cases this
   ·revert h;decide
  ·cases ht;have h1:=zFK.1 hp;refine ⟨zMw h1 zD_ (fun d hd=>?_),by decide,by decide⟩;rintro (⟨h,_⟩|⟨h,_⟩|⟨_,rfl⟩)
   ·revert h;decide
   ·revert h;decide
   ·have:=hno 2 _ tO rfl;rw [zIM.2 ⟨h1,hd⟩] at this;cases this
  ·simp [sgn] at ht
 ·rcases i with _|i
  ·cases ht;have:=zFK.1 hp;exact ⟨zMw this zD_ (fun d _=>by rintro (⟨h,_⟩|⟨h,_⟩|⟨h,_⟩) <;> revert h <;> decide),by decide,by decide⟩
  ·simp [sgn] at ht
 ·rcases i with _|_|i
  ·cases ht;have:=zFK.1 hp;exact ⟨zMw this zD_ (fun d _=>by rintro (⟨h,_⟩|⟨h,_⟩|⟨h,_⟩) <;> revert h <;> decide),by decide,by decide⟩
  ·cases ht;have:=zFK.1 hp;exact ⟨zMw this zD_ (fun d _=>by rintro (⟨h,_⟩|⟨h,_⟩|⟨h,_⟩) <;> revert h <;> decide),by decide,by decide⟩
  ·simp [sgn] at ht
 ·rcases i with _|_|i
  ·cases ht;have:=zFK.1 hp;exact ⟨zMw this zD_ (fun d _=>by rintro (⟨h,_⟩|⟨h,_⟩|⟨h,_⟩) <;> revert h <;> decide),by decide,by decide⟩
  ·cases ht;have:=zFK.1 hp;exact ⟨zMw this zD_ (fun d _=>by rintro (⟨h,_⟩|⟨h,_⟩|⟨h,_⟩) <;> revert h <;> decide),by decide,by decide⟩
  ·simp [sgn] at ht
 ·simp [sgn] at ht
theorem zdw {t:Bs} {l:Nat} (hne:¬ zCE t=0) (ht:tight (zCE t)=l+1):t∈sgn l:=by
 by_cases h0:t=[61]
 ·subst h0;have e:tight (zCE [61])=1:=by decide
  have e2:l=0:=by omega
  subst e2;decide
 by_cases h1:t=[60,62]
 ·subst h1;have e:tight (zCE [60,62])=1:=by decide
  have e2:l=0:=by omega
  subst e2;decide
 by_cases h2:t=[60]
 ·subst h2;have e:tight (zCE [60])=1:=by decide
  have e2:l=0:=by omega
  subst e2;decide
 by_cases h3:t=[60,61]
 ·subst h3;have e:tight (zCE [60,61])=1:=by decide
  have e2:l=0:=by omega
  subst e2;decide
 by_cases h4:t=[62]
 ·subst h4;have e:tight (zCE [62])=1:=by decide
  have e2:l=0:=by omega
  subst e2;decide
 by_cases h5:t=[62,61]
 ·subst h5;have e:tight (zCE [62,61])=1:=by decide
  have e2:l=0:=by omega
  subst e2;decide
 by_cases h6:t=[38]
 ·subst h6;have e:tight (zCE [38])=2:=by decide
  have e2:l=1:=by omega
  subst e2;decide
 by_cases h7:t=[43]
 ·subst h7;have e:tight (zCE [43])=3:=by decide
  have e2:l=2:=by omega
  subst e2;decide
 by_cases h8:t=[45]
 ·subst h8;have e:tight (zCE [45])=3:=by decide
  have e2:l=2:=by omega
  subst e2;decide
 by_cases h9:t=[42]
 ·subst h9;have e:tight (zCE [42])=4:=by decide
  have e2:l=3:=by omega
  subst e2;decide
 by_cases h10:t=[47]
 ·subst h10;have e:tight (zCE [47])=4:=by decide
  have e2:l=3:=by omega
  subst e2;decide
 ·exact absurd (by unfold zCE;simp only [h0,h1,h2,h3,h4,h5,h6,h7,h8,h9,h10,zot]) hne
theorem zg1 {s:Bs} {q l:Nat} (hs:s[q]?≠some 32) (hno:∀ t,t∈sgn l->t.isPrefixOf (s.drop q)=false) {op e:Nat} (h:zHl s q=some (op,e)):tight op≠l+1:=by
 obtain ⟨c,hc,h34,h35,hw⟩:=zZs hs h;rw [zUO hc (fun x=>hs (by rw [hc,x])) h34 h35 hw] at h;split at h
 ·cases h
 ·rename_i hne;cases h;intro ht;have hpre:(zKp c s[q+1]?).isPrefixOf (s.drop q)=true:=by
   unfold zKp;cases hd:s[q+1]? with
   |none=>exact zFK.2 hc
   |some d=>
    simp only;split
    ·exact zIM.2 ⟨hc,hd⟩
    ·exact zFK.2 hc
  generalize zKp c s[q+1]?=t at *;have hmem:t∈sgn l:=zdw hne ht;rw [hno t hmem] at hpre;cases hpre
theorem zXa (s:Bs) (a:Nat):zDw s (skip s a)=zDw s a:=by unfold zDw;rw [zLg]
theorem zZu {s:Bs} {a:Nat} (nm:Bs) (ks:List Nd) (d:Nat) (ha:a<=s.length):(P s).args nm ks (skip s a) d=(P s).args nm ks a d:=by
 rw [zMt nm ks d (zCO ha),zMt nm ks d ha];unfold zFp zFX;rw [zXa,zP8 1 d ha]
theorem zZv {s:Bs} {a:Nat} (nm:Bs) (ks:List Nd) (d:Nat) (ha:a<=s.length):(P s).args nm ks a d=(zf6 s a d).bind fun p=>if s[skip s p.2]?=some 44 then (P s).args nm (ks++[p.1]) (skip s p.2+1) d else if s[skip s p.2]?=some 41 then some (zAw nm (ks++[p.1]),skip s p.2+1) else none:=by
 rw [zMt nm ks d ha];have key:∀ p:Nd×Nat,(match tok s p.2 with
   |.sign e [44]=>(P s).args nm (ks++[p.1]) e d
   |.sign e [41]=>some (zAw nm (ks++[p.1]),e)
   |_=>none)=if s[skip s p.2]?=some 44 then (P s).args nm (ks++[p.1]) (skip s p.2+1) d else if s[skip s p.2]?=some 41 then some (zAw nm (ks++[p.1]),skip s p.2+1) else none:=fun p=>by
  by_cases h44:s[skip s p.2]?=some 44
  ·rw [zHn h44 zD_,zoQ h44];rfl
  ·rw [zWl h44];by_cases h41:s[skip s p.2]?=some 41
   ·rw [zHn h41 zD_,zoQ h41];rfl
   ·rw [zWl h41];split
    ·rename_i e hk;exact absurd (zIL hk).1 h44
    ·rename_i e hk;exact absurd (zIL hk).1 h41
    ·rfl
 unfold zFp zFX zf6;cases zDw s a with
 |some r=>
  simp only;refine zEV rfl fun p _=>?_;exact key p
 |none=>
  simp only;unfold bl;cases (P s).loose 1 a d with
  |none=>rfl
  |some p=>
   simp only [zoe,zmH];rw [zGN];exact key p
theorem zZw {s:Bs} {a d:Nat} (ha:a<=s.length) {p:Nd×Nat} (h:zf6 s a d=some p):a<p.2/\p.2<=s.length:=by
 unfold zf6 at h;split at h
 ·rename_i r hb;subst h;exact zP6 hb
 ·unfold bl at h;rw [zoV] at h;obtain ⟨q,h1,rfl⟩:=h;have:=(zCr s).loose 1 a d q ha h1;have h2:=zFg s q.2;have h3:=zCO this.2;exact ⟨by simp only;omega,h3⟩
theorem zdx {s t:Bs} {e d:Nat} (he:e+1<=s.length):zIm s t e d=if s[skip s (e+1)]?=some 41 then some (zAw t [],skip s (e+1)+1) else (P s).args t [] (skip s (e+1)) d:=by
 rw [zZu t [] d he];unfold zIm;by_cases h41:s[skip s (e+1)]?=some 41
 ·rw [zHn h41 zD_,zoQ h41];rfl
 ·rw [zWl h41];split
  ·rename_i e2 hk;exact absurd (zIL hk).1 h41
  ·rfl
def zAc (name:Bs) (v:AV):List AV:=[.int .i64 9,.int .i64 0,.str name,.int .i64 0,.int .i64 0,.bool false,.bool false,.int .i64 0,.int .i64 0,.bool false,.bool false,v]
theorem zLj (name:Bs) (ks:List Nd):ndV (zAw name ks)=.agg (zAc name (zJ7 12 (ks.map ndV))):=by
 cases ks with
 |nil=>rfl
 |cons k r=>
  show AV.agg (zAc name (.lst (some false) 12 (zdQ (k::r))))=_;rw [zJi];rfl
theorem zLk {H0 H:Heap} {v:AV} {xs:List AV} {b:Nat} {B:ABlk} (name:Bs) (ho:Owns H0 H v 12 xs) {H1:Heap} (hl:H1.length=H0.length) (hB:OldB H1 b B H):∃ H',zDm H1.length (.agg (zAc name v)) H=some (.agg (zAc name (zJ7 12 xs)),H')/\OldB H1 b B H':=by
 rcases ho with ⟨rfl,rfl⟩|⟨nb,rfl,h1,h2,h3⟩
 ·exact ⟨H,rfl,hB⟩
 ·have hn:¬ nb<H1.length:=by omega
  refine ⟨H.set nb (.frz 12 xs), ?_,hB.set tO _⟩;simp only [zAc,zDm,zKR,hn,zot,h2];cases xs with
  |nil=>exact absurd rfl h3
  |cons x r=>simp [zTb,zJ7]
theorem zHo {name:Bs} {v:AV} (h:v.one=true):(AV.agg (zAc name v)).cells.all AV.one=true:=by
 simp only [zAc,AV.cells,zmu,List.all_nil,h,zm1];rfl
theorem zJQ (n:Nat) (name:Bs) (xs:List AV):(AV.agg (zAc name (zJ7 12 xs))).bel n=true:=by cases xs <;> rfl
theorem Owns.setBox {H0 H:Heap} {v:AV} {k c:Nat} {xs cs:List AV} (h:Owns H0 H v k xs) (hc:H[c]?=some (.box cs)) (y:ABlk):Owns H0 (H.set c y) v k xs:=h.set (h.notBox hc) y
theorem zD2 {b k o:Nat} {v:AV} {cs:List AV} (cs':List AV) {H:Heap} {K:AV->Heap->Prop} (h:H[b]?=some (.box cs)) (hv:v.cells=[v]/\v.one=true) (ho:Nat.ble (o+1) cs.length=true) (he:splice cs o [v]=cs')
  (q:K .undef (H.set b (.box cs'))):actP (.store 1) [.ref b k 0 o,v] H K:=
 zM cs' h (by rw [hv.1];rfl) (by rw [hv.1];simp [hv.2]) ho (by rw [hv.1];exact he) q
structure CSt where
 a:Nat
 v:AV
 ks:List Nd
section
variable {C:CSpec} {GT:zG_}
theorem zg2 (hB:∀ b s p d H,H[b]?=some (rdB s p d)->p<=s.length->s.length<=200->C zn [pR b] H (.tup []) (H.set b (rdB s (skip s p) d)))
  (hWt:∀ c b s p d H,H[b]?=some (rdB s p d)->p<=s.length->s.length<=200->(s[skip s p]?=some c->C zAD [pR b,byV c] H (.tup []) (H.set b (rdB s (skip s p+1) d)))/\(s[skip s p]?≠some c->C zAD (.pan .undef::[pR b,byV c]) H zHK (H.set b (.box (wkC s)))))
  (t:Bs) (b:Nat) (s:Bs) (p d:Nat) (H:Heap) (hb:H[b]?=some (rdB s p d)) (hp:p<s.length) (hl:s.length<=200)
  (hA:∀ a H',p<a->a<=s.length->H'[b]?=some (rdB s a d)->CR C zBO [pR b] H' b s d (zf6 s a d)) :
  zCk C GT zB6 [pR b,.str t] H b (wkC s) zHK (mkR s d (zIm s t p d)):=by
 have hbl:=zl_ hb;have hbk:=fun a H' h1 h2=>hB b s a d H' h1 h2 hl;have hwt:=fun a H' h1 h2=>hWt 41 b s a d H' h1 h2 hl;have hl5:(H++[ABlk.box (ndC zU)]).length=H.length+1:=by simp
 clear hB hWt;rw [zdx tO];have hpq:=zFg s (p+1);have hql:=zCO (s:=s) (a:=p+1) tO;have hbk0:=hbk (p+1);generalize skip s (p+1)=q at *;refine zAH ?_;by_cases h41:s[q]?=some 41
 ·have hlt:=zl_ h41;rw [zoQ h41];have e0:mkR s d (some (zAw t [],q+1))=some (ndV (zAw t []),rdB s (q+1) d):=rfl;rw [e0];clear hA hbk hwt;refine sX ?_;refine sSA (.agg (zN 9 0 t)) ?_;refine sX ?_;refine zQ (r:=p+1) rfl tO ?_;refine sS (.int .i64 ↑(p+1)) [.str s,.int .i64 ↑(p+1),zL d] ?_;refine sX ?_;refine zQ (r:=q+1) rfl tO ?_;refine sS (.int .i64 ↑(q+1)) [.str s,.int .i64 ↑(q+1),zL d] ?_;refine sX ?_;refine sSA (.agg (zN 9 0 t)) ?_;exact zAC (o:=0) (.agg (zN 9 0 t)) (by first|rfl|assumption) rfl rfl (zJ hP) rfl rfl rfl hO rfl
 rw [zWl h41];obtain ⟨r,hr⟩:∃ r,(P s).args t [] q d=r:=⟨_,rfl⟩;rw [hr];have hloop:∀ HH,OldB H b (rdB s q d) HH->HH[b]?=some (rdB s q d)->HH[H.length]?=some (.box (ndC zU))->HH[(H++[ABlk.box (ndC zU)]).length]?=some (.box (zAc t (.lst (some true) 0 []))) ->
   loopP C GT [0,4,5] zHd (zLI 0 [4] (zJ1 zB6 H b (wkC s) zHK (mkR s d r))) [(0,pR b),(4,pR H.length),(5,pR (H++[ABlk.box (ndC zU)]).length)] HH:=fun HH g1 g2 g3 g4=>by
  refine zAr (fun x:CSt=>[(0,pR b),(4,pR H.length),(5,pR (H++[ABlk.box (ndC zU)]).length)])
   (fun x H'=>Owns H H' x.v 12 (x.ks.map ndV)/\OldB H b (rdB s x.a d) H'/\H'[b]?=some (rdB s x.a d)/\H'[H.length]?=some (.box (ndC zU))/\H'[(H++[ABlk.box (ndC zU)]).length]?=some (.box (zAc t x.v))/\p<x.a/\x.a<=s.length/\x.ks.length<=x.a/\(P s).args t x.ks x.a d=r)
   (fun x=>s.length-x.a) ⟨q,.lst (some true) 0 [],[]⟩ rfl
   ⟨.inl ⟨rfl,rfl⟩,g1,g2,g3,g4,by simp only;omega,hql,by simp,hr⟩ (fun ⟨a,v,ks⟩ H1 ⟨how,hob,hb1,h4,h5,hpa,hal,hkl,hq⟩=>?_)
  dsimp only at how hob hb1 h4 h5 hpa hal hkl hq ⊢;have hlen1:=hob.old.1;rw [zoW] at hlen1;have h5l:=(zl_ h5);have har:=hA a H1 hpa hal hb1;rw [zZv t ks d hal] at hq;clear hA hbk0 hr;cases hra:zf6 s a d with
  |none=>
   rw [hra] at har hq;have hq:none=r:=hq;subst hq;have e0:mkR s d none=none:=rfl;rw [e0];have har:=har.2 rfl;clear hbk hwt;refine zG2 ?_ ?_
   ·refine sX ?_;refine zAz har ?_;exact sP
   ·refine zAz har ?_;exact sP
  |some x=>
   obtain ⟨n,e⟩:=x;have hee:=zZw hal hra;simp only at hee;rw [hra] at har hq;simp only [zmH] at hq;have har:=har.1 n e rfl;have hbk1:=hbk e;have hqe:=zFg s e;have hqle:=zCO hee.2;have hwt1:=hwt (skip s e);rw [zGN] at hwt1;clear hbk hwt;generalize skip s e=q1 at *;have hel:(ndV n).elem 12=true:=rfl;have how2:=how.set (how.notBox hb1) (rdB s e d);have hob2:=hob.setB (rdB s e d);have hlH:(H.set b (rdB s e d)).length=H.length:=zoW;refine zG2 ?_ ?_
   ·refine sX ?_;refine zCP har<|zAA (vs':=[ndV n]) rfl rfl<|zA0 (H0:=H.set b (rdB s e d)) ((how2.base hlH).push _) (hob2.old.push _) zAR tO (by simp only [zoU,zoN,zoT];omega) zS_ fun v' H' ho' hH' hb' hf=>?_
    have hx1:=hf b _ (how2.notBox (zS hb1)) (zG (zS hb1));have hx4:=hf H.length _ (how2.notBox (zE tO h4)) (zG (zE tO h4));have hx5:=hf (H++[ABlk.box (ndC zU)]).length _ (how2.notBox (zE tO h5)) (zG (zE tO h5));have hlH':=hH'.1;rw [zoW] at hlH';have hob3:OldB H b (rdB s e d) H':=⟨hbl,hH'⟩;have hx5l:=(zl_ hx5);by_cases h44:s[q1]?=some 44
    ·have hlt:=zl_ h44;rw [zoQ h44] at hq;clear hwt1;refine zD2 (zAc t v') hx5 ho'.one rfl rfl<|zBc (hbk1 _ hP tO) (fun h=>by cases h)<|sX ?_;refine zQ (r:=q1+1) rfl tO<|sS (.int .i64 ↑(q1+1)) [.str s,.int .i64 ↑(q1+1),zL d] ?_;refine zAJ (CSt.mk (q1+1) v' (ks++[n])) rfl ⟨?_,(((hob3.set tO _).setB _).setB _),hP,hP,hP,by simp only;omega,by simp only;omega,by simp only [zoP,zoN,zoT];omega,hq⟩ (by simp only;omega)
     rw [zov];exact (((ho'.setBox hx5 _).setBox hP _).setBox hP _).base hlH.symm
    rw [zWl h44] at hq;by_cases h41':s[q1]?=some 41
    ·have hlt:=zl_ h41';rw [zoQ h41'] at hq;subst hq;have e0:mkR s d (some (zAw t (ks++[n]),q1+1))=some (.agg (zAc t (zJ7 12 ((ks++[n]).map ndV))),rdB s (q1+1) d):=by rw [<-zLj];rfl
     rw [e0];refine zD2 (zAc t v') hx5 ho'.one rfl rfl<|zBc (hbk1 _ hP tO) (fun h=>by cases h)<|zA (zL q1) (zS (zE tA hx1)) rfl<|zA (.str s) (zS (zE tA hx1)) rfl<|zt tT<|zA (.str s) (zS (zE tA hx1)) rfl<|zA (zL q1) (zS (zE tA hx1)) rfl<|zCF rfl h41'<|zD<|zc (tN zD_)<|zCP ((hwt1 _ hP tO).1 h41')<|sX ?_;refine zM (v:=.agg (zAc t v')) (zAc t v') hP rfl (zHo ho'.one.2) rfl rfl ?_
     have hown:Owns H (((H'.set (H++[ABlk.box (ndC zU)]).length (.box (zAc t v'))).set b (rdB s q1 d)).set b (rdB s (q1+1) d) |>.set H.length (.box (zAc t v'))) v' 12 ((ks++[n]).map ndV):=by
      rw [zov];exact ((((ho'.setBox hx5 _).setBox hP _).setBox hP _).setBox hP _).base hlH.symm
     obtain ⟨H2,hz,hob4⟩:=zLk t hown rfl ((((hob3.set tO _).setB _).setB _).set (zoR _) _);exact zAC (o:=0) (.agg (zAc t v')) rfl rfl rfl (zJ hP) rfl hz (zJQ _ _ _) hob4 rfl
    ·rw [zWl h41'] at hq;subst hq;have e0:mkR s d none=none:=rfl;rw [e0];by_cases hlt:q1<s.length
     ·obtain ⟨c,hc⟩:∃ c,s[q1]?=some c:=⟨_,zoO hlt⟩;have hn:c.toNat≠44:=fun x=>h44 (by rw [hc,show c=44 from zoi.1 x]);refine zD2 (zAc t v') hx5 ho'.one rfl rfl<|zBc (hbk1 _ hP tO) (fun h=>by cases h)<|sX ?_;refine zAz ((hwt1 _ hP tO).2 h41') ?_
      exact sP
     ·refine zD2 (zAc t v') hx5 ho'.one rfl rfl<|zBc (hbk1 _ hP tO) (fun h=>by cases h)<|sX ?_;refine zAz ((hwt1 _ hP tO).2 h41') ?_
      exact sP
   ·refine zCP har ?_;refine zG2 ?_ ?_
    ·refine sX ?_;refine zAA (vs':=[ndV n]) rfl rfl<|zA0 (H0:=H.set b (rdB s e d)) ((how2.base hlH).push _) (hob2.old.push _) zAR tO (by simp only [zoU,zoN,zoT];omega) zS_ fun v' H' ho' hH' hb' hf=>?_
     have hx1:=hf b _ (how2.notBox (zS hb1)) (zG (zS hb1));have hx4:=hf H.length _ (how2.notBox (zE tO h4)) (zG (zE tO h4));have hx5:=hf (H++[ABlk.box (ndC zU)]).length _ (how2.notBox (zE tO h5)) (zG (zE tO h5));have hlH':=hH'.1;rw [zoW] at hlH';have hob3:OldB H b (rdB s e d) H':=⟨hbl,hH'⟩;have hx5l:=(zl_ hx5);by_cases h44:s[q1]?=some 44
     ·have hlt:=zl_ h44;rw [zoQ h44] at hq;clear hwt1;refine zD2 (zAc t v') hx5 ho'.one rfl rfl<|zBc (hbk1 _ hP tO) (fun h=>by cases h)<|sX ?_;refine zQ (r:=q1+1) rfl tO<|sS (.int .i64 ↑(q1+1)) [.str s,.int .i64 ↑(q1+1),zL d] ?_;refine zAJ (CSt.mk (q1+1) v' (ks++[n])) rfl ⟨?_,(((hob3.set tO _).setB _).setB _),hP,hP,hP,by simp only;omega,by simp only;omega,by simp only [zoP,zoN,zoT];omega,hq⟩ (by simp only;omega)
      rw [zov];exact (((ho'.setBox hx5 _).setBox hP _).setBox hP _).base hlH.symm
     rw [zWl h44] at hq;by_cases h41':s[q1]?=some 41
     ·have hlt:=zl_ h41';rw [zoQ h41'] at hq;subst hq;have e0:mkR s d (some (zAw t (ks++[n]),q1+1))=some (.agg (zAc t (zJ7 12 ((ks++[n]).map ndV))),rdB s (q1+1) d):=by rw [<-zLj];rfl
      rw [e0];refine zD2 (zAc t v') hx5 ho'.one rfl rfl<|zBc (hbk1 _ hP tO) (fun h=>by cases h)<|zA (zL q1) (zS (zE tA hx1)) rfl<|zA (.str s) (zS (zE tA hx1)) rfl<|zt tT<|zA (.str s) (zS (zE tA hx1)) rfl<|zA (zL q1) (zS (zE tA hx1)) rfl<|zCF rfl h41'<|zD<|zc (tN zD_)<|zCP ((hwt1 _ hP tO).1 h41')<|sX ?_;refine zM (v:=.agg (zAc t v')) (zAc t v') hP rfl (zHo ho'.one.2) rfl rfl ?_
      have hown:Owns H (((H'.set (H++[ABlk.box (ndC zU)]).length (.box (zAc t v'))).set b (rdB s q1 d)).set b (rdB s (q1+1) d) |>.set H.length (.box (zAc t v'))) v' 12 ((ks++[n]).map ndV):=by
       rw [zov];exact ((((ho'.setBox hx5 _).setBox hP _).setBox hP _).setBox hP _).base hlH.symm
      obtain ⟨H2,hz,hob4⟩:=zLk t hown rfl ((((hob3.set tO _).setB _).setB _).set (zoR _) _);exact zAC (o:=0) (.agg (zAc t v')) rfl rfl rfl (zJ hP) rfl hz (zJQ _ _ _) hob4 rfl
     ·rw [zWl h41'] at hq;subst hq;have e0:mkR s d none=none:=rfl;rw [e0];by_cases hlt:q1<s.length
      ·obtain ⟨c,hc⟩:∃ c,s[q1]?=some c:=⟨_,zoO hlt⟩;have hn:c.toNat≠44:=fun x=>h44 (by rw [hc,show c=44 from zoi.1 x]);refine zD2 (zAc t v') hx5 ho'.one rfl rfl<|zBc (hbk1 _ hP tO) (fun h=>by cases h)<|sX ?_;refine zAz ((hwt1 _ hP tO).2 h41') ?_
       exact sP
      ·refine zD2 (zAc t v') hx5 ho'.one rfl rfl<|zBc (hbk1 _ hP tO) (fun h=>by cases h)<|sX ?_;refine zAz ((hwt1 _ hP tO).2 h41') ?_
       exact sP
    ·refine zAA (vs':=[ndV n]) rfl rfl<|sX ?_;refine zA0 (H0:=H.set b (rdB s e d)) ((how2.base hlH).push _) (hob2.old.push _) zAR tO (by simp only [zoU,zoN,zoT];omega) zS_ fun v' H' ho' hH' hb' hf=>?_
     have hx1:=hf b _ (how2.notBox (zS hb1)) (zG (zS hb1));have hx4:=hf H.length _ (how2.notBox (zE tO h4)) (zG (zE tO h4));have hx5:=hf (H++[ABlk.box (ndC zU)]).length _ (how2.notBox (zE tO h5)) (zG (zE tO h5));have hlH':=hH'.1;rw [zoW] at hlH';have hob3:OldB H b (rdB s e d) H':=⟨hbl,hH'⟩;have hx5l:=(zl_ hx5);by_cases h44:s[q1]?=some 44
     ·have hlt:=zl_ h44;rw [zoQ h44] at hq;clear hwt1;refine zD2 (zAc t v') hx5 ho'.one rfl rfl<|zBc (hbk1 _ hP tO) (fun h=>by cases h)<|sX ?_;refine zQ (r:=q1+1) rfl tO<|sS (.int .i64 ↑(q1+1)) [.str s,.int .i64 ↑(q1+1),zL d] ?_;refine zAJ (CSt.mk (q1+1) v' (ks++[n])) rfl ⟨?_,(((hob3.set tO _).setB _).setB _),hP,hP,hP,by simp only;omega,by simp only;omega,by simp only [zoP,zoN,zoT];omega,hq⟩ (by simp only;omega)
      rw [zov];exact (((ho'.setBox hx5 _).setBox hP _).setBox hP _).base hlH.symm
     rw [zWl h44] at hq;by_cases h41':s[q1]?=some 41
     ·have hlt:=zl_ h41';rw [zoQ h41'] at hq;subst hq;have e0:mkR s d (some (zAw t (ks++[n]),q1+1))=some (.agg (zAc t (zJ7 12 ((ks++[n]).map ndV))),rdB s (q1+1) d):=by rw [<-zLj];rfl
      rw [e0];refine zD2 (zAc t v') hx5 ho'.one rfl rfl<|zBc (hbk1 _ hP tO) (fun h=>by cases h)<|zA (zL q1) (zS (zE tA hx1)) rfl<|zA (.str s) (zS (zE tA hx1)) rfl<|zt tT<|zA (.str s) (zS (zE tA hx1)) rfl<|zA (zL q1) (zS (zE tA hx1)) rfl<|zCF rfl h41'<|zD<|zc (tN zD_)<|zCP ((hwt1 _ hP tO).1 h41')<|sX ?_;refine zM (v:=.agg (zAc t v')) (zAc t v') hP rfl (zHo ho'.one.2) rfl rfl ?_
      have hown:Owns H (((H'.set (H++[ABlk.box (ndC zU)]).length (.box (zAc t v'))).set b (rdB s q1 d)).set b (rdB s (q1+1) d) |>.set H.length (.box (zAc t v'))) v' 12 ((ks++[n]).map ndV):=by
       rw [zov];exact ((((ho'.setBox hx5 _).setBox hP _).setBox hP _).setBox hP _).base hlH.symm
      obtain ⟨H2,hz,hob4⟩:=zLk t hown rfl ((((hob3.set tO _).setB _).setB _).set (zoR _) _);exact zAC (o:=0) (.agg (zAc t v')) rfl rfl rfl (zJ hP) rfl hz (zJQ _ _ _) hob4 rfl
     ·rw [zWl h41'] at hq;subst hq;have e0:mkR s d none=none:=rfl;rw [e0];by_cases hlt:q1<s.length
      ·obtain ⟨c,hc⟩:∃ c,s[q1]?=some c:=⟨_,zoO hlt⟩;have hn:c.toNat≠44:=fun x=>h44 (by rw [hc,show c=44 from zoi.1 x]);refine zD2 (zAc t v') hx5 ho'.one rfl rfl<|zBc (hbk1 _ hP tO) (fun h=>by cases h)<|sX ?_;refine zAz ((hwt1 _ hP tO).2 h41') ?_
       exact sP
      ·refine zD2 (zAc t v') hx5 ho'.one rfl rfl<|zBc (hbk1 _ hP tO) (fun h=>by cases h)<|sX ?_;refine zAz ((hwt1 _ hP tO).2 h41') ?_
       exact sP
 clear hA hbk hwt;by_cases hlt:q<s.length
 ·obtain ⟨c,hc⟩:∃ c,s[q]?=some c:=⟨_,zoO hlt⟩;have hn:c.toNat≠41:=fun x=>h41 (by rw [hc,show c=41 from zoi.1 x]);refine sX ?_;refine sSA (.agg (zN 9 0 t)) ?_;refine sX ?_;refine zQ (r:=p+1) rfl tO ?_;refine sS (.int .i64 ↑(p+1)) [.str s,.int .i64 ↑(p+1),zL d] ?_;refine sX ?_;exact hloop _ ((((((OldB.start hb).push _).push _).set zS_ _).setB _).setB _) hP hP hP
 ·refine sX ?_;refine sSA (.agg (zN 9 0 t)) ?_;refine sX ?_;refine zQ (r:=p+1) rfl tO ?_;refine sS (.int .i64 ↑(p+1)) [.str s,.int .i64 ↑(p+1),zL d] ?_;refine sX ?_;exact hloop _ ((((((OldB.start hb).push _).push _).set zS_ _).setB _).setB _) hP hP hP
end
theorem zZx {s:Bs} {l e d:Nat} (hl:l<=3) (he:e<=s.length) (g:Nd->Nd):(((P s).loose (l+2) e d).bind fun q=>bl s ((P s).ll (l+1) (g q.1) q.2 d))=(twS s (l+1) e d).bind fun q=>bl s ((P s).ll (l+1) (g q.1) q.2 d):=by
 unfold twS;by_cases h3:l=3
 ·subst h3;rw [zoQ rfl,zZW d he]
 ·rw [zWl tO];cases h:(P s).loose (l+2) e d with
  |none=>rfl
  |some q=>
   have:=(zCr s).loose _ e d q he h;show bl s ((P s).ll (l+1) (g q.1) q.2 d)=bl s ((P s).ll (l+1) (g q.1) (skip s q.2) d);rw [zZV _ _ _ this.2]
theorem zUP {s:Bs} {l e d:Nat} (hl:l<=3) (he:e<=s.length) {q:Nd×Nat} (h:twS s (l+1) e d=some q):(e<q.2/\q.2<=s.length)/\∀ op e',zHl s q.2=some (op,e')->tight op<l+2:=by
 unfold twS at h;by_cases h3:l=3
 ·subst h3;rw [zoQ rfl] at h;exact ⟨(zCr s).one e d q he h,fun op e' _=>by have:=(zRE op).2;omega⟩
 ·rw [zWl tO] at h;unfold bl at h;rw [zoV] at h;obtain ⟨q',h1,rfl⟩:=h;have h2:=(zCr s).loose _ e d q' he h1;have h4:=zFg s q'.2;have h5:=zCO h2.2;refine ⟨⟨by simp only;omega,h5⟩,fun op e' ho=>?_⟩;simp only [zOf] at ho;exact zXS _ d he h1 op e' ho
theorem zdy {s:Bs} {l p d:Nat} (hl:l<=3) (hp:p<=s.length):twS s l p d=(twS s (l+1) p d).bind fun q=>bl s ((P s).ll (l+1) q.1 q.2 d):=by
 rw [<-zZx hl hp (fun n=>n)]
 conv=>lhs;unfold twS
 rw [zWl tO,zUI (l+1) d hp];cases (P s).loose (l+2) p d <;> rfl
theorem zZy {s:Bs} {l d a:Nat} {n:Nd} (ha:a<=s.length) (hx:∀ op e,zHl s a=some (op,e)->tight op<l+2) (hno:∀ t,t∈sgn l->t.isPrefixOf (s.drop (skip s a))=false):bl s ((P s).ll (l+1) n a d)=some (n,skip s a):=by
 rw [zTf _ n d ha];unfold zNV;cases h:zHl s a with
 |none=>rfl
 |some x=>
  obtain ⟨op,e⟩:=x;have h1:=hx op e h;have h2:=zg1 (zUG s a) hno (by rw [zOf];exact h);simp only;rw [zoQ tO];rfl
theorem zZz {s:Bs} {l d a i:Nat} {n:Nd} {t:Bs} (hl:l<=3) (ha:a<=s.length) (ht:(sgn l)[i]?=some t) (hp:t.isPrefixOf (s.drop (skip s a))=true) (hno:∀ j u,j<i->(sgn l)[j]?=some u->u.isPrefixOf (s.drop (skip s a))=false) :
  (skip s a+t.length<=s.length/\skip s a<skip s a+t.length)/\zCE t≠0/\bl s ((P s).ll (l+1) n a d)=(twS s (l+1) (skip s a+t.length) d).bind fun q=>bl s ((P s).ll (l+1) (zAn (zCE t) n q.1) q.2 d):=by
 obtain ⟨h1,h2,h3⟩:=zdv ht hp hno;have he:=zDh h1;refine ⟨⟨he.2,he.1⟩,h3, ?_⟩;rw [<-zZV _ _ _ ha,zTf _ n d (zCO ha)];unfold zNV;rw [h1];simp only;rw [zWl tO,<-zZx hl he.2 (fun m=>zAn (zCE t) n m),h2];cases (P s).loose (l+1+1) (skip s a+t.length) d <;> rfl
def ndX (n:Nd) (x:AV):List AV:=[.int .i64 n.kind,.int .i64 n.num,.str n.text,.int .i64 n.ref.col,.int .i64 n.ref.row,.bool n.ref.fc,.bool n.ref.fr,.int .i64 n.to.col,.int .i64 n.to.row,.bool n.to.fc,.bool n.to.fr,x]
def NdO (H0 H:Heap) (n:Nd) (x:AV):Prop:=x=.lst (some n.kq) n.kk (kxs n)\/∃ op a c nb,n=zAn op a c/\x=.sl (some false) nb 12 0 2/\H[nb]?=some (.row 12 [ndV a,ndV c])/\H0.length<=nb
theorem NdO.keep {H0 H H':Heap} {n:Nd} {x:AV} (h:NdO H0 H n x) (hk:∀ (nb:Nat) (ys:List AV),H[nb]?=some (ABlk.row 12 ys)->H'[nb]?=some (ABlk.row 12 ys)):NdO H0 H' n x:=by
 rcases h with h|⟨op,a,c,nb,h1,h2,h3,h4⟩
 ·exact .inl h
 ·exact .inr ⟨op,a,c,nb,h1,h2,hk _ _ h3,h4⟩
theorem NdO.set {H0 H:Heap} {n:Nd} {x:AV} {b:Nat} {cs:List AV} (h:NdO H0 H n x) (hb:H[b]?=some (.box cs)) (y:ABlk):NdO H0 (H.set b y) n x:=
 h.keep fun nb ys h1=>zE (fun e=>by subst e;rw [hb] at h1;cases h1) h1
theorem NdO.push {H0 H:Heap} {n:Nd} {x:AV} (h:NdO H0 H n x) (y:ABlk):NdO H0 (H++[y]) n x:=h.keep fun nb ys h1=>zG h1
theorem NdO.one {H0 H:Heap} {n:Nd} {x:AV} (h:NdO H0 H n x):(AV.agg (ndX n x)).cells.all AV.one=true:=by
 rcases h with rfl|⟨op,a,c,nb,rfl,rfl,h3,h4⟩ <;> rfl
theorem NdO.frz {H0 H:Heap} {n:Nd} {x:AV} (h:NdO H0 H n x) (k:Nat) (hk:k<=H0.length):∃ H',zDm k (.agg (ndX n x)) H=some (ndV n,H')/\H'.length=H.length/\(∀ (c:Nat) (cs:List AV),H[c]?=some (ABlk.box cs)->H'[c]?=some (ABlk.box cs))/\∀ {b B},b<H0.length->Old (H0.set b B) H->Old (H0.set b B) H':=by
 rcases h with rfl|⟨op,a,c,nb,rfl,rfl,h3,h4⟩
 ·exact ⟨H,rfl,rfl,fun _ _ h=>h,fun _ h=>h⟩
 ·refine ⟨H.set nb (.frz 12 [ndV a,ndV c]), ?_,zoW,fun c' cs hc=>zE (fun e=>by subst e;rw [h3] at hc;cases hc) hc,fun hb ho=>?_⟩
  ·have:¬ nb<k:=by omega
   simp only [ndX,zDm,zKR,this,zot,h3];simp [zTb,ndV,ndC,zAn,Nd.kind,Nd.num,Nd.text,Nd.ref,Nd.to,Nd.kq,Nd.kk,kxs,zdQ]
  ·exact ho.set (by rw [zoW];exact h4) _
theorem zjx (k:Nat) (n:Nd) (H:Heap):zDm k (ndV n) H=some (ndV n,H):=rfl
theorem zJR (k:Nat) (n:Nd):(ndV n).bel k=true:=rfl
def zSo:AV:=.agg ((List.range 4).map fun l=>.lst (some false) 1 ((sgn l).map AV.str))
theorem zQB {l o:Nat} (hl:l<=3) (ho:o=l):part zSo.cells o 1 false=some (.lst (some false) 1 ((sgn l).map AV.str)):=by
 subst ho;rcases o with _|_|_|_|o
 ·rfl
 ·rfl
 ·rfl
 ·rfl
 ·omega
theorem zZ0 (l:Nat):(sgn l).length<=6:=by rcases l with _|_|_|_|l <;> simp [sgn]
theorem zg3 {GT:zG_} {fr:Fr} {g o:Nat} {x:AV} {K:AV->Prop} (h:GT g=some x) (q:K (.lref x (0+o))):zi7 o (evF GT fr (.glob g)) K:=by
 have e:evF GT fr (.glob g)=.lref x 0:=by simp only [evF,h]
 rw [e];exact q
structure T2St where
 m:Nat
 a:Nat
 n:Nd
 x:AV
structure L2St where
 i:Nat
 m:Nat
def two_r:AC:=match zFT with
 |.seq _ (.scope _ _ _ r)=>r
 |x=>x
def TwI (H:Heap) (b:Nat) (s:Bs) (d:Nat) (l:Nat) (r:Option (Nd×Nat)) (a:Nat) (n:Nd) (x:AV) (H1:Heap):Prop:=
 OldB H b (rdB s a d) H1/\H1[b]?=some (rdB s a d)/\H1[H.length]?=some (.box (ndC zU))/\H1[H.length+1]?=some (.box (ndX n x))/\NdO H H1 n x/\a<=s.length/\(∀ op e,zHl s a=some (op,e)->tight op<l+2)/\bl s ((P s).ll (l+1) n a d)=r
section
variable {C:CSpec} {GT:zG_}
theorem zf7 (hB:∀ b s p d H,H[b]?=some (rdB s p d)->p<=s.length->s.length<=200->C zn [pR b] H (.tup []) (H.set b (rdB s (skip s p) d)))
  (hO:∀ t H,zCE t≠0->C zD6 [.str t] H (zL (zCE t)) H)
  (hX:∀ s p H,C zA1 [.str s,.str p] H (.bool (p.isPrefixOf s)) H)
  (hG:GT zEn=some zSo)
  (l b:Nat) (s:Bs) (p d:Nat) (H:Heap) (hb:H[b]?=some (rdB s p d)) (hp:p<=s.length) (hl:s.length<=200) (hl4:l<=4)
  (hN:∀ H',l=4->H'[b]?=some (rdB s p d)->CR C zAT [pR b] H' b s d ((P s).one p d))
  (hT:∀ a H',l<=3->p<=a->a<=s.length->(a=p\/p<a)->H'[b]?=some (rdB s a d)->CR C zr [pR b,zL (l+1)] H' b s d (twS s (l+1) a d)) :
  zCk C GT zCJ [pR b,zL l] H b (wkC s) zHK (mkR s d (twS s l p d)):=by
 have hbl:=zl_ hb;have hbk:=fun a d H' h1 h2=>hB b s a d H' h1 h2 hl;clear hB;refine zAH ?_;by_cases h4:l=4
 ·subst h4;have e1:twS s 4 p d=(P s).one p d:=zoQ rfl;rw [e1];generalize (P s).one p d=r at *;have hn:=fun H'=>hN H' rfl;clear hN hT hX hO hbk hG;cases r with
  |none=>
   have hc:=fun H' h1=>(hn H' h1).2 rfl;have e:mkR s d none=none:=rfl;rw [e];clear hn;refine sW ?_;refine zAz (hc _ hP) ?_;exact sP
  |some q=>
   obtain ⟨n,e⟩:=q;have hc:=fun H' h1=>(hn H' h1).1 n e rfl;have e0:mkR s d (some (n,e))=some (ndV n,rdB s e d):=rfl;rw [e0];clear hn;refine sW ?_;refine zCP (hc _ hP)<|sSA (ndV n) ?_
   exact zAC (o:=0) (ndV n) (by first|rfl|assumption) rfl rfl (zJ hP) rfl rfl rfl hO rfl
 have hl3:l<=3:=by omega
 have hT:=fun a H' h1 h2 h3 h4=>hT a H' hl3 h1 h2 h3 h4;clear hN;rw [zdy hl3 hp];have ht0:=fun H' h1=>hT p H' (zoR _) hp (.inl rfl) h1;cases hr:twS s (l+1) p d with
 |none=>
  rw [hr] at ht0;have hc:=fun H' h1=>(ht0 H' h1).2 rfl;have e:mkR s d (Option.bind none fun q:Nd×Nat=>bl s ((P s).ll (l+1) q.1 q.2 d))=none:=rfl;rw [e];clear hbk hO hX hG hT ht0;refine sW ?_;refine zQ (r:=l+1) rfl tO<|zAz (hc _ hP) ?_
  exact sP
 |some q0=>
 obtain ⟨n0,e0⟩:=q0;have hq0:=zUP hl3 hp hr;rw [hr] at ht0;have hc0:=fun H' h1=>(ht0 H' h1).1 n0 e0 rfl;clear ht0 hr;obtain ⟨hq1,hq2⟩:=hq0;simp only at hq1 hq2;have e1:(Option.bind (some (n0,e0)) fun q:Nd×Nat=>bl s ((P s).ll (l+1) q.1 q.2 d))=bl s ((P s).ll (l+1) n0 e0 d):=rfl;rw [e1];clear e1;obtain ⟨r,hr⟩:∃ r,bl s ((P s).ll (l+1) n0 e0 d)=r:=⟨_,rfl⟩;rw [hr];have hZ:∀ (X Y:ABlk),((H++[X]).set b Y).length=H.length+1:=fun X Y=>by simp
 have hmk:∀ st H1,st.m=H.length+1/\TwI H b s d l r st.a st.n st.x H1->p<st.a ->
   gotoP C GT [5,1,0,4] 0 two_r (zJ1 zCJ H b (wkC s) zHK (mkR s d r)) ((fun st:T2St=>[(5,pR st.m),(1,zL l),(0,pR b),(4,pR H.length)]) st) H1:=by
  intro st0 H1 hst hpa0;refine sGoto (fun st:T2St=>[(5,pR st.m),(1,zL l),(0,pR b),(4,pR H.length)]) (fun st H1=>(st.m=H.length+1/\TwI H b s d l r st.a st.n st.x H1)/\p<st.a) (fun st=>s.length-st.a) st0 rfl ⟨hst,hpa0⟩ (fun ⟨m,a,n,x⟩ H1 ⟨⟨hm,hob,hb1,h4,h5,hnd,hal,hx,hq⟩,hpa⟩=>?_);clear hst hpa0 st0 hc0 hr hb;dsimp only at hm hob hb1 h4 h5 hnd hal hx hq hpa ⊢;subst hm;have hA1:=zFg s a;have hA2:=zCO hal;have h5l:=(zl_ h5);have hbk1:=hbk a d H1 hb1 hal;refine sW ?_;refine zBA ⟨by omega,by omega⟩<|zg3 hG<|z8 (.lst (some false) 1 ((sgn l).map AV.str)) (zQB hl3 zS_)<|zPC ?_;refine zAr (fun st:L2St=>[(5,pR st.m),(1,zL l),(0,pR b),(4,pR H.length),(22,zL st.i),(20,.lst (some false) 1 ((sgn l).map AV.str)),(21,.int .i64 ((sgn l).map AV.str).length)])
   (fun st H'=>st.m=H.length+1/\(OldB H b (rdB s (skip s a) d) H'/\H'[b]?=some (rdB s (skip s a) d)/\H'[H.length]?=some (.box (ndC zU))/\H'[H.length+1]?=some (.box (ndX n x))/\NdO H H' n x)/\st.i<=(sgn l).length/\∀ j u,j<st.i->(sgn l)[j]?=some u->u.isPrefixOf (s.drop (skip s a))=false)
   (fun st=>(sgn l).length-st.i) ⟨0,H.length+1⟩ rfl ⟨rfl,⟨hob.setB _,hP,hP,hP,hnd.set hb1 _⟩,zmB _,fun j u h=>absurd h (zmU _)⟩ (fun ⟨i,m⟩ H2 ⟨hm,⟨hob2,hb2,h42,h52,hnd2⟩,hi,hno⟩=>?_)
  clear hob hb1 h4 h5 hnd h5l hbk1;dsimp only at hm hi hno ⊢;subst hm;have h5l:=(zl_ h52);have hlm:((sgn l).map AV.str).length=(sgn l).length:=zoU _;have hsg:(sgn l).length<=6:=zZ0 l;by_cases hlt:i<(sgn l).length
  ·obtain ⟨t,ht⟩:∃ t,(sgn l)[i]?=some t:=⟨_,zoO hlt⟩;have htm:((sgn l).map AV.str)[i]?=some (.str t):=by rw [zoX,ht];rfl
   have hsl:zCm none (.str s) (some (zL (skip s a))) none=some (.str (s.drop (skip s a))):=zIJ s _ hA2;have hxx:=hX (s.drop (skip s a)) t H2;cases hpre:t.isPrefixOf (s.drop (skip s a)) with
   |false=>
    rw [hpre] at hxx;clear hT hbk hO hX;refine sW ?_;refine zSO rfl htm<|sW ?_;refine za hsl<|sW ?_;refine zQ (r:=i+1) rfl tO ?_;refine zAJ (L2St.mk (i+1) (H.length+1)) rfl ⟨rfl,⟨hob2,hb2,h42,h52,hnd2⟩,by simp only;omega,fun j u hj hu=>?_⟩ (by simp only;omega)
    by_cases hji:j=i
    ·subst hji;rw [ht] at hu;cases hu;exact hpre
    ·exact hno j u (by simp only at hj;omega) hu
   |true=>
    rw [hpre] at hxx;obtain ⟨⟨hm1,hm2⟩,hm3,hm4⟩:=zZz (n:=n) (d:=d) hl3 hal ht hpre hno;rw [hm4] at hq;have hoo:=fun H'=>hO t H' hm3;have htw:=fun H'=>hT (skip s a+t.length) H' tO hm1 (.inr tO);have hee:=fun q=>zUP (d:=d) (q:=q) hl3 hm1;clear hT hbk hO hX hm4 hx;have hpa2:p<skip s a+t.length:=by omega
    generalize hA3:skip s a+t.length=a2 at *;generalize skip s a=a1 at *;refine sW ?_;refine zSO rfl htm<|sW ?_;refine za hsl<|sW ?_;refine zQ (r:=a2) tO tO<|sS (.int .i64 ↑a2) [.str s,.int .i64 ↑a2,zL d] ?_;refine sW ?_;refine zQ (r:=l+1) rfl tO ?_
    cases hr2:twS s (l+1) a2 d with
    |none=>
     rw [hr2] at htw hq;have hq:none=r:=hq;subst hq;have hc:=fun H' h1=>(htw H' h1).2 rfl;clear htw hee;have e0:mkR s d none=none:=rfl;rw [e0];refine zG2 ?_ ?_
     ·refine sW ?_;refine zAz (hc _ hP) ?_;exact sP
     ·refine zAz (hc _ hP) ?_;exact sP
    |some q2=>
     obtain ⟨n2,e2⟩:=q2;have hee2:=hee _ hr2;rw [hr2] at htw hq;have hq:bl s ((P s).ll (l+1) (zAn (zCE t) n n2) e2 d)=r:=hq;have hc:=fun H' h1=>(htw H' h1).1 n2 e2 rfl;clear htw hee hr2;obtain ⟨⟨hk1,hk2⟩,hk3⟩:=hee2;simp only at hk1 hk2 hk3;have hnd3:=(hnd2.set hb2 (rdB s a2 d)).set (b:=b) (cs:=[.str s,zL a2,zL d]) hP (rdB s e2 d);have hob3:=(hob2.setB (rdB s a2 d)).setB (rdB s e2 d);have hb3:((H2.set b (rdB s a2 d)).set b (rdB s e2 d))[b]?=some (rdB s e2 d):=hP;have h43:((H2.set b (rdB s a2 d)).set b (rdB s e2 d))[H.length]?=some (.box (ndC zU)):=hP;have h53:((H2.set b (rdB s a2 d)).set b (rdB s e2 d))[H.length+1]?=some (.box (ndX n x)):=hP;obtain ⟨H4,hz,hl4',hbx,hol⟩:=hnd3.frz 0 (zmB _);have hz2:zKR 0 [.agg (ndX n x),ndV n2] ((H2.set b (rdB s a2 d)).set b (rdB s e2 d))=some ([ndV n,ndV n2],H4):=zHV hz rfl;have hob4:OldB H b (rdB s e2 d) H4:=⟨hbl,hol hbl hob3.old⟩;have hb4:=hbx _ _ hb3;have h44:=hbx _ _ h43;have h54:=hbx _ _ h53;have h44l:=(zl_ h54);clear hbx hol hz hnd3 hnd2 hob2;refine zG2 ?_ ?_
     ·refine sW ?_;refine zCP (hc _ hP)<|zGc [ndV n,ndV n2] H4 hz2 rfl<|sW ?_;refine sS (.agg (ndX (zAn (zCE t) n n2) (.sl (some false) H4.length 12 0 2))) (ndX (zAn (zCE t) n n2) (.sl (some false) H4.length 12 0 2)) ?_;refine ⟨rfl,zAJ (T2St.mk (H.length+1) e2 (zAn (zCE t) n n2) (.sl (some false) H4.length 12 0 2)) rfl ⟨⟨rfl,⟨(hob4.push _).set tO _,hP,hP,hP,.inr ⟨zCE t,n,n2,H4.length,rfl,rfl,hP,by omega⟩,hk2,hk3,hq⟩⟩,by simp only;omega⟩ (by simp only;omega)⟩
     ·refine zCP (hc _ hP)<|sW ?_;refine zGc [ndV n,ndV n2] H4 hz2 rfl<|sW ?_;refine sS (.agg (ndX (zAn (zCE t) n n2) (.sl (some false) H4.length 12 0 2))) (ndX (zAn (zCE t) n n2) (.sl (some false) H4.length 12 0 2)) ?_;refine ⟨rfl,zAJ (T2St.mk (H.length+1) e2 (zAn (zCE t) n n2) (.sl (some false) H4.length 12 0 2)) rfl ⟨⟨rfl,⟨(hob4.push _).set tO _,hP,hP,hP,.inr ⟨zCE t,n,n2,H4.length,rfl,rfl,hP,by omega⟩,hk2,hk3,hq⟩⟩,by simp only;omega⟩ (by simp only;omega)⟩
  ·have hdone:bl s ((P s).ll (l+1) n a d)=some (n,skip s a):=zZy hal hx fun t ht=>by
    obtain ⟨j,hj⟩:=zo6 ht;exact hno j t (by have:=(zl_ hj);omega) hj
   rw [hdone] at hq;subst hq;have e0:mkR s d (some (n,skip s a))=some (ndV n,rdB s (skip s a) d):=rfl;rw [e0];clear hT hbk hO hX hdone;generalize skip s a=a1 at *;refine sW ?_;refine zM (v:=.agg (ndX n x)) (ndX n x) hP rfl hnd2.one rfl rfl ?_;obtain ⟨H4,hz,hl4',hbx,hol⟩:=(hnd2.set h42 (.box (ndX n x))).frz H.length (zoR _);have hob3:=hob2.set (c:=H.length) (zoR _) (.box (ndX n x));exact zAC (o:=0) (.agg (ndX n x)) rfl rfl rfl (zJ hP) rfl hz (zJR _ _) ⟨hbl,hol hbl hob3.old⟩ rfl
 generalize n0=n at *;generalize e0=a at *;have hal:=hq1.2;have hx:=hq2;have hq:=hr;obtain ⟨x,hxe⟩:∃ x,x=AV.lst (some n.kq) n.kk (kxs n):=⟨_,rfl⟩;have hA1:=zFg s a;have hA2:=zCO hal;refine sW ?_;refine zQ (r:=l+1) rfl tO<|zCP (hc0 _ hP)<|sSA (ndV n) ?_;refine sW ?_;refine zBA ⟨by omega,by omega⟩<|zg3 hG<|z8 (.lst (some false) 1 ((sgn l).map AV.str)) (zQB hl3 zS_)<|zPC ?_;refine zAr (fun st:L2St=>[(5,pR st.m),(1,zL l),(0,pR b),(4,pR H.length),(22,zL st.i),(20,.lst (some false) 1 ((sgn l).map AV.str)),(21,.int .i64 ((sgn l).map AV.str).length)])
  (fun st H'=>st.m=H.length+1/\(OldB H b (rdB s (skip s a) d) H'/\H'[b]?=some (rdB s (skip s a) d)/\H'[H.length]?=some (.box (ndC zU))/\H'[H.length+1]?=some (.box (ndX n x))/\NdO H H' n x)/\st.i<=(sgn l).length/\∀ j u,j<st.i->(sgn l)[j]?=some u->u.isPrefixOf (s.drop (skip s a))=false)
  (fun st=>(sgn l).length-st.i) ⟨0,_⟩ rfl ⟨hZ _ _,⟨((((((OldB.start hb).push _).setB _).push _).set zS_ _).setB _),hP,hP,by rw [hxe,<-hZ (.box (ndC zU)) (rdB s a d)];exact hP,.inl hxe⟩,zmB _,fun j u h=>absurd h (zmU _)⟩ (fun ⟨i,m⟩ H2 ⟨hm,⟨hob2,hb2,h42,h52,hnd2⟩,hi,hno⟩=>?_)
 clear hb;dsimp only at hm hi hno ⊢;subst hm;have h5l:=(zl_ h52);have hlm:((sgn l).map AV.str).length=(sgn l).length:=zoU _;have hsg:(sgn l).length<=6:=zZ0 l;by_cases hlt:i<(sgn l).length
 ·obtain ⟨t,ht⟩:∃ t,(sgn l)[i]?=some t:=⟨_,zoO hlt⟩;have htm:((sgn l).map AV.str)[i]?=some (.str t):=by rw [zoX,ht];rfl
  have hsl:zCm none (.str s) (some (zL (skip s a))) none=some (.str (s.drop (skip s a))):=zIJ s _ hA2;have hxx:=hX (s.drop (skip s a)) t H2;cases hpre:t.isPrefixOf (s.drop (skip s a)) with
  |false=>
   rw [hpre] at hxx;clear hT hbk hO hX hc0;refine sW ?_;refine zSO rfl htm<|sW ?_;refine za hsl<|sW ?_;refine zQ (r:=i+1) rfl tO ?_;refine zAJ (L2St.mk (i+1) (H.length+1)) rfl ⟨rfl,⟨hob2,hb2,h42,h52,hnd2⟩,by simp only;omega,fun j u hj hu=>?_⟩ (by simp only;omega)
   by_cases hji:j=i
   ·subst hji;rw [ht] at hu;cases hu;exact hpre
   ·exact hno j u (by simp only at hj;omega) hu
  |true=>
   rw [hpre] at hxx;obtain ⟨⟨hm1,hm2⟩,hm3,hm4⟩:=zZz (n:=n) (d:=d) hl3 hal ht hpre hno;rw [hm4] at hq;have hoo:=fun H'=>hO t H' hm3;have htw:=fun H'=>hT (skip s a+t.length) H' tO hm1 (.inr tO);have hee:=fun q=>zUP (d:=d) (q:=q) hl3 hm1;clear hT hbk hO hX hm4 hx hc0;have hpa2:p<skip s a+t.length:=by omega
   generalize hA3:skip s a+t.length=a2 at *;generalize skip s a=a1 at *;refine sW ?_;refine zSO rfl htm<|sW ?_;refine za hsl<|sW ?_;refine zQ (r:=a2) tO tO<|sS (.int .i64 ↑a2) [.str s,.int .i64 ↑a2,zL d] ?_;refine sW ?_;refine zQ (r:=l+1) rfl tO ?_
   cases hr2:twS s (l+1) a2 d with
   |none=>
    rw [hr2] at htw hq;have hq:none=r:=hq;subst hq;have hc:=fun H' h1=>(htw H' h1).2 rfl;clear htw hee;have e0:mkR s d none=none:=rfl;rw [e0];refine zG2 ?_ ?_
    ·refine sW ?_;refine zAz (hc _ hP) ?_;exact sP
    ·refine zAz (hc _ hP) ?_;exact sP
   |some q2=>
    obtain ⟨n2,e2⟩:=q2;have hee2:=hee _ hr2;rw [hr2] at htw hq;have hq:bl s ((P s).ll (l+1) (zAn (zCE t) n n2) e2 d)=r:=hq;have hc:=fun H' h1=>(htw H' h1).1 n2 e2 rfl;clear htw hee hr2;obtain ⟨⟨hk1,hk2⟩,hk3⟩:=hee2;simp only at hk1 hk2 hk3;have hnd3:=(hnd2.set hb2 (rdB s a2 d)).set (b:=b) (cs:=[.str s,zL a2,zL d]) hP (rdB s e2 d);have hob3:=(hob2.setB (rdB s a2 d)).setB (rdB s e2 d);have hb3:((H2.set b (rdB s a2 d)).set b (rdB s e2 d))[b]?=some (rdB s e2 d):=hP;have h43:((H2.set b (rdB s a2 d)).set b (rdB s e2 d))[H.length]?=some (.box (ndC zU)):=hP;have h53:((H2.set b (rdB s a2 d)).set b (rdB s e2 d))[H.length+1]?=some (.box (ndX n x)):=hP;obtain ⟨H4,hz,hl4',hbx,hol⟩:=hnd3.frz 0 (zmB _);have hz2:zKR 0 [.agg (ndX n x),ndV n2] ((H2.set b (rdB s a2 d)).set b (rdB s e2 d))=some ([ndV n,ndV n2],H4):=zHV hz rfl;have hob4:OldB H b (rdB s e2 d) H4:=⟨hbl,hol hbl hob3.old⟩;have hb4:=hbx _ _ hb3;have h44:=hbx _ _ h43;have h54:=hbx _ _ h53;have h44l:=(zl_ h54);clear hbx hol hz hnd3 hnd2 hob2;refine zG2 ?_ ?_
    ·refine sW ?_;refine zCP (hc _ hP)<|zGc [ndV n,ndV n2] H4 hz2 rfl<|sW ?_;refine sS (.agg (ndX (zAn (zCE t) n n2) (.sl (some false) H4.length 12 0 2))) (ndX (zAn (zCE t) n n2) (.sl (some false) H4.length 12 0 2)) ?_
     exact ⟨rfl,hmk ⟨H.length+1,e2,zAn (zCE t) n n2,.sl (some false) H4.length 12 0 2⟩ _ ⟨rfl,⟨(hob4.push _).set tO _,hP,hP,hP,.inr ⟨zCE t,n,n2,H4.length,rfl,rfl,hP,by omega⟩,hk2,hk3,hq⟩⟩ (by simp only;omega)⟩
    ·refine zCP (hc _ hP)<|sW ?_;refine zGc [ndV n,ndV n2] H4 hz2 rfl<|sW ?_;refine sS (.agg (ndX (zAn (zCE t) n n2) (.sl (some false) H4.length 12 0 2))) (ndX (zAn (zCE t) n n2) (.sl (some false) H4.length 12 0 2)) ?_
     exact ⟨rfl,hmk ⟨H.length+1,e2,zAn (zCE t) n n2,.sl (some false) H4.length 12 0 2⟩ _ ⟨rfl,⟨(hob4.push _).set tO _,hP,hP,hP,.inr ⟨zCE t,n,n2,H4.length,rfl,rfl,hP,by omega⟩,hk2,hk3,hq⟩⟩ (by simp only;omega)⟩
 ·have hdone:bl s ((P s).ll (l+1) n a d)=some (n,skip s a):=zZy hal hx fun t ht=>by
   obtain ⟨j,hj⟩:=zo6 ht;exact hno j t (by have:=(zl_ hj);omega) hj
  rw [hdone] at hq;subst hq;have e0:mkR s d (some (n,skip s a))=some (ndV n,rdB s (skip s a) d):=rfl;rw [e0];clear hT hbk hO hX hdone hc0;generalize skip s a=a1 at *;refine sW ?_;refine zM (v:=.agg (ndX n x)) (ndX n x) hP rfl hnd2.one rfl rfl ?_;obtain ⟨H4,hz,hl4',hbx,hol⟩:=(hnd2.set h42 (.box (ndX n x))).frz H.length (zoR _);have hob3:=hob2.set (c:=H.length) (zoR _) (.box (ndX n x));exact zAC (o:=0) (.agg (ndX n x)) rfl rfl rfl (zJ hP) rfl hz (zJR _ _) ⟨hbl,hol hbl hob3.old⟩ rfl
end
structure ParK (PR:Program):Prop where
 hm:PR.follows .mixedOrders=true
 contains:zCU PR zAF zBb=true
 mkSet:zCU PR zBR zDI=true
 trimR:zCU PR zA7 zCh=true
 trimL:zCU PR zBF zCx=true
 trim:zCU PR zDD zHC=true
 slPre:zCU PR zAm zCw=true
 pre:zCU PR zA1 zER=true
 slTrim:zCU PR zA8 zCj=true
 trimP:zCU PR zBJ zD1=true
 wrong:zCU PR zCt zH9=true
 is:zCU PR zDs zMM=true
 whole:zCU PR zCv zIE=true
 lit:zCU PR zAi zGI=true
 ref:zCU PR zCG zMO=true
 dollar:zCU PR zEl zIF=true
 wordly:zCU PR zBM zEL=true
 called:zCU PR zBL zFf=true
 plain:zCU PR zAt zGJ=true
 opOf:zCU PR zD6 zHB=true
 fail:zCU PR zo zDE=true
 blanks:zCU PR zn zCc=true
 word:zCU PR zAa zDH=true
 want:zCU PR zAD zDF=true
 within:zCU PR zAE zCe=true
 text:zCU PR zBQ zDG=true
 neg:zCU PR zAT zDb=true
 negc:zCU PR zA5 zCf=true
 prim:zCU PR zBP zx=true
 prim1:zCU PR zAZ zCM=true
 prim2:zCU PR zAK zCN=true
 call:zCU PR zB5 zB6=true
 argument:zCU PR zBO zCD=true
 two:zCU PR zr zCJ=true
structure ParG (PR:Program) (GT:zG_):Prop where
 atoi:∀ s H,zEW s->zDi (zNK s)->s.length<=1000->Good PR GT zBY [.str s] H (.tup [zK (zNK s),.nili]) H
 atoi2:∀ s H,zEW s->¬ zDi (zNK s)->s.length<=1000->∃ n t,Good PR GT zBY [.str s] H (.tup [zK n,.iface t .undef]) H
 texts:GT zEo=some zOi
 loose:GT zEn=some zSo
section
variable {PR:Program} {GT:zG_}
theorem zOj (hm:PR.follows .mixedOrders=true) {f:Nat} {F:AF} {args:List AV} {H:Heap} {b:Nat} {s:Bs} {d:Nat} {r:Option (Nd×Nat)} (hc:zCU PR f F=true) (h:zCk (Good PR GT) GT F args H b (wkC s) zHK (mkR s d r)) (hn:zIt args=true:=by rfl):CR (Good PR GT) f args H b s d r:=
 have h:=zAo hm hc h hn
 ⟨fun n e hr=>h.1 _ _ (by subst hr;rfl),fun hr=>h.2 (by subst hr;rfl)⟩
section
variable (k:ParK PR)
include k
theorem zQC (b:Nat) (g:Nat->Bool) (c:UInt8) (H:Heap) (hb:H[b]?=some (.box (zKL g))):Good PR GT zAF [pR b,byV c] H (.bool (g c.toNat)) H:=zF k.hm k.contains (zUJ b g c H hb)
theorem zg4 (cs:Bs) (H:Heap) (hcs:∀ c∈cs,c.toNat<128) (hl:cs.length<=1000):Good PR GT zBR [.str cs] H (.tup [.agg (zKL (zJP cs)),.bool true]) H:=zF k.hm k.mkSet (zdZ cs H hcs hl)
section
variable (s cs:Bs) (b:Nat) (H:Heap) (hb:H[b]?=some (.box (zKL (zJP cs)))) (hl:s.length<=1000)
include s cs b H hb hl
theorem zg5:Good PR GT zA7 [.str s,pR b] H (.str (zNJ s cs)) H:=zF k.hm k.trimR (zda (zQC k) s cs b H hb hl)
theorem zg6:Good PR GT zBF [.str s,pR b] H (.str (s.dropWhile fun c=>zJP cs c.toNat)) H:=zF k.hm k.trimL (zdb (zQC k) s cs b H hb hl)
end
theorem zf8 (s cs:Bs) (H:Heap) (hcs:∀ c∈cs,c.toNat<128) (hc2:2<=cs.length) (hcl:cs.length<=1000) (hl:s.length<=1000):Good PR GT zDD [.str s,.str cs] H (.str (zPa s cs)) H:=zF k.hm k.trim (zdc (zg4 k) (zg5 k) (zg6 k) s cs H hcs hc2 hcl hl)
theorem zZ1 (s p:Bs) (H:Heap):Good PR GT zAm [.str s,.str p] H (.bool (p.isPrefixOf s)) H:=zF k.hm k.slPre (zSh s p H)
theorem zg7 (s p:Bs) (H:Heap):Good PR GT zA1 [.str s,.str p] H (.bool (p.isPrefixOf s)) H:=zF k.hm k.pre (zZa (zZ1 k) s p H)
theorem zdz (s p:Bs) (H:Heap):Good PR GT zA8 [.str s,.str p] H (.str (if p.isPrefixOf s=true then s.drop p.length else s)) H:=zF k.hm k.slTrim (zNL (zZ1 k) s p H)
theorem zg8 (s p:Bs) (H:Heap):Good PR GT zBJ [.str s,.str p] H (.str (if p.isPrefixOf s=true then s.drop p.length else s)) H:=zF k.hm k.trimP (zRG (zdz k) s p H)
theorem zg9 (s:Bs) (H:Heap):Good PR GT zBJ [.str s,.str [45]] H (.str (zD0 s).2) H:=by
 have h:=zg8 (GT:=GT) k s [45] H;have e:(if ([45]:Bs).isPrefixOf s=true then s.drop ([45]:Bs).length else s)=(zD0 s).2:=by
  cases s with
  |nil=>rfl
  |cons c r=>
   unfold zD0;by_cases hc:c=45
   ·subst hc;rfl
   ·have h1:([45]:Bs).isPrefixOf (c::r)=false:=by
     simp only [List.isPrefixOf,zm1];exact tN (fun e=>hc e.symm)
    rw [h1];simp only [zWl hc];rfl
 rw [e] at h;exact h
theorem zZ2 (n:Int) (H:Heap):Good PR GT zCt [zK n] H (v3 4 n) H:=zF k.hm k.wrong (zdg n H)
theorem p_is (b:Bool) (H:Heap):Good PR GT zDs [.bool b] H (v3 3 (if b=true then 1 else 0)) H:=zF k.hm k.is (is_ev b H)
theorem zRJ (s:Bs) (H:Heap) (hl:s.length<=1000):Good PR GT zBL [.str s] H (.bool (zA3 s)) H:=zF k.hm k.called (zZh (zf8 k) s H hl)
theorem zd0 (b:Nat) (t:Bs) (H:Heap) (hb:H[b]?=some (.box [.str t])):Good PR GT zEl [pR b] H (.bool (dollar t).1) (H.set b (.box [.str (dollar t).2])):=(zAo k.hm k.dollar (zZj b t H hb .undef)).1 _ _ rfl
theorem zjy (s:Bs) (H:Heap) (hl:s.length<=1000):Good PR GT zCG [.str s] H (zZf (zE8 s)) H:=zF k.hm k.ref (zjs (zd0 k) s H hl)
theorem zhA (g:ParG PR GT) (s:Bs) (H:Heap) (hl:s.length<=1000):∃ n0,Good PR GT zCv [.str s] H (zZe (zQA s) n0) H:=by
 obtain ⟨n0,h⟩:=zdi (zf8 k) (zg9 k) g.atoi g.atoi2 s H hl;exact ⟨n0,zF k.hm k.whole h⟩
theorem zjz (g:ParG PR GT) (s:Bs) (H:Heap):Good PR GT zAi [.str s] H (litV (zSn s)) H:=zF k.hm k.lit (zXW g.texts (p_is k) (zZ2 k) s H)
theorem zLl (c:UInt8) (H:Heap):Good PR GT zBM [byV c] H (.bool (zh c)) H:=zF k.hm k.wordly (zXT c H)
theorem zKM (b:Nat) (s:Bs) (p d:Nat) (a e:Int) (H:Heap) (hb:H[b]?=some (rdB s p d)):Good PR GT zo (.pan .undef::[pR b,.int .i64 a,zFo e]) H zHK (H.set b (.box (wkC s))):=(zAo k.hm k.fail (zdV b s p d a e H hb)).2 rfl
section
variable (b:Nat) (s:Bs) (p d:Nat) (H:Heap) (hb:H[b]?=some (rdB s p d)) (hp:p<=s.length) (hl:s.length<=200)
include b s p d H hb hp hl
theorem zIN:Good PR GT zn [pR b] H (.tup []) (H.set b (rdB s (skip s p) d)):=(zAo k.hm k.blanks (zZX b s p d H hb hp hl)).1 _ _ rfl
theorem zVk:Good PR GT zAa [pR b] H (.str (sub s p (zlz s p))) (H.set b (rdB s (zlz s p) d)):=(zAo k.hm k.word (zgn (zLl k) b s p d H hb hp hl)).1 _ _ rfl
end
theorem zf9 (t:Bs) (H:Heap) (h:zCE t≠0):Good PR GT zD6 [.str t] H (zL (zCE t)) H:=zF k.hm k.opOf (zgr t H h)
theorem zgA (c:UInt8) (b:Nat) (s:Bs) (p d:Nat) (H:Heap) (hb:H[b]?=some (rdB s p d)) (hp:p<=s.length) (hl:s.length<=200) :
  (s[skip s p]?=some c->Good PR GT zAD [pR b,byV c] H (.tup []) (H.set b (rdB s (skip s p+1) d)))/\(s[skip s p]?≠some c->Good PR GT zAD (.pan .undef::[pR b,byV c]) H zHK (H.set b (.box (wkC s)))):=
 have h:=zAo k.hm k.want (zgs (C:=Good PR GT) (GT:=GT) (zIN k) (zKM k) c b s p d H hb hp hl)
 ⟨fun hc=>h.1 _ _ (zoQ hc),fun hc=>h.2 (zWl hc)⟩
theorem zRK (f:Nat) (caps:List AV) (a:Int) (b:Nat) (s:Bs) (p d:Nat) (H:Heap) (r:Option (Nd×Nat)) (hb:H[b]?=some (rdB s p d)) (hd:d<=1000)
  (hC:∀ H',H'[b]?=some (rdB s p (d+1))->Off H b H'->CR (Good PR GT) f caps H' b s (d+1) r):CR (Good PR GT) zAE [pR b,.int .i64 a,.fn f [] caps] H b s d (if d=30 then none else r):=
 zOj k.hm k.within (zZk (zKM k) f caps a b s p d H hb hd r hC)
theorem zj0 (b:Nat) (s:Bs) (p d:Nat) (H:Heap) (hb:H[b]?=some (rdB s p d)) (hp:p<s.length) (hl:s.length<=200):CR (Good PR GT) zBQ [pR b] H b s d ((quo (s.drop (p+1)) (p+1)).map fun q=>(zHG q.1,q.2)):=
 zOj k.hm k.text (zgv (zKM k) b s p d H hb hp hl)
theorem zZ3 (g:ParG PR GT) (t:Bs) (H:Heap) (hl:t.length<=1000) (h45:t.head?≠some 45) (h35:t.head?≠some 35):Good PR GT zAt [.str t] H (zLi (zII t)) H:=zF k.hm k.plain (zdo (zhA k g) (zjz k g) (zjy k) t H hl h45 h35)
theorem zj1 (g:ParG PR GT) (b:Nat) (s:Bs) (p d:Nat) (H:Heap) (hb:H[b]?=some (rdB s p d)) (hp:p<=s.length) (hl:s.length<=200) (hd:d<=1000) (h32:s[p]?≠some 32) (h45:s[p]?≠some 45)
  (hPa:s[p]?=some 40->∀ H' rb,H'[b]?=some (rdB s p (d+1))->H'[rb]?=some (.box [pR b])->CR (Good PR GT) zAZ [pR rb] H' b s (d+1) (zdn s p (d+1)))
  (hCl:∀ e t,s[e]?=some 40->p<e->∀ H' rb sb,H'[b]?=some (rdB s e (d+1))->H'[rb]?=some (.box [pR b])->H'[sb]?=some (.box [.str t])->CR (Good PR GT) zAK [pR rb,pR sb] H' b s (d+1) (zIm s t e (d+1))) :
  CR (Good PR GT) zBP [pR b] H b s d (zB8 s (P s) p d):=by
 refine zOj k.hm k.prim ?_;by_cases hlt:p<s.length
 ·obtain ⟨c,hc⟩:∃ c,s[p]?=some c:=⟨_,zoO hlt⟩;by_cases h40:c=40
  ·subst h40;exact zds (zRK k) b s p d H hb hp hl hd hc hPa
  by_cases h34:c=34
  ·subst h34;exact zdt (zj0 k) b s p d H hb hp hl hd hc
  by_cases h35:c=35
  ·subst h35;exact zdu (zKM k) (zjz k g) b s p d H hb hp hl hd hc
  by_cases hw:zh c=true
  ·by_cases h41:s[zlz s p]?=some 40
   ·by_cases hcd:zA3 (sub s p (zlz s p))=true
    ·exact zZq (zLl k) (zVk k) (zRJ k) (zRK k) b s p d H hb hp hl hd c hc hw h41 hcd hCl
    ·exact zUM (zKM k) (zLl k) (zVk k) (zRJ k) (zZ3 k g) b s p d H hb hp hl hd c hc hw h41 hcd
   ·exact zUN (zKM k) (zLl k) (zVk k) (zZ3 k g) b s p d H hb hp hl hd c hc hw h41
  ·exact zZp (zKM k) (zLl k) b s p d H hb hp hl hd c hc h32 h45 h40 h34 h35 hw
 ·exact zdr (zKM k) b s p d H hb hp hl hd hlt
end
theorem zZ4 (s:Bs) (p d:Nat):twS s 0 p d=bl s ((P s).loose 1 p d):=zWl zD_
theorem p_two (k:ParK PR) (g:ParG PR GT) (b:Nat) (s:Bs) (hl:s.length<=200):∀ n p,p<=s.length->s.length-p=n->∀ d H,d+(s.length-p)<=500->H[b]?=some (rdB s p d) ->
  CR (Good PR GT) zAT [pR b] H b s d ((P s).one p d)/\∀ l,l<=4->CR (Good PR GT) zr [pR b,zL l] H b s d (twS s l p d):=by
 intro n;induction n using Nat.strongRecOn with
 |_ n ih=>
  intro p hp hn d H hd hb;have ih':=fun p' (h1:p<p') (h2:p'<=s.length) d' H' h3 h4=>ih (s.length-p') tO p' h2 rfl d' H' h3 h4;clear ih;have h0:∀ p',p<p'->p'<=s.length->∀ d' H',d'+(s.length-p')<=500->H'[b]?=some (rdB s p' d')->CR (Good PR GT) zr [pR b,zK 0] H' b s d' (bl s ((P s).loose 1 p' d')):=fun p' h1 h2 d' H' h3 h4=>by
   have:=(ih' p' h1 h2 d' H' h3 h4).2 0 tO;rw [zZ4] at this;exact this
  have hneg:∀ H,H[b]?=some (rdB s p d)->CR (Good PR GT) zAT [pR b] H b s d ((P s).one p d):=fun H hb=>by
   have hq:=zFg s p;have hq2:=zCO hp;refine zOj k.hm k.neg (zjv (zIN k) (zRK k) b s p d H hb hp hl tO (fun h45 H' rb h1 h2=>?_) (fun h45 H' h1=>?_))
   ·have hlt:=(zl_ h45);exact zOj k.hm k.negc (zgt b rb s (skip s p) (d+1) H' h1 h2 hlt hl fun H'' h3=>(ih' (skip s p+1) tO tO (d+1) H'' tO h3).1)
   ·refine zj1 k g b s (skip s p) d H' h1 hq2 hl tO (zUG s p) h45 (fun h40 H'' rb h2 h3=>?_) (fun e t h40 he H'' rb sb h2 h3 h4=>?_)
    ·have hlt:=(zl_ h40);exact zOj k.hm k.prim1 (zjt (zgA k) b rb s (skip s p) (d+1) H'' h2 h3 hlt hl fun H3 h4=>h0 (skip s p+1) tO tO (d+1) H3 tO h4)
    ·have hlt:=(zl_ h40);refine zOj k.hm k.prim2 (zdp b rb sb s t e (d+1) H'' h2 h3 h4 _ fun H3 h5=>?_);refine zOj k.hm k.call (zg2 (zIN k) (zgA k) t b s e (d+1) H3 h5 hlt hl fun a H4 h6 h7 h8=>?_);have ha:=zFg s a;have ha2:=zCO h7;refine zOj k.hm k.argument (zjw (zIN k) (zKM k) (zVk k) (zjy k) b s a (d+1) H4 h8 h7 hl fun H5 h9=>?_);have:=h0 (skip s a) tO ha2 (d+1) H5 tO h9;rw [zP8 1 (d+1) h7] at this;exact this
  refine ⟨hneg H hb, ?_⟩;have hall:∀ j l,l+j=4->∀ H,H[b]?=some (rdB s p d)->CR (Good PR GT) zr [pR b,zL l] H b s d (twS s l p d):=by
   intro j;induction j with
   |zero=>
    intro l hlj H hb;exact zOj k.hm k.two (zf7 (zIN k) (zf9 k) (zg7 k) g.loose l b s p d H hb hp hl tO (fun H' _ h=>hneg H' h) (fun a H' h=>by omega))
   |succ j ihj=>
    intro l hlj H hb;refine zOj k.hm k.two (zf7 (zIN k) (zf9 k) (zg7 k) g.loose l b s p d H hb hp hl tO (fun H' h=>by omega) (fun a H' h1 h2 h3 h4 h5=>?_));rcases h4 with rfl|h4
    ·exact ihj (l+1) tO H' h5
    ·exact (ih' a h4 h3 d H' tO h5).2 (l+1) tO
  exact fun l hl4=>hall (4-l) l tO H hb
end
open Go.RowKit Go.Proofs
def zGt:Value:=.iface 182 (.agg #[.pointer (some ⟨11,30,none⟩)])
def zd1:AV:=.agg (Lib.pow10Tab.map fun z=>.int .u64 z)
def gtQ (m:Int) (ev:Value):Nat->Option AV
 |0=>some (.raw zGt)
 |1=>some zSo
 |2=>some zOi
 |3=>some (.int .i64 m)
 |6=>some zd1
 |8=>some (.raw ev)
 |_=>none
theorem zhB {m:Int} {ev:Value} (n old:Int) (b:Nat) (H:Heap) (hb:H[b]?=some (.box [.int .i64 old])):Good Tryz.prog (gtQ m ev) zKf [.iface zd (.int .i64 n),.iface zIz (.ref b 0 0 0)] H (.bool true) (H.set b (.box [.int .i64 n])):=by
 intro w M I cargs hS hA;obtain ⟨v,u,rfl,hv,hu⟩:=zdO hA;cases hv with
 |iface _ _ v' hv'=>
 obtain rfl:=zIG hv';cases hu with
 |iface _ _ u' hu'=>
 cases hu' with
 |ref _ _ _ _ g o hbn hM=>
 have h0:=hS.glob 0 (.raw zGt) rfl;have hg:w.cell? ⟨0,0,none⟩=some zGt:=by
  cases h0 with
  |lref _ _ _ _ V hI hx hvv hr=>
   have h1:=hvv 0 (.raw zGt) rfl;have h2:=hr 0 (.raw zGt) rfl;rw [h1,zVc h2]
 obtain ⟨g',o',cur,h1,hC,h3,h4,h5⟩:=hS.blk b _ hb;rw [hM] at h1;simp only [zoS,zob] at h1;obtain ⟨rfl,rfl⟩:=h1;obtain ⟨u0,e1,e2⟩:=h5 0 _ rfl;obtain rfl:=zIG e2;rw [zmz] at e1;have ht0:w.cell? ⟨g,o,none⟩=some (.int .i64 old):=by rw [hC.cell?];exact e1
 have hf0:w.frozen? ⟨g,o,none⟩=false:=by
  obtain ⟨e,fz,hg',hfz⟩:=hC;have hlt:=(zoo.1 e1).1;have:=hfz o hlt;simp only [World.frozen?,hg',znH,zl4];by_cases h:fz.1<=o
  ·exact .inr fun h'=>this ⟨h,h'⟩
  ·exact .inl h
 rw [zZS Tryz.func69 (by kernel_rfl) (by kernel_rfl)];refine (Go.Proofs.YtmfmhljpddpfnaaGreatDoor.As.as_hit n ⟨g,o,none⟩ (.int .i64 old) w hg ht0 hf0).mono ?_;rintro e w' ⟨rfl,rfl⟩;refine ⟨_,rfl,M,I, ?_⟩;obtain ⟨G1,S1⟩:=zIH hS (((((Below.refl w.heap.size w).alloc (zoR _) (.cells #[.pointer (some ⟨g,o,none⟩)] 107)).alloc (by simp <;> omega) (.cells #[.pointer (some ⟨11,107,none⟩),.pointer (some ⟨w.heap.size,0,none⟩),.int .u64 150] 147)).alloc (by simp <;> omega) (.cells #[.pointer (some ⟨11,107,none⟩),.pointer (some ⟨w.heap.size,0,none⟩),.int .u64 150] 147)).alloc (by simp <;> omega) (.cells #[.int .i64 n] 47));obtain ⟨G2,S2⟩:=zUE S1 hb hM (x:=.int .i64 n) (v:=.int .i64 n) (fun _=>.int _ _);exact ⟨G1.trans G2,S2,.bool true⟩
section
variable {C:CSpec} {GT:zG_}
theorem zUQ (H:Heap):EFun C GT zI4 [.nili] H (.int .i64 0) H:=by
 refine za rfl ?_;refine zD ?_;exact sRr
theorem zUR (hA:∀ (n old:Int) (b:Nat) (H:Heap),H[b]?=some (.box [.int .i64 old])->C zKf [.iface zd (.int .i64 n),.iface zIz (.ref b 0 0 0)] H (.bool true) (H.set b (.box [.int .i64 n])))
  (n:Int) (H:Heap):EFun C GT zI4 [zFo n] H (.int .i64 n) H:=by
 refine za rfl ?_;refine zC ?_;have h:=hA n 0 H.length (H++[ABlk.box [.int .i64 0]]) zB;refine zBc h (fun h=>by cases h) ?_;refine zD ?_;refine zA (.int .i64 n) (zS zB) rfl ?_;exact zAQ rfl rfl rfl rfl ((Old.refl H).pushSet _ _)
theorem zhC (hT0:∀ H,C zEY [.nili] H (.int .i64 0) H) (hT:∀ n H,C zEY [zFo n] H (.int .i64 n) H) (x:AV) (n e:Int) (hx:zjm x n) (H:Heap):EFun C GT zI0 [x,.int .i64 e] H (.bool (n==e)) H:=by
 rcases hx with ⟨rfl,rfl⟩|rfl
 ·refine zI (hT0 H) ?_;exact sRr
 ·refine zI (hT n H) ?_;exact sRr
end
end Go.AM
