/- Several texts of mine in one (Fp3, Fr4, Fr5, Fp4, Fr6). Own work. -/
import Derived.Test.YtkeblfepjkdleaaGreatDoorGFp2Fr3
import Derived.Test.YtkeblfepjkdleaaGreatDoorGFq0Bg0
set_option maxRecDepth 20000
set_option linter.all false
namespace Go.AM
theorem zN9 {s:Bs} {p:Nat} (h:s[p]?≠some 32):tok s p=zBk s p:=by unfold tok;rw [zDm h]
theorem zhU {s:Bs} {p d:Nat} (h:s[p]?=some 40):zB8 s (P s) p d=if d=30 then none else zeT s p (d+1):=by
 have hs:skip s p=p:=zDm (by rw [h];simp);have ht:=zIM (s:=s) (p:=p) (c:=40) (by rw [hs];exact h) zD_;rw [hs] at ht;unfold zB8 zeT;rw [ht];rfl
theorem zhV {s:Bs} {p d:Nat} (h:s[p]?=some 34):zB8 s (P s) p d=(quo (s.drop (p+1)) (p+1)).map fun q=>(zHd q.1,q.2):=by
 have ht:tok s p=zBk s p:=zN9 (by rw [h];simp);unfold zB8;rw [ht];unfold zBk;rw [h];have hw:zh 34=false:=by decide
 simp only [hw,zlO,zlj,zlp];cases quo (s.drop (p+1)) (p+1) with
 |none=>rfl
 |some q=>rfl
theorem zhW {s:Bs} {p d:Nat} (h:s[p]?=some 35):zB8 s (P s) p d=(zK1 (s.drop p) wrongs 1).map fun q=>(zHg q.1,p+q.2):=by
 have ht:tok s p=zBk s p:=zN9 (by rw [h];simp);unfold zB8;rw [ht];unfold zBk;rw [h];have hw:zh 35=false:=by decide
 have h1:¬ ((35:UInt8)=34):=by decide
 simp only [hw,zlO,zlj,zlp,h1];cases zK1 (s.drop p) wrongs 1 with
 |none=>rfl
 |some q=>rfl
theorem zKQ {c:UInt8} (h:zh c=true):c≠32/\c≠45/\c≠35/\c≠34/\c≠40:=by
 refine ⟨?_, ?_, ?_, ?_, ?_⟩ <;> (rintro rfl;revert h;decide)
theorem zXH {s:Bs} {p:Nat} {c:UInt8} (h:s[p]?=some c) (hw:zh c=true):tok s p=.word (zDI s p) (sub s p (zDI s p)):=by
 rw [zN9 (by rw [h];exact fun e=>(zKQ hw).1 (zlb e))];unfold zBk;rw [h];simp only [hw,zlp]
theorem zS2 {s:Bs} {p d:Nat} {c:UInt8} (h:s[p]?=some c) (hw:zh c=true) :
  zB8 s (P s) p d=if zA8 (sub s p (zDI s p))=true/\s[zDI s p]?=some 40 then (if d=30 then none else zJY s (sub s p (zDI s p)) (zDI s p) (d+1)) else (zIu (sub s p (zDI s p))).map fun n=>(n,zDI s p):=by
 unfold zB8;rw [zXH h hw];rfl
theorem zhX {s:Bs} {p d:Nat} (h:s[p]?=none):zB8 s (P s) p d=none:=by
 unfold zB8;rw [zN9 (by rw [h];simp)];unfold zBk;rw [h]
theorem zeW {s:Bs} {p d:Nat} {c:UInt8} (h:s[p]?=some c) (h0:c≠32) (h1:c≠45) (h2:c≠40) (h3:c≠34) (h4:c≠35) (hw:zh c=false):zB8 s (P s) p d=none:=by
 unfold zB8;rw [zN9 (by rw [h];exact fun e=>h0 (zlb e))];unfold zBk;rw [h];simp only [hw,zlO,zlj,h3,h4];split
 ·rename_i heq;split at heq
  ·split at heq <;> cases heq
  ·cases heq
 ·rename_i heq;split at heq
  ·split at heq <;> cases heq
  ·cases heq
 ·rename_i heq;split at heq
  ·split at heq <;> cases heq
  ·cases heq
 ·rename_i heq;split at heq
  ·split at heq
   ·cases heq
   ·simp only [Tok.sign.injEq,zmU,znE] at heq;exact absurd heq.2 h1
  ·simp only [Tok.sign.injEq,zmU,znE] at heq;exact absurd heq.2 h1
 ·rename_i heq;split at heq
  ·split at heq
   ·cases heq
   ·simp only [Tok.sign.injEq,zmU,znE] at heq;exact absurd heq.2 h2
  ·simp only [Tok.sign.injEq,zmU,znE] at heq;exact absurd heq.2 h2
 ·rfl
theorem zO2 {s:Bs} {p e:Nat} {c:UInt8} (h:s[p]?=some c) (he:p<e):(sub s p e).head?=some c:=by
 unfold sub;rw [zBi h];obtain ⟨k,hk⟩:∃ k,e-p=k+1:=⟨e-p-1,by omega⟩;rw [hk];rfl
theorem zNh {s:Bs} {p e:Nat} (he:e<=s.length):(sub s p e).length=e-p:=by
 unfold sub;rw [zla,zlg];omega
theorem zKR {l w:Bs} {n:Nat} (h:l.take n=w):l=w++l.drop n:=by rw [<-h,znS]
theorem zhY {s:Bs} {p e:Nat} (h:s[p]?=some 35) (hpe:p<e) (he:e<=s.length):zUZ (sub s p e)=match zK1 (s.drop p) wrongs 1 with
  |some (k,n)=>if n=e-p then some (4,(k:Int)) else none
  |none=>none:=by
 have hh:=zO2 h hpe;have hl:=zNh (p:=p) he;have hsub:sub s p e=(s.drop p).take (e-p):=rfl;rw [hsub] at hh hl ⊢;clear hsub;generalize s.drop p=l at *;generalize e-p=m at *;unfold zUZ;rw [zlD (fun x=>by rw [x] at hh;revert hh;decide),zlD (fun x=>by rw [x] at hh;revert hh;decide)];by_cases a1:l.take m=[35,68,73,86,33]
 ·rw [zlF a1];have hm:m=5:=by rw [a1] at hl;exact hl.symm
  rw [zKR a1];subst hm;simp [zK1,wrongs]
 by_cases a2:l.take m=[35,86,65,76,85,69,33]
 ·rw [zlD a1,zlF a2];have hm:m=7:=by rw [a2] at hl;exact hl.symm
  rw [zKR a2];subst hm;simp [zK1,wrongs]
 by_cases a3:l.take m=[35,82,69,70,33]
 ·rw [zlD a1,zlD a2,zlF a3];have hm:m=5:=by rw [a3] at hl;exact hl.symm
  rw [zKR a3];subst hm;simp [zK1,wrongs]
 by_cases a4:l.take m=[35,78,65,77,69,33]
 ·rw [zlD a1,zlD a2,zlD a3,zlF a4];have hm:m=6:=by rw [a4] at hl;exact hl.symm
  rw [zKR a4];subst hm;simp [zK1,wrongs]
 by_cases a5:l.take m=[35,78,85,77,33]
 ·rw [zlD a1,zlD a2,zlD a3,zlD a4,zlF a5];have hm:m=5:=by rw [a5] at hl;exact hl.symm
  rw [zKR a5];subst hm;simp [zK1,wrongs]
 by_cases a6:l.take m=[35,78,79,78,69,33]
 ·rw [zlD a1,zlD a2,zlD a3,zlD a4,zlD a5,zlF a6];have hm:m=6:=by rw [a6] at hl;exact hl.symm
  rw [zKR a6];subst hm;simp [zK1,wrongs]
 rw [zlD a1,zlD a2,zlD a3,zlD a4,zlD a5,zlD a6];unfold zK1 wrongs;simp only [zK1];split
 ·rename_i k n hk
  symm
  rw [zlD];intro hn;subst hn
  repeat' split at hk
  ·cases hk;rename_i x;exact a1 x
  ·cases hk;rename_i x;exact a2 x
  ·cases hk;rename_i x;exact a3 x
  ·cases hk;rename_i x;exact a4 x
  ·cases hk;rename_i x;exact a5 x
  ·cases hk;rename_i x;exact a6 x
  ·cases hk
 ·rfl
section
variable {C:CSpec} {GT:zG_}
theorem zeX (hF:∀ b s p d a e H,H[b]?=some (rdB s p d)->C zV (.pan .undef::[pR b,.int .i64 a,zJG e]) H zHh (H.set b (.box (wkC s))))
  (b:Nat) (s:Bs) (p d:Nat) (H:Heap) (hb:H[b]?=some (rdB s p d)) (hp:p<=s.length) (hl:s.length<=200) (hd:d<=1000) (hlt:¬ p<s.length):zCw C GT zAA [pR b] H b (wkC s) zHh (mkR s d (zB8 s (P s) p d)):=by
 have hbl:=zl_ hb;have e:mkR s d (zB8 s (P s) p d)=none:=by rw [zhX (zl0 tO)];rfl
 rw [e];have hf:=fun H' h=>hF b s p d p 2 H' h;clear hF;refine zAJ<|zCR (x:=pR b) rfl<|sW ?_;refine zA6 (hf _ hP) ?_
 exact sP
theorem zeY (hWi:∀ f caps a b s p d H r,H[b]?=some (rdB s p d)->d<=1000->(∀ H',H'[b]?=some (rdB s p (d+1))->Off H b H'->CR C f caps H' b s (d+1) r)->CR C zp [pR b,.int .i64 a,.fn f [] caps] H b s d (if d=30 then none else r))
  (b:Nat) (s:Bs) (p d:Nat) (H:Heap) (hb:H[b]?=some (rdB s p d)) (hp:p<=s.length) (hl:s.length<=200) (hd:d<=1000) (hc:s[p]?=some 40) (hPa:s[p]?=some 40->∀ H' rb,H'[b]?=some (rdB s p (d+1))->H'[rb]?=some (.box [pR b])->CR C zAg [pR rb] H' b s (d+1) (zeT s p (d+1))):zCw C GT zAA [pR b] H b (wkC s) zHh (mkR s d (zB8 s (P s) p d)):=by
 have hbl:=zl_ hb;have hlt:=zl_ hc;rw [zhU hc];have hpa:=hPa hc;have hw:=hWi zAg [pR H.length] p b s p d (H++[.box [pR b]]++[.box (ndC zZ)]) (zeT s p (d+1)) (zD (zD hb)) hd (fun H' h1 ho=>hpa H' H.length h1 (ho _ _ hP tO));clear hWi hPa hpa;refine zAJ ?_;cases hr:(if d=30 then none else zeT s p (d+1)) with
 |none=>
  rw [hr] at hw;have hw:=hw.2 rfl;have e:mkR s d none=none:=rfl;rw [e];refine zCR (x:=pR b) rfl<|sW ?_;refine zA6 hw ?_
  exact sP
 |some q=>
  obtain ⟨n,e⟩:=q;rw [hr] at hw;have hw:=hw.1 n e rfl;have e0:mkR s d (some (n,e))=some (ndV n,rdB s e d):=rfl;rw [e0];refine zCR (x:=pR b) rfl<|sW ?_;refine zCY hw<|sSA (ndV n) ?_
  exact zAH (o:=0) (ndV n) (by first|rfl|assumption) rfl rfl (zI hP) rfl rfl rfl hO rfl
theorem zeZ (hTx:∀ b s p d H,H[b]?=some (rdB s p d)->p<s.length->s.length<=200->CR C zBU [pR b] H b s d ((quo (s.drop (p+1)) (p+1)).map fun q=>(zHd q.1,q.2)))
  (b:Nat) (s:Bs) (p d:Nat) (H:Heap) (hb:H[b]?=some (rdB s p d)) (hp:p<=s.length) (hl:s.length<=200) (hd:d<=1000) (hc:s[p]?=some 34):zCw C GT zAA [pR b] H b (wkC s) zHh (mkR s d (zB8 s (P s) p d)):=by
 have hbl:=zl_ hb;have hlt:=zl_ hc;rw [zhV hc];have hw:=hTx b s p d (H++[.box [pR b]]++[.box (ndC zZ)]) (zD (zD hb)) hlt hl;clear hTx;generalize (quo (s.drop (p+1)) (p+1)).map (fun q=>(zHd q.1,q.2))=r at *;refine zAJ ?_;cases r with
 |none=>
  have hw:=hw.2 rfl;have e:mkR s d none=none:=rfl;rw [e];refine zCR (x:=pR b) rfl<|zA (pR b) hP rfl<|zA (zK p) (zD (zD hb)) rfl<|zA (pR b) hP rfl<|zA (.str s) (zD (zD hb)) rfl<|zi tN ?_;refine zA (pR b) hP rfl<|zA (.str s) (zD (zD hb)) rfl<|zCF rfl hc<|zi (tN zD_)<|zn (tE (by rfl))<|zA (pR b) hP rfl ?_;refine zA6 hw ?_
  exact sP
 |some q=>
  obtain ⟨n,e⟩:=q;have hw:=hw.1 n e rfl;have e0:mkR s d (some (n,e))=some (ndV n,rdB s e d):=rfl;rw [e0];refine zCR (x:=pR b) rfl<|zA (pR b) hP rfl<|zA (zK p) (zD (zD hb)) rfl<|zA (pR b) hP rfl<|zA (.str s) (zD (zD hb)) rfl<|zi tN ?_;refine zA (pR b) hP rfl<|zA (.str s) (zD (zD hb)) rfl<|zCF rfl hc<|zi (tN zD_)<|zn (tE (by rfl))<|zA (pR b) hP rfl ?_;refine zCY hw<|zL (v:=ndV n) (AV.cells (ndV n)) hP rfl rfl rfl rfl ?_
  exact zAH (o:=0) (ndV n) (by first|rfl|assumption) rfl rfl (zI hP) rfl rfl rfl hO rfl
section
variable (hF:∀ b s p d a e H,H[b]?=some (rdB s p d)->C zV (.pan .undef::[pR b,.int .i64 a,zJG e]) H zHh (H.set b (.box (wkC s))))
include hF
theorem zea (hLi:∀ t H,C zAd [.str t] H (litV (zUZ t)) H)
  (b:Nat) (s:Bs) (p d:Nat) (H:Heap) (hb:H[b]?=some (rdB s p d)) (hp:p<=s.length) (hl:s.length<=200) (hd:d<=1000) (hc:s[p]?=some 35):zCw C GT zAA [pR b] H b (wkC s) zHh (mkR s d (zB8 s (P s) p d)):=by
 have hbl:=zl_ hb;have hlt:=zl_ hc;rw [zhW hc];have hlb:=fun e (h1:p<e) (h2:e<=s.length)=>zhY hc h1 h2;have hbe:∀ q,zK1 (s.drop p) wrongs 1=some q->0<q.2/\q.2<=s.length-p:=fun q hq=>by
  have:=zQI _ _ _ _ hq zD_
  rwa [zlg] at this
 have hf:=fun H' h=>hF b s p d p 2 H' h;clear hF;generalize zK1 (s.drop p) wrongs 1=r at *;refine zAJ ?_;refine zCR (x:=pR b) rfl<|zA (pR b) hP rfl<|zA (zK p) (zD (zD hb)) rfl<|zA (pR b) hP rfl<|zA (.str s) (zD (zD hb)) rfl<|zi tN ?_;refine zA (pR b) hP rfl<|zA (.str s) (zD (zD hb)) rfl<|zCF rfl hc<|zi (tN zD_)<|zi (tN zD_)<|zn (tE (by rfl)) ?_;refine zS (r:=p+1) rfl tO ?_;refine zBG (fun k:Nat=>[(2,pR (H++[ABlk.box [pR b]]).length),(5,zK k),(1,pR H.length),(3,zK p)])
  (fun k H'=>OldB H b (rdB s p d) H'/\H'[b]?=some (rdB s p d)/\H'[H.length]?=some (.box [pR b])/\H'[(H++[ABlk.box [pR b]]).length]?=some (.box (ndC zZ))/\p<k/\k<=s.length+1/\∀ q,r=some q->k<=p+q.2)
  (fun k=>s.length+1-k) (p+1) rfl ⟨((OldB.start hb).push _).push _,zD (zD hb),zD zB,zB,by omega,by omega,fun q hq=>by have:=(hbe q hq).1;omega⟩ (fun k H1 ⟨ho,hb1,hr1,h2,hpk,hk,hq⟩=>?_)
 have hlen1:=ho.old.1;rw [zlP] at hlen1;have hl2:=(zl_ h2);have hlH:(H++[ABlk.box [pR b]]).length=H.length+1:=by simp
 by_cases hks:k<=s.length
 ·have hlk:=hlb k hpk hks;have hli:=hLi (sub s p k) H1;clear hLi;by_cases hit:∃ q,r=some q/\k=p+q.2
  ·obtain ⟨⟨kk,nn⟩,rfl,hkn⟩:=hit;simp only at hkn;have e2:zUZ (sub s p k)=some (4,(kk:Int)):=by
    rw [hlk];simp only;rw [zlF tO]
   rw [e2] at hli;have hli:C zAd [.str (sub s p k)] H1 (.tup [v3 4 kk,.bool true]) H1:=hli;have e0:mkR s d (Option.map (fun q:Nat×Nat=>(zHg q.1,p+q.2)) (some (kk,nn)))=some (ndV (zHg kk),rdB s k d):=by rw [hkn];rfl
   rw [e0];refine sW ?_;refine zx (v:=.str (sub s p k)) (zEJ s p k tO tO)<|sW ?_;refine sSA (v3 4 ↑kk) ?_;refine sW ?_;refine sS (zK k) [.str s,zK k,zK d] ?_;refine sW ?_;refine sSA (.agg (zN 4 ↑kk [])) ?_
   exact zAH (o:=0) (ndV (zHg kk)) rfl rfl rfl (zI hP) rfl rfl rfl ((((ho.push _).set tO _).setB _).set tO _) rfl
  ·have e2:zUZ (sub s p k)=none:=by
    rw [hlk];cases r with
    |none=>rfl
    |some q=>
     simp only;rw [zlD (fun e=>hit ⟨q,rfl,by omega⟩)]
   rw [e2] at hli;have hli:C zAd [.str (sub s p k)] H1 (.tup [v3 0 0,.bool false]) H1:=hli;refine sW ?_;refine zx (v:=.str (sub s p k)) (zEJ s p k tO tO)<|sW ?_;refine sSA (v3 0 0) ?_;refine sW ?_;refine zS (r:=k+1) rfl tO ?_;refine zAR (k+1) rfl ⟨(ho.push _).set tO _,zC tO (zD hb1),zC tO (zD hr1),zC tO (zD h2),by omega,by omega,fun q hq'=>?_⟩ tO
   have h3:=hq q hq';rcases zmp k (p+q.2) with h|h
   ·omega
   ·exact absurd ⟨q,hq',by omega⟩ hit
 ·have e2:r=none:=by
   cases r with
   |none=>rfl
   |some q=>
    have:=hq q rfl;have:=(hbe q rfl).2;omega
  subst e2;have e0:mkR s d (Option.map (fun q:Nat×Nat=>(zHg q.1,p+q.2)) none)=none:=rfl;rw [e0];refine sW ?_;refine zA6 (hf _ hb1) ?_;exact sP
theorem zak (hWd:∀ c H,C zA5 [byV c] H (.bool (zh c)) H)
  (b:Nat) (s:Bs) (p d:Nat) (H:Heap) (hb:H[b]?=some (rdB s p d)) (hp:p<=s.length) (hl:s.length<=200) (hd:d<=1000) (c:UInt8) (hc:s[p]?=some c) (h32:s[p]?≠some 32) (h45:s[p]?≠some 45) (h40:c≠40) (h34:c≠34) (h35:c≠35) (hw:¬ zh c=true):zCw C GT zAA [pR b] H b (wkC s) zHh (mkR s d (zB8 s (P s) p d)):=by
 have hbl:=zl_ hb;have hlt:=zl_ hc;have n40:c.toNat≠40:=fun e=>h40 (zlc.1 e);have n34:c.toNat≠34:=fun e=>h34 (zlc.1 e);have n35:c.toNat≠35:=fun e=>h35 (zlc.1 e);have hwd:=hWd c (H++[.box [pR b]]++[.box (ndC zZ)]);have hw:=zl8.2 hw;rw [zeW hc (fun e=>h32 (by rw [hc,e])) (fun e=>h45 (by rw [hc,e])) h40 h34 h35 hw];have e0:mkR s d none=none:=rfl;rw [e0];rw [hw] at hwd;have hf:=fun H' h=>hF b s p d p 2 H' h;clear hF hWd;refine zAJ<|zCR (x:=pR b) rfl<|sW ?_;refine zA6 (hf _ hP) ?_
 exact sP
end
theorem zal (hWd:∀ c H,C zA5 [byV c] H (.bool (zh c)) H) (hWo:∀ b s p d H,H[b]?=some (rdB s p d)->p<=s.length->s.length<=200->C zAI [pR b] H (.str (sub s p (zDI s p))) (H.set b (rdB s (zDI s p) d))) (hCa:∀ t H,t.length<=1000->C zA4 [.str t] H (.bool (zA8 t)) H) (hWi:∀ f caps a b s p d H r,H[b]?=some (rdB s p d)->d<=1000->(∀ H',H'[b]?=some (rdB s p (d+1))->Off H b H'->CR C f caps H' b s (d+1) r)->CR C zp [pR b,.int .i64 a,.fn f [] caps] H b s d (if d=30 then none else r))
  (b:Nat) (s:Bs) (p d:Nat) (H:Heap) (hb:H[b]?=some (rdB s p d)) (hp:p<=s.length) (hl:s.length<=200) (hd:d<=1000) (c:UInt8) (hc:s[p]?=some c) (hw:zh c=true) (h41:s[zDI s p]?=some 40) (hcd:zA8 (sub s p (zDI s p))=true) (hCl:∀ e t,s[e]?=some 40->p<e->∀ H' rb sb,H'[b]?=some (rdB s e (d+1))->H'[rb]?=some (.box [pR b])->H'[sb]?=some (.box [.str t])->CR C zAN [pR rb,pR sb] H' b s (d+1) (zJY s t e (d+1))):zCw C GT zAA [pR b] H b (wkC s) zHh (mkR s d (zB8 s (P s) p d)):=by
 have hbl:=zl_ hb;have hlt:=zl_ hc;have hwn:=zKQ hw;have n40:c.toNat≠40:=fun e=>hwn.2.2.2.2 (zlc.1 e);have n34:c.toNat≠34:=fun e=>hwn.2.2.2.1 (zlc.1 e);have n35:c.toNat≠35:=fun e=>hwn.2.2.1 (zlc.1 e);have hwd:=hWd c (H++[.box [pR b]]++[.box (ndC zZ)]);rw [hw] at hwd;rw [zS2 hc hw];have hwo:=hWo b s p d (H++[.box [pR b]]++[.box (ndC zZ)]) (zD (zD hb)) hp hl;have hee:p<zDI s p:=by rw [zII hc hw];have:=zLU s (p+1);omega
 have hel:=zJ8 hp;have hth:=zO2 (e:=zDI s p) hc hee;have htl:=zNh (s:=s) (p:=p) (e:=zDI s p) hel;generalize zDI s p=e at *;generalize sub s p e=t at *;have hca:=fun H'=>hCa t H' tO;have hcl:=fun h=>hCl e t h hee;have hww:=fun H' r h1 h2=>hWi zAN [pR H.length,pR ((H++[ABlk.box [pR b]]++[ABlk.box (ndC zZ)]).set b (rdB s e d)).length] p b s e d H' r h1 hd h2;clear hWi hWd hWo hCa hCl;refine zAJ ?_;have hlt2:=zl_ h41;rw [zlF ⟨hcd,h41⟩];have hcl:=hcl h41;rw [hcd] at hca
 skip
 have hH2:∀ X:Heap,X[H.length]?=some (.box [pR b])->X[((H++[ABlk.box [pR b]]++[ABlk.box (ndC zZ)]).set b (rdB s e d)).length]?=some (.box [.str t])->X[b]?=some (rdB s e d)->CR C zp [pR b,zK p,.fn zAN [] [pR H.length,pR ((H++[ABlk.box [pR b]]++[ABlk.box (ndC zZ)]).set b (rdB s e d)).length]] X b s d (if d=30 then none else zJY s t e (d+1)):=fun X x1 x2 x3=>
  hww X (zJY s t e (d+1)) x3 (fun H' h1 ho=>hcl H' _ _ h1 (ho _ _ x1 tO) (ho _ _ x2 (by simp;omega)))
 clear hww hcl;cases hr:(if d=30 then none else zJY s t e (d+1)) with
 |none=>
  rw [hr] at hH2;have hH2:=fun X x1 x2 x3=>(hH2 X x1 x2 x3).2 rfl;have e0:mkR s d none=none:=rfl;rw [e0];refine zCR (x:=pR b) rfl<|sW ?_;refine sS (.str t) [.str t] ?_;refine sW ?_;refine zA6 (hH2 _ hP hP hP) ?_
  exact sP
 |some q=>
  obtain ⟨n,e'⟩:=q;rw [hr] at hH2;have hH2:=fun X x1 x2 x3=>(hH2 X x1 x2 x3).1 n e' rfl;have e0:mkR s d (some (n,e'))=some (ndV n,rdB s e' d):=rfl;rw [e0];refine zCR (x:=pR b) rfl<|sW ?_;refine sS (.str t) [.str t] ?_;refine sW ?_;refine zCY (hH2 _ hP hP hP)<|sSA (ndV n) ?_
  exact zAH (o:=0) (ndV n) (by first|rfl|assumption) rfl rfl (zI hP) rfl rfl rfl hO rfl
section
variable (hF:∀ b s p d a e H,H[b]?=some (rdB s p d)->C zV (.pan .undef::[pR b,.int .i64 a,zJG e]) H zHh (H.set b (.box (wkC s)))) (hWd:∀ c H,C zA5 [byV c] H (.bool (zh c)) H) (hWo:∀ b s p d H,H[b]?=some (rdB s p d)->p<=s.length->s.length<=200->C zAI [pR b] H (.str (sub s p (zDI s p))) (H.set b (rdB s (zDI s p) d)))
include hF hWd hWo
theorem zV1_ (hCa:∀ t H,t.length<=1000->C zA4 [.str t] H (.bool (zA8 t)) H) (hPl:∀ t H,t.length<=1000->t.head?≠some 45->t.head?≠some 35->C zAx [.str t] H (zMi (zIu t)) H)
  (b:Nat) (s:Bs) (p d:Nat) (H:Heap) (hb:H[b]?=some (rdB s p d)) (hp:p<=s.length) (hl:s.length<=200) (hd:d<=1000) (c:UInt8) (hc:s[p]?=some c) (hw:zh c=true) (h41:s[zDI s p]?=some 40) (hcd:¬ zA8 (sub s p (zDI s p))=true):zCw C GT zAA [pR b] H b (wkC s) zHh (mkR s d (zB8 s (P s) p d)):=by
 have hbl:=zl_ hb;have hlt:=zl_ hc;have hwn:=zKQ hw;have n40:c.toNat≠40:=fun e=>hwn.2.2.2.2 (zlc.1 e);have n34:c.toNat≠34:=fun e=>hwn.2.2.2.1 (zlc.1 e);have n35:c.toNat≠35:=fun e=>hwn.2.2.1 (zlc.1 e);have hwd:=hWd c (H++[.box [pR b]]++[.box (ndC zZ)]);rw [hw] at hwd;rw [zS2 hc hw];have hwo:=hWo b s p d (H++[.box [pR b]]++[.box (ndC zZ)]) (zD (zD hb)) hp hl;have hee:p<zDI s p:=by rw [zII hc hw];have:=zLU s (p+1);omega
 have hel:=zJ8 hp;have hth:=zO2 (e:=zDI s p) hc hee;have htl:=zNh (s:=s) (p:=p) (e:=zDI s p) hel;generalize zDI s p=e at *;generalize sub s p e=t at *;have hpl:=fun H'=>hPl t H' tO (by rw [hth];exact fun x=>hwn.2.1 (zlb x)) (by rw [hth];exact fun x=>hwn.2.2.1 (zlb x));have hca:=fun H'=>hCa t H' tO;have hf:=fun H' h=>hF b s e d p 2 H' h;clear hF hWd hWo hCa hPl;have hlt2:=zl_ h41;refine zAJ ?_;rw [zlD (fun x=>hcd x.1)];rw [zl8.2 hcd] at hca
 skip
 cases ha:zIu t with
 |none=>
  rw [ha] at hpl;have hpl:∀ H',C zAx [.str t] H' (.tup [ndV zZ,.bool false]) H':=hpl;have e0:mkR s d (Option.map (fun n=>(n,e)) none)=none:=rfl;rw [e0];refine zCR (x:=pR b) rfl<|sW ?_;refine sS (.str t) [.str t] ?_;refine sW ?_;refine sSA (ndV zZ) ?_;refine sW ?_;refine zA6 (hf _ hP) ?_
  exact sP
 |some n=>
  rw [ha] at hpl;have hpl:∀ H',C zAx [.str t] H' (.tup [ndV n,.bool true]) H':=hpl;have e0:mkR s d (Option.map (fun n=>(n,e)) (some n))=some (ndV n,rdB s e d):=rfl;rw [e0];refine zCR (x:=pR b) rfl<|sW ?_;refine sS (.str t) [.str t] ?_;refine sW ?_;refine sSA (ndV n) ?_;refine sW ?_;refine sSA (ndV n) ?_
  exact zAH (o:=0) (ndV n) (by first|rfl|assumption) rfl rfl (zI hP) rfl rfl rfl hO rfl
theorem zV2_ (hPl:∀ t H,t.length<=1000->t.head?≠some 45->t.head?≠some 35->C zAx [.str t] H (zMi (zIu t)) H)
  (b:Nat) (s:Bs) (p d:Nat) (H:Heap) (hb:H[b]?=some (rdB s p d)) (hp:p<=s.length) (hl:s.length<=200) (hd:d<=1000) (c:UInt8) (hc:s[p]?=some c) (hw:zh c=true) (h41:¬ s[zDI s p]?=some 40):zCw C GT zAA [pR b] H b (wkC s) zHh (mkR s d (zB8 s (P s) p d)):=by
 have hbl:=zl_ hb;have hlt:=zl_ hc;have hwn:=zKQ hw;have n40:c.toNat≠40:=fun e=>hwn.2.2.2.2 (zlc.1 e);have n34:c.toNat≠34:=fun e=>hwn.2.2.2.1 (zlc.1 e);have n35:c.toNat≠35:=fun e=>hwn.2.2.1 (zlc.1 e);have hwd:=hWd c (H++[.box [pR b]]++[.box (ndC zZ)]);rw [hw] at hwd;rw [zS2 hc hw];have hwo:=hWo b s p d (H++[.box [pR b]]++[.box (ndC zZ)]) (zD (zD hb)) hp hl;have hee:p<zDI s p:=by rw [zII hc hw];have:=zLU s (p+1);omega
 have hel:=zJ8 hp;have hth:=zO2 (e:=zDI s p) hc hee;have htl:=zNh (s:=s) (p:=p) (e:=zDI s p) hel;generalize zDI s p=e at *;generalize sub s p e=t at *;have hpl:=fun H'=>hPl t H' tO (by rw [hth];exact fun x=>hwn.2.1 (zlb x)) (by rw [hth];exact fun x=>hwn.2.2.1 (zlb x));have hf:=fun H' h=>hF b s e d p 2 H' h;clear hF hWd hWo hPl;refine zAJ ?_;rw [zlD (fun x=>h41 x.2)]
 skip
 cases ha:zIu t with
 |none=>
  rw [ha] at hpl;have hpl:∀ H',C zAx [.str t] H' (.tup [ndV zZ,.bool false]) H':=hpl;have e0:mkR s d (Option.map (fun n=>(n,e)) none)=none:=rfl;rw [e0];by_cases hlt2:e<s.length
  ·obtain ⟨x,hx⟩:∃ x,s[e]?=some x:=⟨_,zlI hlt2⟩;have hxn:x.toNat≠40:=fun y=>h41 (by rw [hx,show x=40 from zlc.1 y]);refine zCR (x:=pR b) rfl<|sW ?_;refine sS (.str t) [.str t] ?_;refine sW ?_;refine sSA (ndV zZ) ?_;refine sW ?_;refine zA6 (hf _ hP) ?_
   exact sP
  ·refine zCR (x:=pR b) rfl<|sW ?_;refine sS (.str t) [.str t] ?_;refine sW ?_;refine sSA (ndV zZ) ?_;refine sW ?_;refine zA6 (hf _ hP) ?_
   exact sP
 |some n=>
  rw [ha] at hpl;have hpl:∀ H',C zAx [.str t] H' (.tup [ndV n,.bool true]) H':=hpl;have e0:mkR s d (Option.map (fun n=>(n,e)) (some n))=some (ndV n,rdB s e d):=rfl;rw [e0];by_cases hlt2:e<s.length
  ·obtain ⟨x,hx⟩:∃ x,s[e]?=some x:=⟨_,zlI hlt2⟩;have hxn:x.toNat≠40:=fun y=>h41 (by rw [hx,show x=40 from zlc.1 y]);refine zCR (x:=pR b) rfl<|sW ?_;refine sS (.str t) [.str t] ?_;refine sW ?_;refine sSA (ndV n) ?_;refine sW ?_;refine sSA (ndV n) ?_
   exact zAH (o:=0) (ndV n) (by first|rfl|assumption) rfl rfl (zI hP) rfl rfl rfl hO rfl
  ·refine zCR (x:=pR b) rfl<|sW ?_;refine sS (.str t) [.str t] ?_;refine sW ?_;refine sSA (ndV n) ?_;refine sW ?_;refine sSA (ndV n) ?_
   exact zAH (o:=0) (ndV n) (by first|rfl|assumption) rfl rfl (zI hP) rfl rfl rfl hO rfl
end
end
theorem zYe (s:Bs) (q:Ps) (p d:Nat):zB8 s q (skip s p) d=zB8 s q p d:=by unfold zB8;rw [zMg]
theorem zam {s:Bs} {p d:Nat} (h:s[p]?=some 45):zB8 s (P s) p d=if d=30 then none else ((P s).one (p+1) (d+1)).map fun q=>(zDO q.1,q.2):=by
 have hs:skip s p=p:=zDm (by rw [h];simp);have ht:=zIM (s:=s) (p:=p) (c:=45) (by rw [hs];exact h) zD_;rw [hs] at ht;unfold zB8;rw [ht];rfl
def zgk (s:Bs) (p d:Nat):Option (Nd×Nat):=match zD1 s p with
 |some r=>r
 |none=>bl s ((P s).loose 1 p d)
theorem sub_self (s:Bs) (a:Nat):sub s a a=[]:=by unfold sub;rw [Nat.sub_self];rfl
theorem zXI:zFG []=none:=rfl
theorem zjt (s:Bs) (p:Nat):zD1 s p=match zFG (sub s (skip s p) (zDI s (skip s p))) with
  |some r=>if s[zDI s (skip s p)]?=some 58 then some ((zFG (sub s (zDI s (skip s p)+1) (zDI s (zDI s (skip s p)+1)))).map fun r2=>(zA2 r r2,zDI s (zDI s (skip s p)+1))) else none
  |none=>none:=by
 unfold zD1;by_cases hw:∃ c,s[skip s p]?=some c/\zh c=true
 ·obtain ⟨c,hc,hw⟩:=hw;have ht:tok s p=.word (zDI s (skip s p)) (sub s (skip s p) (zDI s (skip s p))):=by rw [<-zMg];exact zXH hc hw
  rw [ht];simp only;cases zFG (sub s (skip s p) (zDI s (skip s p))) with
  |none=>rfl
  |some r=>
   simp only;generalize zDI s (skip s p)=e;by_cases h58:s[e]?=some 58
   ·rw [zlF h58,zlF h58];by_cases hw2:∃ c,s[e+1]?=some c/\zh c=true
    ·obtain ⟨c2,hc2,hw2⟩:=hw2;have ht2:zBk s (e+1)=.word (zDI s (e+1)) (sub s (e+1) (zDI s (e+1))):=by
      unfold zBk;rw [hc2];simp only [hw2,zlp]
     rw [ht2]
    ·have hst:zDI s (e+1)=e+1:=zIJ fun c h=>zl8.2 fun x=>hw2 ⟨c,h,x⟩;rw [hst,sub_self,zXI];unfold zBk;split
     ·rename_i heq;split at heq
      ·cases heq
      ·rename_i c2 hc2;rw [zlD (fun x=>hw2 ⟨c2,hc2,x⟩)] at heq;split at heq
       ·split at heq <;> cases heq
       ·split at heq
        ·split at heq <;> cases heq
        ·split at heq
         ·split at heq <;> cases heq
         ·cases heq
     ·rfl
   ·rw [zlD h58,zlD h58]
 ·have hst:zDI s (skip s p)=skip s p:=zIJ fun c h=>zl8.2 fun x=>hw ⟨c,h,x⟩;rw [hst,sub_self,zXI];simp only;split
  ·rename_i e t heq;exfalso;unfold tok zBk at heq;split at heq
   ·cases heq
   ·rename_i c2 hc2;rw [zlD (fun x=>hw ⟨c2,hc2,x⟩)] at heq;split at heq
    ·split at heq <;> cases heq
    ·split at heq
     ·split at heq <;> cases heq
     ·split at heq
      ·split at heq <;> cases heq
      ·cases heq
  ·rfl
section
variable {C:CSpec} {GT:zG_}
theorem zju (hB:∀ b s p d H,H[b]?=some (rdB s p d)->p<=s.length->s.length<=200->C zW [pR b] H (.tup []) (H.set b (rdB s (skip s p) d)))
  (hWi:∀ f caps a b s p d H r,H[b]?=some (rdB s p d)->d<=1000->(∀ H',H'[b]?=some (rdB s p (d+1))->Off H b H'->CR C f caps H' b s (d+1) r)->CR C zp [pR b,.int .i64 a,.fn f [] caps] H b s d (if d=30 then none else r))
  (b:Nat) (s:Bs) (p d:Nat) (H:Heap) (hb:H[b]?=some (rdB s p d)) (hp:p<=s.length) (hl:s.length<=200) (hd:d<=1000)
  (hNc:s[skip s p]?=some 45->∀ H' rb,H'[b]?=some (rdB s (skip s p) (d+1))->H'[rb]?=some (.box [pR b])->CR C zBB [pR rb] H' b s (d+1) (((P s).one (skip s p+1) (d+1)).map fun q=>(zDO q.1,q.2)))
  (hPr:s[skip s p]?≠some 45->∀ H',H'[b]?=some (rdB s (skip s p) d)->CR C zBT [pR b] H' b s d (zB8 s (P s) (skip s p) d)) :
  zCw C GT zDk [pR b] H b (wkC s) zHh (mkR s d ((P s).one p d)):=by
 have hbl:=zl_ hb;rw [zRL d hp,<-zYe];have hbk:=hB b s p d (H++[ABlk.box (pR b).cells]++[ABlk.box (ndC zZ)]) (zD (zD hb)) hp hl;have hql:=zCX hp;generalize skip s p=q at *;by_cases h45:s[q]?=some 45
 ·have hlt:=zl_ h45;rw [zam h45];have hnc:=hNc h45;have hw:=hWi zBB [pR H.length] q b s q d ((H++[ABlk.box (pR b).cells]++[ABlk.box (ndC zZ)]).set b (rdB s q d)) (((P s).one (q+1) (d+1)).map fun q=>(zDO q.1,q.2)) (zU (zD (zD hb))) hd (fun H' h1 ho=>hnc H' H.length h1 (ho _ _ hP tO));clear hB hWi hNc hPr hnc;refine zAJ ?_;cases hr:(if d=30 then none else ((P s).one (q+1) (d+1)).map fun q=>(zDO q.1,q.2)) with
  |none=>
   rw [hr] at hw;have hw:=hw.2 rfl;have e:mkR s d none=none:=rfl;rw [e];refine sX ?_;refine zA6 hw ?_;exact sP
  |some x=>
   obtain ⟨n,e⟩:=x;rw [hr] at hw;have hw:=hw.1 n e rfl;have e0:mkR s d (some (n,e))=some (ndV n,rdB s e d):=rfl;rw [e0];refine sX ?_;refine zCY hw<|sSA (ndV n) ?_
   exact zAH (o:=0) (ndV n) (by first|rfl|assumption) rfl rfl (zI hP) rfl rfl rfl hO rfl
 ·have hpr:=hPr h45 ((H++[ABlk.box (pR b).cells]++[ABlk.box (ndC zZ)]).set b (rdB s q d)) (zU (zD (zD hb)));clear hB hWi hNc hPr;generalize zB8 s (P s) q d=r at *;refine zAJ ?_;by_cases hlt:q<s.length
  ·obtain ⟨c,hc⟩:∃ c,s[q]?=some c:=⟨_,zlI hlt⟩;have hn:c.toNat≠45:=fun e=>h45 (by rw [hc,show c=45 from zlc.1 e]);cases r with
   |none=>
    have hpr:=hpr.2 rfl;have e:mkR s d none=none:=rfl;rw [e];refine sX ?_;refine zA6 hpr ?_;exact sP
   |some x=>
    obtain ⟨n,e⟩:=x;have hpr:=hpr.1 n e rfl;have e0:mkR s d (some (n,e))=some (ndV n,rdB s e d):=rfl;rw [e0];refine sX ?_;refine zCY hpr<|sSA (ndV n) ?_
    exact zAH (o:=0) (ndV n) (by first|rfl|assumption) rfl rfl (zI hP) rfl rfl rfl hO rfl
  ·cases r with
   |none=>
    have hpr:=hpr.2 rfl;have e:mkR s d none=none:=rfl;rw [e];refine sX ?_;refine zA6 hpr ?_;exact sP
   |some x=>
    obtain ⟨n,e⟩:=x;have hpr:=hpr.1 n e rfl;have e0:mkR s d (some (n,e))=some (ndV n,rdB s e d):=rfl;rw [e0];refine sX ?_;refine zCY hpr<|sSA (ndV n) ?_
    exact zAH (o:=0) (ndV n) (by first|rfl|assumption) rfl rfl (zI hP) rfl rfl rfl hO rfl
theorem zjv (hB:∀ b s p d H,H[b]?=some (rdB s p d)->p<=s.length->s.length<=200->C zW [pR b] H (.tup []) (H.set b (rdB s (skip s p) d)))
  (hF:∀ b s p d a e H,H[b]?=some (rdB s p d)->C zV (.pan .undef::[pR b,.int .i64 a,zJG e]) H zHh (H.set b (.box (wkC s))))
  (hWo:∀ b s p d H,H[b]?=some (rdB s p d)->p<=s.length->s.length<=200->C zAI [pR b] H (.str (sub s p (zDI s p))) (H.set b (rdB s (zDI s p) d)))
  (hR:∀ s H,s.length<=1000->C zBg [.str s] H (zab (zFG s)) H)
  (b:Nat) (s:Bs) (p d:Nat) (H:Heap) (hb:H[b]?=some (rdB s p d)) (hp:p<=s.length) (hl:s.length<=200)
  (hT:∀ H',H'[b]?=some (rdB s (skip s p) d)->CR C zj [pR b,zH 0] H' b s d (bl s ((P s).loose 1 p d))) :
  zCw C GT zCD [pR b] H b (wkC s) zHh (mkR s d (zgk s p d)):=by
 have hbl:=zl_ hb;unfold zgk;rw [zjt];have hbk:=hB b s p d (H++[ABlk.box (ndC zZ)]) (zD hb) hp hl;have hql:=zCX hp;generalize skip s p=q at *;have hwo:=fun H' h=>hWo b s q d H' h hql hl;have hel:=zJ8 hql;have htl:(sub s q (zDI s q)).length<=1000:=by rw [zNh hel];omega
 generalize zDI s q=e at *;have hrr:=fun H'=>hR (sub s q e) H' htl;have hTT:∃ r,bl s ((P s).loose 1 p d)=r:=⟨_,rfl⟩;obtain ⟨r0,hr0⟩:=hTT;rw [hr0] at hT;rw [hr0];generalize sub s q e=t at *;cases hrt:zFG t with
 |none=>
  rw [hrt] at hrr;have hrr:∀ H',C zBg [.str t] H' (.tup [rV noRef,zJG 2]) H':=hrr;clear hB hF hWo hR;simp only;refine zAJ ?_;cases r0 with
  |none=>
   have hT:=fun H' h=>(hT H' h).2 rfl;have e:mkR s d none=none:=rfl;rw [e];refine sX ?_;refine sSA (rV noRef) ?_;refine sX ?_;refine sS (zK q) [.str s,zK q,zK d] ?_;refine zA6 (hT _ hP) ?_;exact sP
  |some x=>
   obtain ⟨n,e'⟩:=x;have hT:=fun H' h=>(hT H' h).1 n e' rfl;have e0:mkR s d (some (n,e'))=some (ndV n,rdB s e' d):=rfl;rw [e0];refine sX ?_;refine sSA (rV noRef) ?_;refine sX ?_;refine sS (zK q) [.str s,zK q,zK d] ?_;refine zCY (hT _ hP) ?_;refine sSA (ndV n) ?_;exact zAH (o:=0) (ndV n) (by first|rfl|assumption) rfl rfl (zI hP) rfl rfl rfl hO rfl
 |some r=>
  rw [hrt] at hrr;have hrr:∀ H',C zBg [.str t] H' (.tup [rV r,.nili]) H':=hrr;simp only;by_cases h58:s[e]?=some 58
  case neg=>
   rw [zlD h58];clear hB hF hWo hR;simp only;refine zAJ ?_;by_cases hlt:e<s.length
   ·obtain ⟨c,hc⟩:∃ c,s[e]?=some c:=⟨_,zlI hlt⟩;have hn:c.toNat≠58:=fun x=>h58 (by rw [hc,show c=58 from zlc.1 x]);cases r0 with
    |none=>
     have hT:=fun H' h=>(hT H' h).2 rfl;have e:mkR s d none=none:=rfl;rw [e];refine sX ?_;refine sSA (rV r) ?_;refine sX ?_;refine zn (zlz.2 tO) ?_;refine sS (zK q) [.str s,zK q,zK d] ?_;refine zA6 (hT _ hP) ?_;exact sP
    |some x=>
     obtain ⟨n,e'⟩:=x;have hT:=fun H' h=>(hT H' h).1 n e' rfl;have e0:mkR s d (some (n,e'))=some (ndV n,rdB s e' d):=rfl;rw [e0];refine sX ?_;refine sSA (rV r) ?_;refine sX ?_;refine zn (zlz.2 tO) ?_;refine sS (zK q) [.str s,zK q,zK d] ?_;refine zCY (hT _ hP) ?_;refine sSA (ndV n) ?_;exact zAH (o:=0) (ndV n) (by first|rfl|assumption) rfl rfl (zI hP) rfl rfl rfl hO rfl
   ·cases r0 with
    |none=>
     have hT:=fun H' h=>(hT H' h).2 rfl;have e:mkR s d none=none:=rfl;rw [e];refine sX ?_;refine sSA (rV r) ?_;refine sX ?_;refine sS (zK q) [.str s,zK q,zK d] ?_;refine zA6 (hT _ hP) ?_;exact sP
    |some x=>
     obtain ⟨n,e'⟩:=x;have hT:=fun H' h=>(hT H' h).1 n e' rfl;have e0:mkR s d (some (n,e'))=some (ndV n,rdB s e' d):=rfl;rw [e0];refine sX ?_;refine sSA (rV r) ?_;refine sX ?_;refine sS (zK q) [.str s,zK q,zK d] ?_;refine zCY (hT _ hP) ?_;refine sSA (ndV n) ?_;exact zAH (o:=0) (ndV n) (by first|rfl|assumption) rfl rfl (zI hP) rfl rfl rfl hO rfl
  case pos=>
   have hlt:=zl_ h58;rw [zlF h58];clear hT;simp only;have hwo2:=fun H' h=>hWo b s (e+1) d H' h tO hl;have hel2:=zJ8 (s:=s) (a:=e+1) tO;have htl2:(sub s (e+1) (zDI s (e+1))).length<=1000:=by rw [zNh hel2];omega
   generalize zDI s (e+1)=e2 at *;have hrr2:=fun H'=>hR (sub s (e+1) e2) H' htl2;generalize sub s (e+1) e2=t2 at *;have hf:=fun H' h=>hF b s e2 d (e+1:Nat) 2 H' h;clear hB hF hWo hR;refine zAJ ?_;cases hrt2:zFG t2 with
   |none=>
    rw [hrt2] at hrr2;have hrr2:∀ H',C zBg [.str t2] H' (.tup [rV noRef,zJG 2]) H':=hrr2;have e0:mkR s d (Option.map (fun r2=>(zA2 r r2,e2)) none)=none:=rfl;rw [e0];refine sX ?_;refine sSA (rV r) ?_;refine sX ?_;refine zS (r:=e+1) rfl tO<|sS (.int .i64 ↑(e+1)) [.str s,.int .i64 ↑(e+1),zK d] ?_;refine zA (.int .i64 ↑(e+1)) (zU (zC tA (zD (zU (zU (zD hb)))))) rfl<|zCI (hwo2 _ hP) (fun h=>by cases h)<|zM (hrr2 _)<|sW ?_;refine sSA (rV noRef) ?_;refine sW ?_;refine zA6 (hf _ hP) ?_
    exact sP
   |some r2=>
    rw [hrt2] at hrr2;have hrr2:∀ H',C zBg [.str t2] H' (.tup [rV r2,.nili]) H':=hrr2;have e0:mkR s d (Option.map (fun r2=>(zA2 r r2,e2)) (some r2))=some (ndV (zA2 r r2),rdB s e2 d):=rfl;rw [e0];refine sX ?_;refine sSA (rV r) ?_;refine sX ?_;refine zS (r:=e+1) rfl tO<|sS (.int .i64 ↑(e+1)) [.str s,.int .i64 ↑(e+1),zK d] ?_;refine zA (.int .i64 ↑(e+1)) (zU (zC tA (zD (zU (zU (zD hb)))))) rfl<|zCI (hwo2 _ hP) (fun h=>by cases h)<|zM (hrr2 _)<|sW ?_;refine sSA (rV r2) ?_;refine sX ?_;refine sSA (.agg (zR 6 r r2)) ?_
    exact zAH (o:=0) (.agg (zR 6 r r2)) (by first|rfl|assumption) rfl rfl (zI hP) rfl rfl rfl hO rfl
end
def zLW (c:UInt8) (d:Option UInt8):Bs:=match d with
 |some d=>if (c=60/\d=62)\/(c=60/\d=61)\/(c=62/\d=61) then [c,d] else [c]
 |none=>[c]
theorem zV3_ {s:Bs} {q:Nat} {c:UInt8} (h:s[q]?=some c) (h32:c≠32) (h34:c≠34) (h35:c≠35) (hw:zh c=false) :
  zIK s q=if zCE (zLW c s[q+1]?)=0 then none else some (zCE (zLW c s[q+1]?),q+(zLW c s[q+1]?).length):=by
 unfold zIK;rw [zN9 (by rw [h];exact fun e=>h32 (zlb e))];unfold zBk;rw [h];simp only [hw,zlO,zlj,h34,h35];unfold zLW;cases s[q+1]? with
 |none=>rfl
 |some d=>
  simp only;by_cases hx:(c=60/\d=62)\/(c=60/\d=61)\/(c=62/\d=61)
  ·simp only [zlF hx];rfl
  ·simp only [zlD hx];rfl
theorem zan {s:Bs} {q op e:Nat} (hs:s[q]?≠some 32) (h:zIK s q=some (op,e)):∃ c,s[q]?=some c/\c≠34/\c≠35/\zh c=false:=by
 unfold zIK at h;rw [zN9 hs] at h;unfold zBk at h;cases hc:s[q]? with
 |none=>rw [hc] at h;cases h
 |some c=>
  rw [hc] at h;simp only at h;refine ⟨c,rfl, ?_, ?_, ?_⟩
  ·rintro rfl;have hw:zh 34=false:=by decide
   simp only [hw,zlO,zlj,zlp] at h;cases hq:quo (s.drop (q+1)) (q+1) with
   |none=>rw [hq] at h;cases h
   |some x=>rw [hq] at h;cases h
  ·rintro rfl;have hw:zh 35=false:=by decide
   have h1:¬ ((35:UInt8)=34):=by decide
   simp only [hw,zlO,zlj,zlp,h1] at h;cases hq:zK1 (s.drop q) wrongs 1 with
   |none=>rw [hq] at h;cases h
   |some x=>rw [hq] at h;cases h
  ·cases hw:zh c with
   |false=>rfl
   |true=>rw [hw] at h;simp at h
def sgn:Nat->List Bs
 |0=>[[60,62],[60,61],[62,61],[61],[60],[62]]
 |1=>[[38]]
 |2=>[[43],[45]]
 |3=>[[42],[47]]
 |_=>[]
theorem zIy {s:Bs} {q:Nat} {c d:UInt8}:([c,d]:Bs).isPrefixOf (s.drop q)=true↔s[q]?=some c/\s[q+1]?=some d:=by
 cases hc:s[q]? with
 |none=>rw [zJ7 hc];simp
 |some c'=>
  rw [zBi hc];cases hd:s[q+1]? with
  |none=>rw [zJ7 hd];simp [List.isPrefixOf]
  |some d'=>
   rw [zBi hd];simp only [List.isPrefixOf,zm9,zlG,zll,zlJ];exact ⟨fun h=>⟨h.1.symm,h.2.symm⟩,fun h=>⟨h.1.symm,h.2.symm⟩⟩
theorem zFU {s:Bs} {q:Nat} {c:UInt8}:([c]:Bs).isPrefixOf (s.drop q)=true↔s[q]?=some c:=by
 cases hc:s[q]? with
 |none=>rw [zJ7 hc];simp
 |some c'=>
  rw [zBi hc];simp only [List.isPrefixOf,zm9,zll,zlJ];exact ⟨fun h=>h.symm,fun h=>h.symm⟩
theorem zao {s:Bs} {q:Nat} {c d:UInt8} (h1:s[q]?=some c) (h2:s[q+1]?=some d) (hcd:(c=60/\d=62)\/(c=60/\d=61)\/(c=62/\d=61)):zIK s q=some (zCE [c,d],q+2):=by
 have h3:c≠32/\c≠34/\c≠35/\zh c=false/\zCE [c,d]≠0:=by rcases hcd with ⟨rfl,rfl⟩|⟨rfl,rfl⟩|⟨rfl,rfl⟩ <;> decide
 rw [zV3_ h1 h3.1 h3.2.1 h3.2.2.1 h3.2.2.2.1,h2];have e:zLW c (some d)=[c,d]:=zlF hcd;rw [e,zlD h3.2.2.2.2];rfl
theorem zOA {s:Bs} {q:Nat} {c:UInt8} (h1:s[q]?=some c) (hc:c=60\/c=62\/c=61\/c=38\/c=43\/c=45\/c=42\/c=47) (hn:∀ d,s[q+1]?=some d->¬ ((c=60/\d=62)\/(c=60/\d=61)\/(c=62/\d=61))):zIK s q=some (zCE [c],q+1):=by
 have h3:c≠32/\c≠34/\c≠35/\zh c=false/\zCE [c]≠0:=by rcases hc with rfl|rfl|rfl|rfl|rfl|rfl|rfl|rfl <;> decide
 rw [zV3_ h1 h3.1 h3.2.1 h3.2.2.1 h3.2.2.2.1];have e:zLW c s[q+1]?=[c]:=by
  unfold zLW;cases hd:s[q+1]? with
  |none=>rfl
  |some d=>simp only;rw [zlD (hn d hd)]
 rw [e,zlD h3.2.2.2.2];rfl
theorem zeb {s:Bs} {q l i:Nat} {t:Bs} (ht:(sgn l)[i]?=some t) (hp:t.isPrefixOf (s.drop q)=true) (hno:∀ j u,j<i->(sgn l)[j]?=some u->u.isPrefixOf (s.drop q)=false) :
  zIK s q=some (zCE t,q+t.length)/\tight (zCE t)=l+1/\zCE t≠0:=by
 rcases l with _|_|_|_|l
 ·rcases i with _|_|_|_|_|_|i
  ·cases ht;have:=zIy.1 hp;exact ⟨zao this.1 this.2 zD_,by decide,by decide⟩
  ·cases ht;have:=zIy.1 hp;exact ⟨zao this.1 this.2 zD_,by decide,by decide⟩
  ·cases ht;have:=zIy.1 hp;exact ⟨zao this.1 this.2 zD_,by decide,by decide⟩
  ·cases ht;have:=zFU.1 hp;exact ⟨zOA this zD_ (fun d _=>by rintro (⟨h,_⟩|⟨h,_⟩|⟨h,_⟩) <;> revert h <;> decide),by decide,by decide⟩
  ·cases ht;have h1:=zFU.1 hp;refine ⟨zOA h1 zD_ (fun d hd=>?_),by decide,by decide⟩;rintro (⟨_,rfl⟩|⟨_,rfl⟩|⟨h,_⟩)
   ·have:=hno 0 _ tO rfl;rw [zIy.2 ⟨h1,hd⟩] at this;cases this
   ·have:=hno 1 _ tO rfl;rw [zIy.2 ⟨h1,hd⟩] at this;cases this
   ·revert h;decide
  ·cases ht;have h1:=zFU.1 hp;refine ⟨zOA h1 zD_ (fun d hd=>?_),by decide,by decide⟩;rintro (⟨h,_⟩|⟨h,_⟩|⟨_,rfl⟩)
   ·revert h;decide
   ·revert h;decide
   ·have:=hno 2 _ tO rfl;rw [zIy.2 ⟨h1,hd⟩] at this;cases this
  ·simp [sgn] at ht
 ·rcases i with _|i
  ·cases ht;have:=zFU.1 hp;exact ⟨zOA this zD_ (fun d _=>by rintro (⟨h,_⟩|⟨h,_⟩|⟨h,_⟩) <;> revert h <;> decide),by decide,by decide⟩
  ·simp [sgn] at ht
 ·rcases i with _|_|i
  ·cases ht;have:=zFU.1 hp;exact ⟨zOA this zD_ (fun d _=>by rintro (⟨h,_⟩|⟨h,_⟩|⟨h,_⟩) <;> revert h <;> decide),by decide,by decide⟩
  ·cases ht;have:=zFU.1 hp;exact ⟨zOA this zD_ (fun d _=>by rintro (⟨h,_⟩|⟨h,_⟩|⟨h,_⟩) <;> revert h <;> decide),by decide,by decide⟩
  ·simp [sgn] at ht
 ·rcases i with _|_|i
  ·cases ht;have:=zFU.1 hp;exact ⟨zOA this zD_ (fun d _=>by rintro (⟨h,_⟩|⟨h,_⟩|⟨h,_⟩) <;> revert h <;> decide),by decide,by decide⟩
  ·cases ht;have:=zFU.1 hp;exact ⟨zOA this zD_ (fun d _=>by rintro (⟨h,_⟩|⟨h,_⟩|⟨h,_⟩) <;> revert h <;> decide),by decide,by decide⟩
  ·simp [sgn] at ht
 ·simp [sgn] at ht
theorem zec {t:Bs} {l:Nat} (hne:¬ zCE t=0) (ht:tight (zCE t)=l+1):t∈sgn l:=by
 by_cases h0:t=[61]
 ·subst h0;have e:tight (zCE [61])=1:=by decide
  have e2:l=0:=by omega
  subst e2;decide
 by_cases h1:t=[60,62]
 ·subst h1;have e:tight (zCE [60,62])=1:=by decide
  have e2:l=0:=by omega
  subst e2;decide
 by_cases h2:t=[60]
 ·subst h2;have e:tight (zCE [60])=1:=by decide
  have e2:l=0:=by omega
  subst e2;decide
 by_cases h3:t=[60,61]
 ·subst h3;have e:tight (zCE [60,61])=1:=by decide
  have e2:l=0:=by omega
  subst e2;decide
 by_cases h4:t=[62]
 ·subst h4;have e:tight (zCE [62])=1:=by decide
  have e2:l=0:=by omega
  subst e2;decide
 by_cases h5:t=[62,61]
 ·subst h5;have e:tight (zCE [62,61])=1:=by decide
  have e2:l=0:=by omega
  subst e2;decide
 by_cases h6:t=[38]
 ·subst h6;have e:tight (zCE [38])=2:=by decide
  have e2:l=1:=by omega
  subst e2;decide
 by_cases h7:t=[43]
 ·subst h7;have e:tight (zCE [43])=3:=by decide
  have e2:l=2:=by omega
  subst e2;decide
 by_cases h8:t=[45]
 ·subst h8;have e:tight (zCE [45])=3:=by decide
  have e2:l=2:=by omega
  subst e2;decide
 by_cases h9:t=[42]
 ·subst h9;have e:tight (zCE [42])=4:=by decide
  have e2:l=3:=by omega
  subst e2;decide
 by_cases h10:t=[47]
 ·subst h10;have e:tight (zCE [47])=4:=by decide
  have e2:l=3:=by omega
  subst e2;decide
 ·exact absurd (by unfold zCE;simp only [h0,h1,h2,h3,h4,h5,h6,h7,h8,h9,h10,zlj]) hne
theorem zhZ {s:Bs} {q l:Nat} (hs:s[q]?≠some 32) (hno:∀ t,t∈sgn l->t.isPrefixOf (s.drop q)=false) {op e:Nat} (h:zIK s q=some (op,e)):tight op≠l+1:=by
 obtain ⟨c,hc,h34,h35,hw⟩:=zan hs h;rw [zV3_ hc (fun x=>hs (by rw [hc,x])) h34 h35 hw] at h;split at h
 ·cases h
 ·rename_i hne;cases h;intro ht;have hpre:(zLW c s[q+1]?).isPrefixOf (s.drop q)=true:=by
   unfold zLW;cases hd:s[q+1]? with
   |none=>exact zFU.2 hc
   |some d=>
    simp only;split
    ·exact zIy.2 ⟨hc,hd⟩
    ·exact zFU.2 hc
  generalize zLW c s[q+1]?=t at *;have hmem:t∈sgn l:=zec hne ht;rw [hno t hmem] at hpre;cases hpre
theorem zYf (s:Bs) (a:Nat):zD1 s (skip s a)=zD1 s a:=by unfold zD1;rw [zMg]
theorem zap {s:Bs} {a:Nat} (nm:Bs) (ks:List Nd) (d:Nat) (ha:a<=s.length):(P s).args nm ks (skip s a) d=(P s).args nm ks a d:=by
 rw [zN7 nm ks d (zCX ha),zN7 nm ks d ha];unfold zF0 zFk;rw [zYf,zRo 1 d ha]
theorem zaq {s:Bs} {a:Nat} (nm:Bs) (ks:List Nd) (d:Nat) (ha:a<=s.length):(P s).args nm ks a d=(zgk s a d).bind fun p=>if s[skip s p.2]?=some 44 then (P s).args nm (ks++[p.1]) (skip s p.2+1) d else if s[skip s p.2]?=some 41 then some (zA0 nm (ks++[p.1]),skip s p.2+1) else none:=by
 rw [zN7 nm ks d ha];have key:∀ p:Nd×Nat,(match tok s p.2 with
   |.sign e [44]=>(P s).args nm (ks++[p.1]) e d
   |.sign e [41]=>some (zA0 nm (ks++[p.1]),e)
   |_=>none)=if s[skip s p.2]?=some 44 then (P s).args nm (ks++[p.1]) (skip s p.2+1) d else if s[skip s p.2]?=some 41 then some (zA0 nm (ks++[p.1]),skip s p.2+1) else none:=fun p=>by
  by_cases h44:s[skip s p.2]?=some 44
  ·rw [zIM h44 zD_,zlF h44];rfl
  ·rw [zlD h44];by_cases h41:s[skip s p.2]?=some 41
   ·rw [zIM h41 zD_,zlF h41];rfl
   ·rw [zlD h41];split
    ·rename_i e hk;exact absurd (zIx hk).1 h44
    ·rename_i e hk;exact absurd (zIx hk).1 h41
    ·rfl
 unfold zF0 zFk zgk;cases zD1 s a with
 |some r=>
  simp only;refine zEe rfl fun p _=>?_;exact key p
 |none=>
  simp only;unfold bl;cases (P s).loose 1 a d with
  |none=>rfl
  |some p=>
   simp only [zlW,zmF];rw [zGa];exact key p
theorem zar {s:Bs} {a d:Nat} (ha:a<=s.length) {p:Nd×Nat} (h:zgk s a d=some p):a<p.2/\p.2<=s.length:=by
 unfold zgk at h;split at h
 ·rename_i r hb;subst h;exact zRm hb
 ·unfold bl at h;rw [zlN] at h;obtain ⟨q,h1,rfl⟩:=h;have:=(zDA s).loose 1 a d q ha h1;have h2:=zFt s q.2;have h3:=zCX this.2;exact ⟨by simp only;omega,h3⟩
theorem zed {s t:Bs} {e d:Nat} (he:e+1<=s.length):zJY s t e d=if s[skip s (e+1)]?=some 41 then some (zA0 t [],skip s (e+1)+1) else (P s).args t [] (skip s (e+1)) d:=by
 rw [zap t [] d he];unfold zJY;by_cases h41:s[skip s (e+1)]?=some 41
 ·rw [zIM h41 zD_,zlF h41];rfl
 ·rw [zlD h41];split
  ·rename_i e2 hk;exact absurd (zIx hk).1 h41
  ·rfl
def zAj (name:Bs) (v:AV):List AV:=[.int .i64 9,.int .i64 0,.str name,.int .i64 0,.int .i64 0,.bool false,.bool false,.int .i64 0,.int .i64 0,.bool false,.bool false,v]
theorem zMj (name:Bs) (ks:List Nd):ndV (zA0 name ks)=.agg (zAj name (zQi 12 (ks.map ndV))):=by
 cases ks with
 |nil=>rfl
 |cons k r=>
  show AV.agg (zAj name (.lst (some false) 12 (zd6 (k::r))))=_;rw [zKO];rfl
theorem zMk {H0 H:Heap} {v:AV} {xs:List AV} {b:Nat} {B:ABlk} (name:Bs) (ho:Owns H0 H v 12 xs) {H1:Heap} (hl:H1.length=H0.length) (hB:OldB H1 b B H):∃ H',zEM H1.length (.agg (zAj name v)) H=some (.agg (zAj name (zQi 12 xs)),H')/\OldB H1 b B H':=by
 rcases ho with ⟨rfl,rfl⟩|⟨nb,rfl,h1,h2,h3⟩
 ·exact ⟨H,rfl,hB⟩
 ·have hn:¬ nb<H1.length:=by omega
  refine ⟨H.set nb (.frz 12 xs), ?_,hB.set tO _⟩;simp only [zAj,zEM,zLg,hn,zlj,h2];cases xs with
  |nil=>exact absurd rfl h3
  |cons x r=>simp [zWk,zQi]
theorem zIN {name:Bs} {v:AV} (h:v.one=true):(AV.agg (zAj name v)).cells.all AV.one=true:=by
 simp only [zAj,AV.cells,zmq,List.all_nil,h,zm9];rfl
theorem zKB (n:Nat) (name:Bs) (xs:List AV):(AV.agg (zAj name (zQi 12 xs))).bel n=true:=by cases xs <;> rfl
theorem Owns.setBox {H0 H:Heap} {v:AV} {k c:Nat} {xs cs:List AV} (h:Owns H0 H v k xs) (hc:H[c]?=some (.box cs)) (y:ABlk):Owns H0 (H.set c y) v k xs:=h.set (h.notBox hc) y
theorem zD9 {b k o:Nat} {v:AV} {cs:List AV} (cs':List AV) {H:Heap} {K:AV->Heap->Prop} (h:H[b]?=some (.box cs)) (hv:v.cells=[v]/\v.one=true) (ho:Nat.ble (o+1) cs.length=true) (he:splice cs o [v]=cs')
  (q:K .undef (H.set b (.box cs'))):actP (.store 1) [.ref b k 0 o,v] H K:=
 zL cs' h (by rw [hv.1];rfl) (by rw [hv.1];simp [hv.2]) ho (by rw [hv.1];exact he) q
structure CSt where
 a:Nat
 v:AV
 ks:List Nd
section
variable {C:CSpec} {GT:zG_}
theorem zha (hB:∀ b s p d H,H[b]?=some (rdB s p d)->p<=s.length->s.length<=200->C zW [pR b] H (.tup []) (H.set b (rdB s (skip s p) d)))
  (hWt:∀ c b s p d H,H[b]?=some (rdB s p d)->p<=s.length->s.length<=200->(s[skip s p]?=some c->C z8 [pR b,byV c] H (.tup []) (H.set b (rdB s (skip s p+1) d)))/\(s[skip s p]?≠some c->C z8 (.pan .undef::[pR b,byV c]) H zHh (H.set b (.box (wkC s)))))
  (t:Bs) (b:Nat) (s:Bs) (p d:Nat) (H:Heap) (hb:H[b]?=some (rdB s p d)) (hp:p<s.length) (hl:s.length<=200)
  (hA:∀ a H',p<a->a<=s.length->H'[b]?=some (rdB s a d)->CR C zBS [pR b] H' b s d (zgk s a d)) :
  zCw C GT zB6 [pR b,.str t] H b (wkC s) zHh (mkR s d (zJY s t p d)):=by
 have hbl:=zl_ hb;have hbk:=fun a H' h1 h2=>hB b s a d H' h1 h2 hl;have hwt:=fun a H' h1 h2=>hWt 41 b s a d H' h1 h2 hl;have hl5:(H++[ABlk.box (ndC zZ)]).length=H.length+1:=by simp
 clear hB hWt;rw [zed tO];have hpq:=zFt s (p+1);have hql:=zCX (s:=s) (a:=p+1) tO;have hbk0:=hbk (p+1);generalize skip s (p+1)=q at *;refine zAJ ?_;by_cases h41:s[q]?=some 41
 ·have hlt:=zl_ h41;rw [zlF h41];have e0:mkR s d (some (zA0 t [],q+1))=some (ndV (zA0 t []),rdB s (q+1) d):=rfl;rw [e0];clear hA hbk hwt;refine sX ?_;refine sSA (.agg (zN 9 0 t)) ?_;refine sX ?_;refine zS (r:=p+1) rfl tO ?_;refine sS (.int .i64 ↑(p+1)) [.str s,.int .i64 ↑(p+1),zK d] ?_;refine sX ?_;refine zS (r:=q+1) rfl tO ?_;refine sS (.int .i64 ↑(q+1)) [.str s,.int .i64 ↑(q+1),zK d] ?_;refine sX ?_;refine sSA (.agg (zN 9 0 t)) ?_;exact zAH (o:=0) (.agg (zN 9 0 t)) (by first|rfl|assumption) rfl rfl (zI hP) rfl rfl rfl hO rfl
 rw [zlD h41];obtain ⟨r,hr⟩:∃ r,(P s).args t [] q d=r:=⟨_,rfl⟩;rw [hr];have hloop:∀ HH,OldB H b (rdB s q d) HH->HH[b]?=some (rdB s q d)->HH[H.length]?=some (.box (ndC zZ))->HH[(H++[ABlk.box (ndC zZ)]).length]?=some (.box (zAj t (.lst (some true) 0 []))) ->
   loopP C GT [0,4,5] zEj (zJi 0 [4] (zKo zB6 H b (wkC s) zHh (mkR s d r))) [(0,pR b),(4,pR H.length),(5,pR (H++[ABlk.box (ndC zZ)]).length)] HH:=fun HH g1 g2 g3 g4=>by
  refine zBG (fun x:CSt=>[(0,pR b),(4,pR H.length),(5,pR (H++[ABlk.box (ndC zZ)]).length)])
   (fun x H'=>Owns H H' x.v 12 (x.ks.map ndV)/\OldB H b (rdB s x.a d) H'/\H'[b]?=some (rdB s x.a d)/\H'[H.length]?=some (.box (ndC zZ))/\H'[(H++[ABlk.box (ndC zZ)]).length]?=some (.box (zAj t x.v))/\p<x.a/\x.a<=s.length/\x.ks.length<=x.a/\(P s).args t x.ks x.a d=r)
   (fun x=>s.length-x.a) ⟨q,.lst (some true) 0 [],[]⟩ rfl
   ⟨.inl ⟨rfl,rfl⟩,g1,g2,g3,g4,by simp only;omega,hql,by simp,hr⟩ (fun ⟨a,v,ks⟩ H1 ⟨how,hob,hb1,h4,h5,hpa,hal,hkl,hq⟩=>?_)
  dsimp only at how hob hb1 h4 h5 hpa hal hkl hq ⊢;have hlen1:=hob.old.1;rw [zlP] at hlen1;have h5l:=(zl_ h5);have har:=hA a H1 hpa hal hb1;rw [zaq t ks d hal] at hq;clear hA hbk0 hr;cases hra:zgk s a d with
  |none=>
   rw [hra] at har hq;have hq:none=r:=hq;subst hq;have e0:mkR s d none=none:=rfl;rw [e0];have har:=har.2 rfl;clear hbk hwt;refine zHN ?_ ?_
   ·refine sX ?_;refine zA6 har ?_;exact sP
   ·refine zA6 har ?_;exact sP
  |some x=>
   obtain ⟨n,e⟩:=x;have hee:=zar hal hra;simp only at hee;rw [hra] at har hq;simp only [zmF] at hq;have har:=har.1 n e rfl;have hbk1:=hbk e;have hqe:=zFt s e;have hqle:=zCX hee.2;have hwt1:=hwt (skip s e);rw [zGa] at hwt1;clear hbk hwt;generalize skip s e=q1 at *;have hel:(ndV n).elem 12=true:=rfl;have how2:=how.set (how.notBox hb1) (rdB s e d);have hob2:=hob.setB (rdB s e d);have hlH:(H.set b (rdB s e d)).length=H.length:=zlP;refine zHN ?_ ?_
   ·refine sX ?_;refine zCY har<|zAb (vs':=[ndV n]) rfl rfl<|zBw (H0:=H.set b (rdB s e d)) ((how2.base hlH).push _) (hob2.old.push _) zAu tO (by simp only [zlM,zlE,zlL];omega) zS_ fun v' H' ho' hH' hb' hf=>?_
    have hx1:=hf b _ (how2.notBox (zU hb1)) (zD (zU hb1));have hx4:=hf H.length _ (how2.notBox (zC tO h4)) (zD (zC tO h4));have hx5:=hf (H++[ABlk.box (ndC zZ)]).length _ (how2.notBox (zC tO h5)) (zD (zC tO h5));have hlH':=hH'.1;rw [zlP] at hlH';have hob3:OldB H b (rdB s e d) H':=⟨hbl,hH'⟩;have hx5l:=(zl_ hx5);by_cases h44:s[q1]?=some 44
    ·have hlt:=zl_ h44;rw [zlF h44] at hq;clear hwt1;refine zD9 (zAj t v') hx5 ho'.one rfl rfl<|zCI (hbk1 _ hP tO) (fun h=>by cases h)<|sX ?_;refine zS (r:=q1+1) rfl tO<|sS (.int .i64 ↑(q1+1)) [.str s,.int .i64 ↑(q1+1),zK d] ?_;refine zAR (CSt.mk (q1+1) v' (ks++[n])) rfl ⟨?_,(((hob3.set tO _).setB _).setB _),hP,hP,hP,by simp only;omega,by simp only;omega,by simp only [zlH,zlE,zlL];omega,hq⟩ (by simp only;omega)
     rw [zlv];exact (((ho'.setBox hx5 _).setBox hP _).setBox hP _).base hlH.symm
    rw [zlD h44] at hq;by_cases h41':s[q1]?=some 41
    ·have hlt:=zl_ h41';rw [zlF h41'] at hq;subst hq;have e0:mkR s d (some (zA0 t (ks++[n]),q1+1))=some (.agg (zAj t (zQi 12 ((ks++[n]).map ndV))),rdB s (q1+1) d):=by rw [<-zMj];rfl
     rw [e0];refine zD9 (zAj t v') hx5 ho'.one rfl rfl<|zCI (hbk1 _ hP tO) (fun h=>by cases h)<|zA (zK q1) (zU (zC tA hx1)) rfl<|zA (.str s) (zU (zC tA hx1)) rfl<|zn tT<|zA (.str s) (zU (zC tA hx1)) rfl<|zA (zK q1) (zU (zC tA hx1)) rfl<|zCF rfl h41'<|zE<|zi (tN zD_)<|zCY ((hwt1 _ hP tO).1 h41')<|sX ?_;refine zL (v:=.agg (zAj t v')) (zAj t v') hP rfl (zIN ho'.one.2) rfl rfl ?_
     have hown:Owns H (((H'.set (H++[ABlk.box (ndC zZ)]).length (.box (zAj t v'))).set b (rdB s q1 d)).set b (rdB s (q1+1) d) |>.set H.length (.box (zAj t v'))) v' 12 ((ks++[n]).map ndV):=by
      rw [zlv];exact ((((ho'.setBox hx5 _).setBox hP _).setBox hP _).setBox hP _).base hlH.symm
     obtain ⟨H2,hz,hob4⟩:=zMk t hown rfl ((((hob3.set tO _).setB _).setB _).set (zlK _) _);exact zAH (o:=0) (.agg (zAj t v')) rfl rfl rfl (zI hP) rfl hz (zKB _ _ _) hob4 rfl
    ·rw [zlD h41'] at hq;subst hq;have e0:mkR s d none=none:=rfl;rw [e0];by_cases hlt:q1<s.length
     ·obtain ⟨c,hc⟩:∃ c,s[q1]?=some c:=⟨_,zlI hlt⟩;have hn:c.toNat≠44:=fun x=>h44 (by rw [hc,show c=44 from zlc.1 x]);refine zD9 (zAj t v') hx5 ho'.one rfl rfl<|zCI (hbk1 _ hP tO) (fun h=>by cases h)<|sX ?_;refine zA6 ((hwt1 _ hP tO).2 h41') ?_
      exact sP
     ·refine zD9 (zAj t v') hx5 ho'.one rfl rfl<|zCI (hbk1 _ hP tO) (fun h=>by cases h)<|sX ?_;refine zA6 ((hwt1 _ hP tO).2 h41') ?_
      exact sP
   ·refine zCY har ?_;refine zHN ?_ ?_
    ·refine sX ?_;refine zAb (vs':=[ndV n]) rfl rfl<|zBw (H0:=H.set b (rdB s e d)) ((how2.base hlH).push _) (hob2.old.push _) zAu tO (by simp only [zlM,zlE,zlL];omega) zS_ fun v' H' ho' hH' hb' hf=>?_
     have hx1:=hf b _ (how2.notBox (zU hb1)) (zD (zU hb1));have hx4:=hf H.length _ (how2.notBox (zC tO h4)) (zD (zC tO h4));have hx5:=hf (H++[ABlk.box (ndC zZ)]).length _ (how2.notBox (zC tO h5)) (zD (zC tO h5));have hlH':=hH'.1;rw [zlP] at hlH';have hob3:OldB H b (rdB s e d) H':=⟨hbl,hH'⟩;have hx5l:=(zl_ hx5);by_cases h44:s[q1]?=some 44
     ·have hlt:=zl_ h44;rw [zlF h44] at hq;clear hwt1;refine zD9 (zAj t v') hx5 ho'.one rfl rfl<|zCI (hbk1 _ hP tO) (fun h=>by cases h)<|sX ?_;refine zS (r:=q1+1) rfl tO<|sS (.int .i64 ↑(q1+1)) [.str s,.int .i64 ↑(q1+1),zK d] ?_;refine zAR (CSt.mk (q1+1) v' (ks++[n])) rfl ⟨?_,(((hob3.set tO _).setB _).setB _),hP,hP,hP,by simp only;omega,by simp only;omega,by simp only [zlH,zlE,zlL];omega,hq⟩ (by simp only;omega)
      rw [zlv];exact (((ho'.setBox hx5 _).setBox hP _).setBox hP _).base hlH.symm
     rw [zlD h44] at hq;by_cases h41':s[q1]?=some 41
     ·have hlt:=zl_ h41';rw [zlF h41'] at hq;subst hq;have e0:mkR s d (some (zA0 t (ks++[n]),q1+1))=some (.agg (zAj t (zQi 12 ((ks++[n]).map ndV))),rdB s (q1+1) d):=by rw [<-zMj];rfl
      rw [e0];refine zD9 (zAj t v') hx5 ho'.one rfl rfl<|zCI (hbk1 _ hP tO) (fun h=>by cases h)<|zA (zK q1) (zU (zC tA hx1)) rfl<|zA (.str s) (zU (zC tA hx1)) rfl<|zn tT<|zA (.str s) (zU (zC tA hx1)) rfl<|zA (zK q1) (zU (zC tA hx1)) rfl<|zCF rfl h41'<|zE<|zi (tN zD_)<|zCY ((hwt1 _ hP tO).1 h41')<|sX ?_;refine zL (v:=.agg (zAj t v')) (zAj t v') hP rfl (zIN ho'.one.2) rfl rfl ?_
      have hown:Owns H (((H'.set (H++[ABlk.box (ndC zZ)]).length (.box (zAj t v'))).set b (rdB s q1 d)).set b (rdB s (q1+1) d) |>.set H.length (.box (zAj t v'))) v' 12 ((ks++[n]).map ndV):=by
       rw [zlv];exact ((((ho'.setBox hx5 _).setBox hP _).setBox hP _).setBox hP _).base hlH.symm
      obtain ⟨H2,hz,hob4⟩:=zMk t hown rfl ((((hob3.set tO _).setB _).setB _).set (zlK _) _);exact zAH (o:=0) (.agg (zAj t v')) rfl rfl rfl (zI hP) rfl hz (zKB _ _ _) hob4 rfl
     ·rw [zlD h41'] at hq;subst hq;have e0:mkR s d none=none:=rfl;rw [e0];by_cases hlt:q1<s.length
      ·obtain ⟨c,hc⟩:∃ c,s[q1]?=some c:=⟨_,zlI hlt⟩;have hn:c.toNat≠44:=fun x=>h44 (by rw [hc,show c=44 from zlc.1 x]);refine zD9 (zAj t v') hx5 ho'.one rfl rfl<|zCI (hbk1 _ hP tO) (fun h=>by cases h)<|sX ?_;refine zA6 ((hwt1 _ hP tO).2 h41') ?_
       exact sP
      ·refine zD9 (zAj t v') hx5 ho'.one rfl rfl<|zCI (hbk1 _ hP tO) (fun h=>by cases h)<|sX ?_;refine zA6 ((hwt1 _ hP tO).2 h41') ?_
       exact sP
    ·refine zAb (vs':=[ndV n]) rfl rfl<|sX ?_;refine zBw (H0:=H.set b (rdB s e d)) ((how2.base hlH).push _) (hob2.old.push _) zAu tO (by simp only [zlM,zlE,zlL];omega) zS_ fun v' H' ho' hH' hb' hf=>?_
     have hx1:=hf b _ (how2.notBox (zU hb1)) (zD (zU hb1));have hx4:=hf H.length _ (how2.notBox (zC tO h4)) (zD (zC tO h4));have hx5:=hf (H++[ABlk.box (ndC zZ)]).length _ (how2.notBox (zC tO h5)) (zD (zC tO h5));have hlH':=hH'.1;rw [zlP] at hlH';have hob3:OldB H b (rdB s e d) H':=⟨hbl,hH'⟩;have hx5l:=(zl_ hx5);by_cases h44:s[q1]?=some 44
     ·have hlt:=zl_ h44;rw [zlF h44] at hq;clear hwt1;refine zD9 (zAj t v') hx5 ho'.one rfl rfl<|zCI (hbk1 _ hP tO) (fun h=>by cases h)<|sX ?_;refine zS (r:=q1+1) rfl tO<|sS (.int .i64 ↑(q1+1)) [.str s,.int .i64 ↑(q1+1),zK d] ?_;refine zAR (CSt.mk (q1+1) v' (ks++[n])) rfl ⟨?_,(((hob3.set tO _).setB _).setB _),hP,hP,hP,by simp only;omega,by simp only;omega,by simp only [zlH,zlE,zlL];omega,hq⟩ (by simp only;omega)
      rw [zlv];exact (((ho'.setBox hx5 _).setBox hP _).setBox hP _).base hlH.symm
     rw [zlD h44] at hq;by_cases h41':s[q1]?=some 41
     ·have hlt:=zl_ h41';rw [zlF h41'] at hq;subst hq;have e0:mkR s d (some (zA0 t (ks++[n]),q1+1))=some (.agg (zAj t (zQi 12 ((ks++[n]).map ndV))),rdB s (q1+1) d):=by rw [<-zMj];rfl
      rw [e0];refine zD9 (zAj t v') hx5 ho'.one rfl rfl<|zCI (hbk1 _ hP tO) (fun h=>by cases h)<|zA (zK q1) (zU (zC tA hx1)) rfl<|zA (.str s) (zU (zC tA hx1)) rfl<|zn tT<|zA (.str s) (zU (zC tA hx1)) rfl<|zA (zK q1) (zU (zC tA hx1)) rfl<|zCF rfl h41'<|zE<|zi (tN zD_)<|zCY ((hwt1 _ hP tO).1 h41')<|sX ?_;refine zL (v:=.agg (zAj t v')) (zAj t v') hP rfl (zIN ho'.one.2) rfl rfl ?_
      have hown:Owns H (((H'.set (H++[ABlk.box (ndC zZ)]).length (.box (zAj t v'))).set b (rdB s q1 d)).set b (rdB s (q1+1) d) |>.set H.length (.box (zAj t v'))) v' 12 ((ks++[n]).map ndV):=by
       rw [zlv];exact ((((ho'.setBox hx5 _).setBox hP _).setBox hP _).setBox hP _).base hlH.symm
      obtain ⟨H2,hz,hob4⟩:=zMk t hown rfl ((((hob3.set tO _).setB _).setB _).set (zlK _) _);exact zAH (o:=0) (.agg (zAj t v')) rfl rfl rfl (zI hP) rfl hz (zKB _ _ _) hob4 rfl
     ·rw [zlD h41'] at hq;subst hq;have e0:mkR s d none=none:=rfl;rw [e0];by_cases hlt:q1<s.length
      ·obtain ⟨c,hc⟩:∃ c,s[q1]?=some c:=⟨_,zlI hlt⟩;have hn:c.toNat≠44:=fun x=>h44 (by rw [hc,show c=44 from zlc.1 x]);refine zD9 (zAj t v') hx5 ho'.one rfl rfl<|zCI (hbk1 _ hP tO) (fun h=>by cases h)<|sX ?_;refine zA6 ((hwt1 _ hP tO).2 h41') ?_
       exact sP
      ·refine zD9 (zAj t v') hx5 ho'.one rfl rfl<|zCI (hbk1 _ hP tO) (fun h=>by cases h)<|sX ?_;refine zA6 ((hwt1 _ hP tO).2 h41') ?_
       exact sP
 clear hA hbk hwt;by_cases hlt:q<s.length
 ·obtain ⟨c,hc⟩:∃ c,s[q]?=some c:=⟨_,zlI hlt⟩;have hn:c.toNat≠41:=fun x=>h41 (by rw [hc,show c=41 from zlc.1 x]);refine sX ?_;refine sSA (.agg (zN 9 0 t)) ?_;refine sX ?_;refine zS (r:=p+1) rfl tO ?_;refine sS (.int .i64 ↑(p+1)) [.str s,.int .i64 ↑(p+1),zK d] ?_;refine sX ?_;exact hloop _ ((((((OldB.start hb).push _).push _).set zS_ _).setB _).setB _) hP hP hP
 ·refine sX ?_;refine sSA (.agg (zN 9 0 t)) ?_;refine sX ?_;refine zS (r:=p+1) rfl tO ?_;refine sS (.int .i64 ↑(p+1)) [.str s,.int .i64 ↑(p+1),zK d] ?_;refine sX ?_;exact hloop _ ((((((OldB.start hb).push _).push _).set zS_ _).setB _).setB _) hP hP hP
end
end Go.AM
