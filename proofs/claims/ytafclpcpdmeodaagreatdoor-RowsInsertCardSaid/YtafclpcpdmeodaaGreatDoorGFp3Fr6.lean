/- Several texts of mine in one (Fp3, Fr4, Fr5, Fp4, Fr6). Own work. -/
import Derived.Test.YtafclpcpdmeodaaGreatDoorGFp2Fr3
import Derived.Test.YtafclpcpdmeodaaGreatDoorGFq0Bg0
set_option linter.all false
set_option maxRecDepth 20000
namespace Go.AM
theorem zNk {s:Bs} {p:Nat} (h:s[p]?≠some 32):tok s p=zBg s p:=by unfold tok;rw [zDh h]
theorem one_par {s:Bs} {p d:Nat} (h:s[p]?=some 40):zB4 s (P s) p d=if d=30 then none else parS s p (d+1):=by
 have hs:skip s p=p:=zDh (by rw [h];simp);have ht:=zH3 (s:=s) (p:=p) (c:=40) (by rw [hs];exact h) (by decide);rw [hs] at ht;unfold zB4 parS;rw [ht];rfl
theorem one_txt {s:Bs} {p d:Nat} (h:s[p]?=some 34):zB4 s (P s) p d=(quo (s.drop (p+1)) (p+1)).map fun q=>(zHP q.1,q.2):=by
 have ht:tok s p=zBg s p:=zNk (by rw [h];simp);unfold zB4;rw [ht];unfold zBg;rw [h];have hw:zh 34=false:=by decide
 simp only [hw,zQY,zQt,zQz];cases quo (s.drop (p+1)) (p+1) with
 |none=>rfl
 |some q=>rfl
theorem one_bad {s:Bs} {p d:Nat} (h:s[p]?=some 35):zB4 s (P s) p d=(zKk (s.drop p) wrongs 1).map fun q=>(zHR q.1,p+q.2):=by
 have ht:tok s p=zBg s p:=zNk (by rw [h];simp);unfold zB4;rw [ht];unfold zBg;rw [h];have hw:zh 35=false:=by decide
 have h1:¬ ((35:UInt8)=34):=by decide
 simp only [hw,zQY,zQt,zQz,h1];cases zKk (s.drop p) wrongs 1 with
 |none=>rfl
 |some q=>rfl
theorem zJ8 {c:UInt8} (h:zh c=true):c≠32/\c≠45/\c≠35/\c≠34/\c≠40:=by
 refine ⟨?_, ?_, ?_, ?_, ?_⟩ <;> (rintro rfl;revert h;decide)
theorem tok_word {s:Bs} {p:Nat} {c:UInt8} (h:s[p]?=some c) (hw:zh c=true):tok s p=.word (zDE s p) (sub s p (zDE s p)):=by
 rw [zNk (by rw [h];exact fun e=>(zJ8 hw).1 (zQl e))];unfold zBg;rw [h];simp only [hw,zQz]
theorem one_word {s:Bs} {p d:Nat} {c:UInt8} (h:s[p]?=some c) (hw:zh c=true) :
  zB4 s (P s) p d=if zA3 (sub s p (zDE s p))=true/\s[zDE s p]?=some 40 then (if d=30 then none else zJH s (sub s p (zDE s p)) (zDE s p) (d+1)) else (zIe (sub s p (zDE s p))).map fun n=>(n,zDE s p):=by
 unfold zB4;rw [tok_word h hw];rfl
theorem one_fin {s:Bs} {p d:Nat} (h:s[p]?=none):zB4 s (P s) p d=none:=by
 unfold zB4;rw [zNk (by rw [h];simp)];unfold zBg;rw [h]
theorem one_else {s:Bs} {p d:Nat} {c:UInt8} (h:s[p]?=some c) (h0:c≠32) (h1:c≠45) (h2:c≠40) (h3:c≠34) (h4:c≠35) (hw:zh c=false):zB4 s (P s) p d=none:=by
 unfold zB4;rw [zNk (by rw [h];exact fun e=>h0 (zQl e))];unfold zBg;rw [h];simp only [hw,zQY,zQt,h3,h4];split
 ·rename_i heq;split at heq
  ·split at heq <;> cases heq
  ·cases heq
 ·rename_i heq;split at heq
  ·split at heq <;> cases heq
  ·cases heq
 ·rename_i heq;split at heq
  ·split at heq <;> cases heq
  ·cases heq
 ·rename_i heq;split at heq
  ·split at heq
   ·cases heq
   ·simp only [Tok.sign.injEq,zRe,zSP] at heq;exact absurd heq.2 h1
  ·simp only [Tok.sign.injEq,zRe,zSP] at heq;exact absurd heq.2 h1
 ·rename_i heq;split at heq
  ·split at heq
   ·cases heq
   ·simp only [Tok.sign.injEq,zRe,zSP] at heq;exact absurd heq.2 h2
  ·simp only [Tok.sign.injEq,zRe,zSP] at heq;exact absurd heq.2 h2
 ·rfl
theorem zOg {s:Bs} {p e:Nat} {c:UInt8} (h:s[p]?=some c) (he:p<e):(sub s p e).head?=some c:=by
 unfold sub;rw [zBe h];obtain ⟨k,hk⟩:∃ k,e-p=k+1:=⟨e-p-1,by omega⟩;rw [hk];rfl
theorem zNJ {s:Bs} {p e:Nat} (he:e<=s.length):(sub s p e).length=e-p:=by
 unfold sub;rw [zQk,zQp];omega
theorem zJ9 {l w:Bs} {n:Nat} (h:l.take n=w):l=w++l.drop n:=by rw [<-h,zSb]
theorem lit_bad {s:Bs} {p e:Nat} (h:s[p]?=some 35) (hpe:p<e) (he:e<=s.length):litP (sub s p e)=match zKk (s.drop p) wrongs 1 with
  |some (k,n)=>if n=e-p then some (4,(k:Int)) else none
  |none=>none:=by
 have hh:=zOg h hpe;have hl:=zNJ (p:=p) he;have hsub:sub s p e=(s.drop p).take (e-p):=rfl;rw [hsub] at hh hl ⊢;clear hsub;generalize s.drop p=l at *;generalize e-p=m at *;unfold litP;rw [zQN (fun x=>by rw [x] at hh;revert hh;decide),zQN (fun x=>by rw [x] at hh;revert hh;decide)];by_cases a1:l.take m=[35,68,73,86,33]
 ·rw [zQQ a1];have hm:m=5:=by rw [a1] at hl;exact hl.symm
  rw [zJ9 a1];subst hm;simp [zKk,wrongs]
 by_cases a2:l.take m=[35,86,65,76,85,69,33]
 ·rw [zQN a1,zQQ a2];have hm:m=7:=by rw [a2] at hl;exact hl.symm
  rw [zJ9 a2];subst hm;simp [zKk,wrongs]
 by_cases a3:l.take m=[35,82,69,70,33]
 ·rw [zQN a1,zQN a2,zQQ a3];have hm:m=5:=by rw [a3] at hl;exact hl.symm
  rw [zJ9 a3];subst hm;simp [zKk,wrongs]
 by_cases a4:l.take m=[35,78,65,77,69,33]
 ·rw [zQN a1,zQN a2,zQN a3,zQQ a4];have hm:m=6:=by rw [a4] at hl;exact hl.symm
  rw [zJ9 a4];subst hm;simp [zKk,wrongs]
 by_cases a5:l.take m=[35,78,85,77,33]
 ·rw [zQN a1,zQN a2,zQN a3,zQN a4,zQQ a5];have hm:m=5:=by rw [a5] at hl;exact hl.symm
  rw [zJ9 a5];subst hm;simp [zKk,wrongs]
 by_cases a6:l.take m=[35,78,79,78,69,33]
 ·rw [zQN a1,zQN a2,zQN a3,zQN a4,zQN a5,zQQ a6];have hm:m=6:=by rw [a6] at hl;exact hl.symm
  rw [zJ9 a6];subst hm;simp [zKk,wrongs]
 rw [zQN a1,zQN a2,zQN a3,zQN a4,zQN a5,zQN a6];unfold zKk wrongs;simp only [zKk];split
 ·rename_i k n hk
  symm
  rw [zQN];intro hn;subst hn
  repeat' split at hk
  ·cases hk;rename_i x;exact a1 x
  ·cases hk;rename_i x;exact a2 x
  ·cases hk;rename_i x;exact a3 x
  ·cases hk;rename_i x;exact a4 x
  ·cases hk;rename_i x;exact a5 x
  ·cases hk;rename_i x;exact a6 x
  ·cases hk
 ·rfl
end Go.AM
set_option maxRecDepth 20000
namespace Go.AM
section
variable {C:CSpec} {GT:Nat->Option AV}
theorem prim_fin (hF:∀ b s p d a e H,H[b]?=some (rdB s p d)->C zU (.pan .undef::[pR b,.int .i64 a,zIb e]) H zHS (H.set b (.box (wkC s))))
  (b:Nat) (s:Bs) (p d:Nat) (H:Heap) (hb:H[b]?=some (rdB s p d)) (hp:p<=s.length) (hl:s.length<=200) (hd:d<=1000) (hlt:¬ p<s.length):zCr C GT z7 [pR b] H b (wkC s) zHS (mkR s d (zB4 s (P s) p d)):=by
 have hbl:b<H.length:=(zg hb).1;have e:mkR s d (zB4 s (P s) p d)=none:=by rw [one_fin (zQ9 tO)];rfl
 rw [e];have hf:=fun H' h=>hF b s p d p 2 H' h;clear hF;refine zAH<|zBr (x:=pR b) rfl<|sW ?_;refine zA1 (hf _ hP) ?_
 exact sP
theorem prim_par (hWi:∀ f caps a b s p d H r,H[b]?=some (rdB s p d)->d<=1000->(∀ H',H'[b]?=some (rdB s p (d+1))->Off H b H'->CR C f caps H' b s (d+1) r)->CR C zq [pR b,.int .i64 a,.fn f [] caps] H b s d (if d=30 then none else r))
  (b:Nat) (s:Bs) (p d:Nat) (H:Heap) (hb:H[b]?=some (rdB s p d)) (hp:p<=s.length) (hl:s.length<=200) (hd:d<=1000) (hc:s[p]?=some 40) (hPa:s[p]?=some 40->∀ H' rb,H'[b]?=some (rdB s p (d+1))->H'[rb]?=some (.box [pR b])->CR C zAb [pR rb] H' b s (d+1) (parS s p (d+1))):zCr C GT z7 [pR b] H b (wkC s) zHS (mkR s d (zB4 s (P s) p d)):=by
 have hbl:b<H.length:=(zg hb).1;have hlt:p<s.length:=(zg hc).1;rw [one_par hc];have hpa:=hPa hc;have hw:=hWi zAb [pR H.length] p b s p d (H++[.box [pR b]]++[.box (ndC zZ)]) (parS s p (d+1)) (zF (zF hb)) hd (fun H' h1 ho=>hpa H' H.length h1 (ho _ _ hP tO));clear hWi hPa hpa;refine zAH ?_;cases hr:(if d=30 then none else parS s p (d+1)) with
 |none=>
  rw [hr] at hw;have hw:=hw.2 rfl;have e:mkR s d none=none:=rfl;rw [e];refine zBr (x:=pR b) rfl<|sW ?_;refine zA1 hw ?_
  exact sP
 |some q=>
  obtain ⟨n,e⟩:=q;rw [hr] at hw;have hw:=hw.1 n e rfl;have e0:mkR s d (some (n,e))=some (ndV n,rdB s e d):=rfl;rw [e0];refine zBr (x:=pR b) rfl<|sW ?_;refine zCT hw<|sSA (ndV n) ?_
  exact zAF (o:=0) (ndV n) (by first|rfl|assumption) rfl rfl (zH hP) rfl rfl rfl hO rfl
theorem prim_txt (hTx:∀ b s p d H,H[b]?=some (rdB s p d)->p<s.length->s.length<=200->CR C zBP [pR b] H b s d ((quo (s.drop (p+1)) (p+1)).map fun q=>(zHP q.1,q.2)))
  (b:Nat) (s:Bs) (p d:Nat) (H:Heap) (hb:H[b]?=some (rdB s p d)) (hp:p<=s.length) (hl:s.length<=200) (hd:d<=1000) (hc:s[p]?=some 34):zCr C GT z7 [pR b] H b (wkC s) zHS (mkR s d (zB4 s (P s) p d)):=by
 have hbl:b<H.length:=(zg hb).1;have hlt:p<s.length:=(zg hc).1;rw [one_txt hc];have hw:=hTx b s p d (H++[.box [pR b]]++[.box (ndC zZ)]) (zF (zF hb)) hlt hl;clear hTx;generalize (quo (s.drop (p+1)) (p+1)).map (fun q=>(zHP q.1,q.2))=r at *;refine zAH ?_;cases r with
 |none=>
  have hw:=hw.2 rfl;have e:mkR s d none=none:=rfl;rw [e];refine zBr (x:=pR b) rfl<|zA (pR b) hP rfl<|zA (zK p) (zF (zF hb)) rfl<|zA (pR b) hP rfl<|zA (AV.str s) (zF (zF hb)) rfl<|zk tN ?_;refine zA (pR b) hP rfl<|zA (AV.str s) (zF (zF hb)) rfl<|zCB rfl hc<|zk (tN (by decide))<|zp (tE (by rfl))<|zA (pR b) hP rfl ?_;refine zA1 hw ?_
  exact sP
 |some q=>
  obtain ⟨n,e⟩:=q;have hw:=hw.1 n e rfl;have e0:mkR s d (some (n,e))=some (ndV n,rdB s e d):=rfl;rw [e0];refine zBr (x:=pR b) rfl<|zA (pR b) hP rfl<|zA (zK p) (zF (zF hb)) rfl<|zA (pR b) hP rfl<|zA (AV.str s) (zF (zF hb)) rfl<|zk tN ?_;refine zA (pR b) hP rfl<|zA (AV.str s) (zF (zF hb)) rfl<|zCB rfl hc<|zk (tN (by decide))<|zp (tE (by rfl))<|zA (pR b) hP rfl ?_;refine zCT hw<|zL (v:=ndV n) (AV.cells (ndV n)) hP rfl rfl rfl rfl ?_
  exact zAF (o:=0) (ndV n) (by first|rfl|assumption) rfl rfl (zH hP) rfl rfl rfl hO rfl
section
variable (hF:∀ b s p d a e H,H[b]?=some (rdB s p d)->C zU (.pan .undef::[pR b,.int .i64 a,zIb e]) H zHS (H.set b (.box (wkC s))))
include hF
theorem prim_bad (hLi:∀ t H,C zAY [.str t] H (litV (litP t)) H)
  (b:Nat) (s:Bs) (p d:Nat) (H:Heap) (hb:H[b]?=some (rdB s p d)) (hp:p<=s.length) (hl:s.length<=200) (hd:d<=1000) (hc:s[p]?=some 35):zCr C GT z7 [pR b] H b (wkC s) zHS (mkR s d (zB4 s (P s) p d)):=by
 have hbl:b<H.length:=(zg hb).1;have hlt:p<s.length:=(zg hc).1;rw [one_bad hc];have hlb:=fun e (h1:p<e) (h2:e<=s.length)=>lit_bad hc h1 h2;have hbe:∀ q,zKk (s.drop p) wrongs 1=some q->0<q.2/\q.2<=s.length-p:=fun q hq=>by
  have:=zPy _ _ _ _ hq (by decide)
  rwa [zQp] at this
 have hf:=fun H' h=>hF b s p d p 2 H' h;clear hF;generalize zKk (s.drop p) wrongs 1=r at *;refine zAH ?_;refine zBr (x:=pR b) rfl<|zA (pR b) hP rfl<|zA (zK p) (zF (zF hb)) rfl<|zA (pR b) hP rfl<|zA (AV.str s) (zF (zF hb)) rfl<|zk tN ?_;refine zA (pR b) hP rfl<|zA (AV.str s) (zF (zF hb)) rfl<|zCB rfl hc<|zk (tN (by decide))<|zk (tN (by decide))<|zp (tE (by rfl)) ?_;refine zS (r:=p+1) rfl tO ?_;refine zBB (fun k:Nat=>[(2,pR (H++[ABlk.box [pR b]]).length),(5,zK k),(1,pR H.length),(3,zK p)])
  (fun k H'=>OldB H b (rdB s p d) H'/\H'[b]?=some (rdB s p d)/\H'[H.length]?=some (.box [pR b])/\H'[(H++[ABlk.box [pR b]]).length]?=some (.box (ndC zZ))/\p<k/\k<=s.length+1/\∀ q,r=some q->k<=p+q.2)
  (fun k=>s.length+1-k) (p+1) rfl ⟨((OldB.start hb).push _).push _,zF (zF hb),zF zB,zB,by omega,by omega,fun q hq=>by have:=(hbe q hq).1;omega⟩ (fun k H1 ⟨ho,hb1,hr1,h2,hpk,hk,hq⟩=>?_)
 have hlen1:=ho.old.1;rw [zQZ] at hlen1;have hl2:=(zg h2).1;have hlH:(H++[ABlk.box [pR b]]).length=H.length+1:=by simp
 by_cases hks:k<=s.length
 ·have hlk:=hlb k hpk hks;have hli:=hLi (sub s p k) H1;clear hLi;by_cases hit:∃ q,r=some q/\k=p+q.2
  ·obtain ⟨⟨kk,nn⟩,rfl,hkn⟩:=hit;simp only at hkn;have e2:litP (sub s p k)=some (4,(kk:Int)):=by
    rw [hlk];simp only;rw [zQQ tO]
   rw [e2] at hli;have hli:C zAY [.str (sub s p k)] H1 (.tup [v3 4 kk,.bool true]) H1:=hli;have e0:mkR s d (Option.map (fun q:Nat×Nat=>(zHR q.1,p+q.2)) (some (kk,nn)))=some (ndV (zHR kk),rdB s k d):=by rw [hkn];rfl
   rw [e0];refine sW ?_;refine zy (v:=.str (sub s p k)) (zEB s p k tO tO)<|sW ?_;refine sSA (v3 4 ↑kk) ?_;refine sW ?_;refine sS (zK k) [AV.str s,zK k,zK d] ?_;refine sW ?_;refine sSA (.agg (zN 4 ↑kk [])) ?_
   exact zAF (o:=0) (ndV (zHR kk)) rfl rfl rfl (zH hP) rfl rfl rfl ((((ho.push _).set tO _).setB _).set tO _) rfl
  ·have e2:litP (sub s p k)=none:=by
    rw [hlk];cases r with
    |none=>rfl
    |some q=>
     simp only;rw [zQN (fun e=>hit ⟨q,rfl,by omega⟩)]
   rw [e2] at hli;have hli:C zAY [.str (sub s p k)] H1 (.tup [v3 0 0,.bool false]) H1:=hli;refine sW ?_;refine zy (v:=.str (sub s p k)) (zEB s p k tO tO)<|sW ?_;refine sSA (v3 0 0) ?_;refine sW ?_;refine zS (r:=k+1) rfl tO ?_;refine zAP (k+1) rfl ⟨(ho.push _).set tO _,zC tO (zF hb1),zC tO (zF hr1),zC tO (zF h2),by omega,by omega,fun q hq'=>?_⟩ tO
   have h3:=hq q hq';rcases zRz k (p+q.2) with h|h
   ·omega
   ·exact absurd ⟨q,hq',by omega⟩ hit
 ·have e2:r=none:=by
   cases r with
   |none=>rfl
   |some q=>
    have:=hq q rfl;have:=(hbe q rfl).2;omega
  subst e2;have e0:mkR s d (Option.map (fun q:Nat×Nat=>(zHR q.1,p+q.2)) none)=none:=rfl;rw [e0];refine sW ?_;refine zA1 (hf _ hb1) ?_;exact sP
theorem prim_else (hWd:∀ c H,C zA0 [byV c] H (.bool (zh c)) H)
  (b:Nat) (s:Bs) (p d:Nat) (H:Heap) (hb:H[b]?=some (rdB s p d)) (hp:p<=s.length) (hl:s.length<=200) (hd:d<=1000) (c:UInt8) (hc:s[p]?=some c) (h32:s[p]?≠some 32) (h45:s[p]?≠some 45) (h40:c≠40) (h34:c≠34) (h35:c≠35) (hw:¬ zh c=true):zCr C GT z7 [pR b] H b (wkC s) zHS (mkR s d (zB4 s (P s) p d)):=by
 have hbl:b<H.length:=(zg hb).1;have hlt:p<s.length:=(zg hc).1;have n40:c.toNat≠40:=fun e=>h40 (zQm.1 e);have n34:c.toNat≠34:=fun e=>h34 (zQm.1 e);have n35:c.toNat≠35:=fun e=>h35 (zQm.1 e);have hwd:=hWd c (H++[.box [pR b]]++[.box (ndC zZ)]);have hw:=zRI.2 hw;rw [one_else hc (fun e=>h32 (by rw [hc,e])) (fun e=>h45 (by rw [hc,e])) h40 h34 h35 hw];have e0:mkR s d none=none:=rfl;rw [e0];rw [hw] at hwd;have hf:=fun H' h=>hF b s p d p 2 H' h;clear hF hWd;refine zAH<|zBr (x:=pR b) rfl<|sW ?_;refine zA1 (hf _ hP) ?_
 exact sP
end
theorem prim_call (hWd:∀ c H,C zA0 [byV c] H (.bool (zh c)) H) (hWo:∀ b s p d H,H[b]?=some (rdB s p d)->p<=s.length->s.length<=200->C zAG [pR b] H (.str (sub s p (zDE s p))) (H.set b (rdB s (zDE s p) d))) (hCa:∀ t H,t.length<=1000->C zAz [.str t] H (.bool (zA3 t)) H) (hWi:∀ f caps a b s p d H r,H[b]?=some (rdB s p d)->d<=1000->(∀ H',H'[b]?=some (rdB s p (d+1))->Off H b H'->CR C f caps H' b s (d+1) r)->CR C zq [pR b,.int .i64 a,.fn f [] caps] H b s d (if d=30 then none else r))
  (b:Nat) (s:Bs) (p d:Nat) (H:Heap) (hb:H[b]?=some (rdB s p d)) (hp:p<=s.length) (hl:s.length<=200) (hd:d<=1000) (c:UInt8) (hc:s[p]?=some c) (hw:zh c=true) (h41:s[zDE s p]?=some 40) (hcd:zA3 (sub s p (zDE s p))=true) (hCl:∀ e t,s[e]?=some 40->p<e->∀ H' rb sb,H'[b]?=some (rdB s e (d+1))->H'[rb]?=some (.box [pR b])->H'[sb]?=some (.box [.str t])->CR C zAJ [pR rb,pR sb] H' b s (d+1) (zJH s t e (d+1))):zCr C GT z7 [pR b] H b (wkC s) zHS (mkR s d (zB4 s (P s) p d)):=by
 have hbl:b<H.length:=(zg hb).1;have hlt:p<s.length:=(zg hc).1;have hwn:=zJ8 hw;have n40:c.toNat≠40:=fun e=>hwn.2.2.2.2 (zQm.1 e);have n34:c.toNat≠34:=fun e=>hwn.2.2.2.1 (zQm.1 e);have n35:c.toNat≠35:=fun e=>hwn.2.2.1 (zQm.1 e);have hwd:=hWd c (H++[.box [pR b]]++[.box (ndC zZ)]);rw [hw] at hwd;rw [one_word hc hw];have hwo:=hWo b s p d (H++[.box [pR b]]++[.box (ndC zZ)]) (zF (zF hb)) hp hl;have hee:p<zDE s p:=by rw [zHz hc hw];have:=zLC s (p+1);omega
 have hel:=zJr hp;have hth:=zOg (e:=zDE s p) hc hee;have htl:=zNJ (s:=s) (p:=p) (e:=zDE s p) hel;generalize zDE s p=e at *;generalize sub s p e=t at *;have hca:=fun H'=>hCa t H' tO;have hcl:=fun h=>hCl e t h hee;have hww:=fun H' r h1 h2=>hWi zAJ [pR H.length,pR ((H++[ABlk.box [pR b]]++[ABlk.box (ndC zZ)]).set b (rdB s e d)).length] p b s e d H' r h1 hd h2;clear hWi hWd hWo hCa hCl;refine zAH ?_;have hlt2:e<s.length:=(zg h41).1;rw [zQQ ⟨hcd,h41⟩];have hcl:=hcl h41;rw [hcd] at hca
 skip
 have hH2:∀ X:Heap,X[H.length]?=some (.box [pR b])->X[((H++[ABlk.box [pR b]]++[ABlk.box (ndC zZ)]).set b (rdB s e d)).length]?=some (.box [.str t])->X[b]?=some (rdB s e d)->CR C zq [pR b,zK p,.fn zAJ [] [pR H.length,pR ((H++[ABlk.box [pR b]]++[ABlk.box (ndC zZ)]).set b (rdB s e d)).length]] X b s d (if d=30 then none else zJH s t e (d+1)):=fun X x1 x2 x3=>
  hww X (zJH s t e (d+1)) x3 (fun H' h1 ho=>hcl H' _ _ h1 (ho _ _ x1 tO) (ho _ _ x2 (by simp;omega)))
 clear hww hcl;cases hr:(if d=30 then none else zJH s t e (d+1)) with
 |none=>
  rw [hr] at hH2;have hH2:=fun X x1 x2 x3=>(hH2 X x1 x2 x3).2 rfl;have e0:mkR s d none=none:=rfl;rw [e0];refine zBr (x:=pR b) rfl<|sW ?_;refine sS (AV.str t) [AV.str t] ?_;refine sW ?_;refine zA1 (hH2 _ hP hP hP) ?_
  exact sP
 |some q=>
  obtain ⟨n,e'⟩:=q;rw [hr] at hH2;have hH2:=fun X x1 x2 x3=>(hH2 X x1 x2 x3).1 n e' rfl;have e0:mkR s d (some (n,e'))=some (ndV n,rdB s e' d):=rfl;rw [e0];refine zBr (x:=pR b) rfl<|sW ?_;refine sS (AV.str t) [AV.str t] ?_;refine sW ?_;refine zCT (hH2 _ hP hP hP)<|sSA (ndV n) ?_
  exact zAF (o:=0) (ndV n) (by first|rfl|assumption) rfl rfl (zH hP) rfl rfl rfl hO rfl
section
variable (hF:∀ b s p d a e H,H[b]?=some (rdB s p d)->C zU (.pan .undef::[pR b,.int .i64 a,zIb e]) H zHS (H.set b (.box (wkC s)))) (hWd:∀ c H,C zA0 [byV c] H (.bool (zh c)) H) (hWo:∀ b s p d H,H[b]?=some (rdB s p d)->p<=s.length->s.length<=200->C zAG [pR b] H (.str (sub s p (zDE s p))) (H.set b (rdB s (zDE s p) d)))
include hF hWd hWo
theorem prim_plain1 (hCa:∀ t H,t.length<=1000->C zAz [.str t] H (.bool (zA3 t)) H) (hPl:∀ t H,t.length<=1000->t.head?≠some 45->t.head?≠some 35->C zAs [.str t] H (zMS (zIe t)) H)
  (b:Nat) (s:Bs) (p d:Nat) (H:Heap) (hb:H[b]?=some (rdB s p d)) (hp:p<=s.length) (hl:s.length<=200) (hd:d<=1000) (c:UInt8) (hc:s[p]?=some c) (hw:zh c=true) (h41:s[zDE s p]?=some 40) (hcd:¬ zA3 (sub s p (zDE s p))=true):zCr C GT z7 [pR b] H b (wkC s) zHS (mkR s d (zB4 s (P s) p d)):=by
 have hbl:b<H.length:=(zg hb).1;have hlt:p<s.length:=(zg hc).1;have hwn:=zJ8 hw;have n40:c.toNat≠40:=fun e=>hwn.2.2.2.2 (zQm.1 e);have n34:c.toNat≠34:=fun e=>hwn.2.2.2.1 (zQm.1 e);have n35:c.toNat≠35:=fun e=>hwn.2.2.1 (zQm.1 e);have hwd:=hWd c (H++[.box [pR b]]++[.box (ndC zZ)]);rw [hw] at hwd;rw [one_word hc hw];have hwo:=hWo b s p d (H++[.box [pR b]]++[.box (ndC zZ)]) (zF (zF hb)) hp hl;have hee:p<zDE s p:=by rw [zHz hc hw];have:=zLC s (p+1);omega
 have hel:=zJr hp;have hth:=zOg (e:=zDE s p) hc hee;have htl:=zNJ (s:=s) (p:=p) (e:=zDE s p) hel;generalize zDE s p=e at *;generalize sub s p e=t at *;have hpl:=fun H'=>hPl t H' tO (by rw [hth];exact fun x=>hwn.2.1 (zQl x)) (by rw [hth];exact fun x=>hwn.2.2.1 (zQl x));have hca:=fun H'=>hCa t H' tO;have hf:=fun H' h=>hF b s e d p 2 H' h;clear hF hWd hWo hCa hPl;have hlt2:e<s.length:=(zg h41).1;refine zAH ?_;rw [zQN (fun x=>hcd x.1)];rw [zRI.2 hcd] at hca
 skip
 cases ha:zIe t with
 |none=>
  rw [ha] at hpl;have hpl:∀ H',C zAs [.str t] H' (.tup [ndV zZ,.bool false]) H':=hpl;have e0:mkR s d (Option.map (fun n=>(n,e)) none)=none:=rfl;rw [e0];refine zBr (x:=pR b) rfl<|sW ?_;refine sS (AV.str t) [AV.str t] ?_;refine sW ?_;refine sSA (ndV zZ) ?_;refine sW ?_;refine zA1 (hf _ hP) ?_
  exact sP
 |some n=>
  rw [ha] at hpl;have hpl:∀ H',C zAs [.str t] H' (.tup [ndV n,.bool true]) H':=hpl;have e0:mkR s d (Option.map (fun n=>(n,e)) (some n))=some (ndV n,rdB s e d):=rfl;rw [e0];refine zBr (x:=pR b) rfl<|sW ?_;refine sS (AV.str t) [AV.str t] ?_;refine sW ?_;refine sSA (ndV n) ?_;refine sW ?_;refine sSA (ndV n) ?_
  exact zAF (o:=0) (ndV n) (by first|rfl|assumption) rfl rfl (zH hP) rfl rfl rfl hO rfl
theorem prim_plain2 (hPl:∀ t H,t.length<=1000->t.head?≠some 45->t.head?≠some 35->C zAs [.str t] H (zMS (zIe t)) H)
  (b:Nat) (s:Bs) (p d:Nat) (H:Heap) (hb:H[b]?=some (rdB s p d)) (hp:p<=s.length) (hl:s.length<=200) (hd:d<=1000) (c:UInt8) (hc:s[p]?=some c) (hw:zh c=true) (h41:¬ s[zDE s p]?=some 40):zCr C GT z7 [pR b] H b (wkC s) zHS (mkR s d (zB4 s (P s) p d)):=by
 have hbl:b<H.length:=(zg hb).1;have hlt:p<s.length:=(zg hc).1;have hwn:=zJ8 hw;have n40:c.toNat≠40:=fun e=>hwn.2.2.2.2 (zQm.1 e);have n34:c.toNat≠34:=fun e=>hwn.2.2.2.1 (zQm.1 e);have n35:c.toNat≠35:=fun e=>hwn.2.2.1 (zQm.1 e);have hwd:=hWd c (H++[.box [pR b]]++[.box (ndC zZ)]);rw [hw] at hwd;rw [one_word hc hw];have hwo:=hWo b s p d (H++[.box [pR b]]++[.box (ndC zZ)]) (zF (zF hb)) hp hl;have hee:p<zDE s p:=by rw [zHz hc hw];have:=zLC s (p+1);omega
 have hel:=zJr hp;have hth:=zOg (e:=zDE s p) hc hee;have htl:=zNJ (s:=s) (p:=p) (e:=zDE s p) hel;generalize zDE s p=e at *;generalize sub s p e=t at *;have hpl:=fun H'=>hPl t H' tO (by rw [hth];exact fun x=>hwn.2.1 (zQl x)) (by rw [hth];exact fun x=>hwn.2.2.1 (zQl x));have hf:=fun H' h=>hF b s e d p 2 H' h;clear hF hWd hWo hPl;refine zAH ?_;rw [zQN (fun x=>h41 x.2)]
 skip
 cases ha:zIe t with
 |none=>
  rw [ha] at hpl;have hpl:∀ H',C zAs [.str t] H' (.tup [ndV zZ,.bool false]) H':=hpl;have e0:mkR s d (Option.map (fun n=>(n,e)) none)=none:=rfl;rw [e0];by_cases hlt2:e<s.length
  ·obtain ⟨x,hx⟩:∃ x,s[e]?=some x:=⟨_,zQS hlt2⟩;have hxn:x.toNat≠40:=fun y=>h41 (by rw [hx,show x=40 from zQm.1 y]);refine zBr (x:=pR b) rfl<|sW ?_;refine sS (AV.str t) [AV.str t] ?_;refine sW ?_;refine sSA (ndV zZ) ?_;refine sW ?_;refine zA1 (hf _ hP) ?_
   exact sP
  ·refine zBr (x:=pR b) rfl<|sW ?_;refine sS (AV.str t) [AV.str t] ?_;refine sW ?_;refine sSA (ndV zZ) ?_;refine sW ?_;refine zA1 (hf _ hP) ?_
   exact sP
 |some n=>
  rw [ha] at hpl;have hpl:∀ H',C zAs [.str t] H' (.tup [ndV n,.bool true]) H':=hpl;have e0:mkR s d (Option.map (fun n=>(n,e)) (some n))=some (ndV n,rdB s e d):=rfl;rw [e0];by_cases hlt2:e<s.length
  ·obtain ⟨x,hx⟩:∃ x,s[e]?=some x:=⟨_,zQS hlt2⟩;have hxn:x.toNat≠40:=fun y=>h41 (by rw [hx,show x=40 from zQm.1 y]);refine zBr (x:=pR b) rfl<|sW ?_;refine sS (AV.str t) [AV.str t] ?_;refine sW ?_;refine sSA (ndV n) ?_;refine sW ?_;refine sSA (ndV n) ?_
   exact zAF (o:=0) (ndV n) (by first|rfl|assumption) rfl rfl (zH hP) rfl rfl rfl hO rfl
  ·refine zBr (x:=pR b) rfl<|sW ?_;refine sS (AV.str t) [AV.str t] ?_;refine sW ?_;refine sSA (ndV n) ?_;refine sW ?_;refine sSA (ndV n) ?_
   exact zAF (o:=0) (ndV n) (by first|rfl|assumption) rfl rfl (zH hP) rfl rfl rfl hO rfl
end
end
end Go.AM
set_option maxRecDepth 20000
namespace Go.AM
theorem psOne_skip (s:Bs) (q:Ps) (p d:Nat):zB4 s q (skip s p) d=zB4 s q p d:=by unfold zB4;rw [zMQ]
theorem one_minus {s:Bs} {p d:Nat} (h:s[p]?=some 45):zB4 s (P s) p d=if d=30 then none else ((P s).one (p+1) (d+1)).map fun q=>(zDJ q.1,q.2):=by
 have hs:skip s p=p:=zDh (by rw [h];simp);have ht:=zH3 (s:=s) (p:=p) (c:=45) (by rw [hs];exact h) (by decide);rw [hs] at ht;unfold zB4;rw [ht];rfl
def argS (s:Bs) (p d:Nat):Option (Nd×Nat):=match zDu s p with
 |some r=>r
 |none=>bl s ((P s).loose 1 p d)
theorem sub_self (s:Bs) (a:Nat):sub s a a=[]:=by unfold sub;rw [Nat.sub_self];rfl
theorem refP_nil:zE9 []=none:=rfl
theorem box_is (s:Bs) (p:Nat):zDu s p=match zE9 (sub s (skip s p) (zDE s (skip s p))) with
  |some r=>if s[zDE s (skip s p)]?=some 58 then some ((zE9 (sub s (zDE s (skip s p)+1) (zDE s (zDE s (skip s p)+1)))).map fun r2=>(zAx r r2,zDE s (zDE s (skip s p)+1))) else none
  |none=>none:=by
 unfold zDu;by_cases hw:∃ c,s[skip s p]?=some c/\zh c=true
 ·obtain ⟨c,hc,hw⟩:=hw;have ht:tok s p=.word (zDE s (skip s p)) (sub s (skip s p) (zDE s (skip s p))):=by rw [<-zMQ];exact tok_word hc hw
  rw [ht];simp only;cases zE9 (sub s (skip s p) (zDE s (skip s p))) with
  |none=>rfl
  |some r=>
   simp only;generalize zDE s (skip s p)=e;by_cases h58:s[e]?=some 58
   ·rw [zQQ h58,zQQ h58];by_cases hw2:∃ c,s[e+1]?=some c/\zh c=true
    ·obtain ⟨c2,hc2,hw2⟩:=hw2;have ht2:zBg s (e+1)=.word (zDE s (e+1)) (sub s (e+1) (zDE s (e+1))):=by
      unfold zBg;rw [hc2];simp only [hw2,zQz]
     rw [ht2]
    ·have hst:zDE s (e+1)=e+1:=zH0 fun c h=>zRI.2 fun x=>hw2 ⟨c,h,x⟩;rw [hst,sub_self,refP_nil];unfold zBg;split
     ·rename_i heq;split at heq
      ·cases heq
      ·rename_i c2 hc2;rw [zQN (fun x=>hw2 ⟨c2,hc2,x⟩)] at heq;split at heq
       ·split at heq <;> cases heq
       ·split at heq
        ·split at heq <;> cases heq
        ·split at heq
         ·split at heq <;> cases heq
         ·cases heq
     ·rfl
   ·rw [zQN h58,zQN h58]
 ·have hst:zDE s (skip s p)=skip s p:=zH0 fun c h=>zRI.2 fun x=>hw ⟨c,h,x⟩;rw [hst,sub_self,refP_nil];simp only;split
  ·rename_i e t heq;exfalso;unfold tok zBg at heq;split at heq
   ·cases heq
   ·rename_i c2 hc2;rw [zQN (fun x=>hw ⟨c2,hc2,x⟩)] at heq;split at heq
    ·split at heq <;> cases heq
    ·split at heq
     ·split at heq <;> cases heq
     ·split at heq
      ·split at heq <;> cases heq
      ·cases heq
  ·rfl
section
variable {C:CSpec} {GT:Nat->Option AV}
theorem neg_ev (hB:∀ b s p d H,H[b]?=some (rdB s p d)->p<=s.length->s.length<=200->C zW [pR b] H (.tup []) (H.set b (rdB s (skip s p) d)))
  (hWi:∀ f caps a b s p d H r,H[b]?=some (rdB s p d)->d<=1000->(∀ H',H'[b]?=some (rdB s p (d+1))->Off H b H'->CR C f caps H' b s (d+1) r)->CR C zq [pR b,.int .i64 a,.fn f [] caps] H b s d (if d=30 then none else r))
  (b:Nat) (s:Bs) (p d:Nat) (H:Heap) (hb:H[b]?=some (rdB s p d)) (hp:p<=s.length) (hl:s.length<=200) (hd:d<=1000)
  (hNc:s[skip s p]?=some 45->∀ H' rb,H'[b]?=some (rdB s (skip s p) (d+1))->H'[rb]?=some (.box [pR b])->CR C zA6 [pR rb] H' b s (d+1) (((P s).one (skip s p+1) (d+1)).map fun q=>(zDJ q.1,q.2)))
  (hPr:s[skip s p]?≠some 45->∀ H',H'[b]?=some (rdB s (skip s p) d)->CR C zBO [pR b] H' b s d (zB4 s (P s) (skip s p) d)) :
  zCr C GT zDf [pR b] H b (wkC s) zHS (mkR s d ((P s).one p d)):=by
 have hbl:b<H.length:=(zg hb).1;rw [P_one d hp,<-psOne_skip];have hbk:=hB b s p d (H++[ABlk.box (pR b).cells]++[ABlk.box (ndC zZ)]) (zF (zF hb)) hp hl;have hql:=zCS hp;generalize skip s p=q at *;by_cases h45:s[q]?=some 45
 ·have hlt:q<s.length:=(zg h45).1;rw [one_minus h45];have hnc:=hNc h45;have hw:=hWi zA6 [pR H.length] q b s q d ((H++[ABlk.box (pR b).cells]++[ABlk.box (ndC zZ)]).set b (rdB s q d)) (((P s).one (q+1) (d+1)).map fun q=>(zDJ q.1,q.2)) (zV (zF (zF hb))) hd (fun H' h1 ho=>hnc H' H.length h1 (ho _ _ hP tO));clear hB hWi hNc hPr hnc;refine zAH ?_;cases hr:(if d=30 then none else ((P s).one (q+1) (d+1)).map fun q=>(zDJ q.1,q.2)) with
  |none=>
   rw [hr] at hw;have hw:=hw.2 rfl;have e:mkR s d none=none:=rfl;rw [e];refine sX ?_;refine zA1 hw ?_;exact sP
  |some x=>
   obtain ⟨n,e⟩:=x;rw [hr] at hw;have hw:=hw.1 n e rfl;have e0:mkR s d (some (n,e))=some (ndV n,rdB s e d):=rfl;rw [e0];refine sX ?_;refine zCT hw<|sSA (ndV n) ?_
   exact zAF (o:=0) (ndV n) (by first|rfl|assumption) rfl rfl (zH hP) rfl rfl rfl hO rfl
 ·have hpr:=hPr h45 ((H++[ABlk.box (pR b).cells]++[ABlk.box (ndC zZ)]).set b (rdB s q d)) (zV (zF (zF hb)));clear hB hWi hNc hPr;generalize zB4 s (P s) q d=r at *;refine zAH ?_;by_cases hlt:q<s.length
  ·obtain ⟨c,hc⟩:∃ c,s[q]?=some c:=⟨_,zQS hlt⟩;have hn:c.toNat≠45:=fun e=>h45 (by rw [hc,show c=45 from zQm.1 e]);cases r with
   |none=>
    have hpr:=hpr.2 rfl;have e:mkR s d none=none:=rfl;rw [e];refine sX ?_;refine zA1 hpr ?_;exact sP
   |some x=>
    obtain ⟨n,e⟩:=x;have hpr:=hpr.1 n e rfl;have e0:mkR s d (some (n,e))=some (ndV n,rdB s e d):=rfl;rw [e0];refine sX ?_;refine zCT hpr<|sSA (ndV n) ?_
    exact zAF (o:=0) (ndV n) (by first|rfl|assumption) rfl rfl (zH hP) rfl rfl rfl hO rfl
  ·cases r with
   |none=>
    have hpr:=hpr.2 rfl;have e:mkR s d none=none:=rfl;rw [e];refine sX ?_;refine zA1 hpr ?_;exact sP
   |some x=>
    obtain ⟨n,e⟩:=x;have hpr:=hpr.1 n e rfl;have e0:mkR s d (some (n,e))=some (ndV n,rdB s e d):=rfl;rw [e0];refine sX ?_;refine zCT hpr<|sSA (ndV n) ?_
    exact zAF (o:=0) (ndV n) (by first|rfl|assumption) rfl rfl (zH hP) rfl rfl rfl hO rfl
theorem arg_ev (hB:∀ b s p d H,H[b]?=some (rdB s p d)->p<=s.length->s.length<=200->C zW [pR b] H (.tup []) (H.set b (rdB s (skip s p) d)))
  (hF:∀ b s p d a e H,H[b]?=some (rdB s p d)->C zU (.pan .undef::[pR b,.int .i64 a,zIb e]) H zHS (H.set b (.box (wkC s))))
  (hWo:∀ b s p d H,H[b]?=some (rdB s p d)->p<=s.length->s.length<=200->C zAG [pR b] H (.str (sub s p (zDE s p))) (H.set b (rdB s (zDE s p) d)))
  (hR:∀ s H,s.length<=1000->C zBc [.str s] H (refV (zE9 s)) H)
  (b:Nat) (s:Bs) (p d:Nat) (H:Heap) (hb:H[b]?=some (rdB s p d)) (hp:p<=s.length) (hl:s.length<=200)
  (hT:∀ H',H'[b]?=some (rdB s (skip s p) d)->CR C zi [pR b,zJ 0] H' b s d (bl s ((P s).loose 1 p d))) :
  zCr C GT zB9 [pR b] H b (wkC s) zHS (mkR s d (argS s p d)):=by
 have hbl:b<H.length:=(zg hb).1;unfold argS;rw [box_is];have hbk:=hB b s p d (H++[ABlk.box (ndC zZ)]) (zF hb) hp hl;have hql:=zCS hp;generalize skip s p=q at *;have hwo:=fun H' h=>hWo b s q d H' h hql hl;have hel:=zJr hql;have htl:(sub s q (zDE s q)).length<=1000:=by rw [zNJ hel];omega
 generalize zDE s q=e at *;have hrr:=fun H'=>hR (sub s q e) H' htl;have hTT:∃ r,bl s ((P s).loose 1 p d)=r:=⟨_,rfl⟩;obtain ⟨r0,hr0⟩:=hTT;rw [hr0] at hT;rw [hr0];generalize sub s q e=t at *;cases hrt:zE9 t with
 |none=>
  rw [hrt] at hrr;have hrr:∀ H',C zBc [.str t] H' (.tup [rV noRef,zIb 2]) H':=hrr;clear hB hF hWo hR;simp only;refine zAH ?_;cases r0 with
  |none=>
   have hT:=fun H' h=>(hT H' h).2 rfl;have e:mkR s d none=none:=rfl;rw [e];refine sX ?_;refine sSA (rV noRef) ?_;refine sX ?_;refine sS (zK q) [AV.str s,zK q,zK d] ?_;refine zA1 (hT _ hP) ?_;exact sP
  |some x=>
   obtain ⟨n,e'⟩:=x;have hT:=fun H' h=>(hT H' h).1 n e' rfl;have e0:mkR s d (some (n,e'))=some (ndV n,rdB s e' d):=rfl;rw [e0];refine sX ?_;refine sSA (rV noRef) ?_;refine sX ?_;refine sS (zK q) [AV.str s,zK q,zK d] ?_;refine zCT (hT _ hP) ?_;refine sSA (ndV n) ?_;exact zAF (o:=0) (ndV n) (by first|rfl|assumption) rfl rfl (zH hP) rfl rfl rfl hO rfl
 |some r=>
  rw [hrt] at hrr;have hrr:∀ H',C zBc [.str t] H' (.tup [rV r,.nili]) H':=hrr;simp only;by_cases h58:s[e]?=some 58
  case neg=>
   rw [zQN h58];clear hB hF hWo hR;simp only;refine zAH ?_;by_cases hlt:e<s.length
   ·obtain ⟨c,hc⟩:∃ c,s[e]?=some c:=⟨_,zQS hlt⟩;have hn:c.toNat≠58:=fun x=>h58 (by rw [hc,show c=58 from zQm.1 x]);cases r0 with
    |none=>
     have hT:=fun H' h=>(hT H' h).2 rfl;have e:mkR s d none=none:=rfl;rw [e];refine sX ?_;refine sSA (rV r) ?_;refine sX ?_;refine zp (zQ8.2 tO) ?_;refine sS (zK q) [AV.str s,zK q,zK d] ?_;refine zA1 (hT _ hP) ?_;exact sP
    |some x=>
     obtain ⟨n,e'⟩:=x;have hT:=fun H' h=>(hT H' h).1 n e' rfl;have e0:mkR s d (some (n,e'))=some (ndV n,rdB s e' d):=rfl;rw [e0];refine sX ?_;refine sSA (rV r) ?_;refine sX ?_;refine zp (zQ8.2 tO) ?_;refine sS (zK q) [AV.str s,zK q,zK d] ?_;refine zCT (hT _ hP) ?_;refine sSA (ndV n) ?_;exact zAF (o:=0) (ndV n) (by first|rfl|assumption) rfl rfl (zH hP) rfl rfl rfl hO rfl
   ·cases r0 with
    |none=>
     have hT:=fun H' h=>(hT H' h).2 rfl;have e:mkR s d none=none:=rfl;rw [e];refine sX ?_;refine sSA (rV r) ?_;refine sX ?_;refine sS (zK q) [AV.str s,zK q,zK d] ?_;refine zA1 (hT _ hP) ?_;exact sP
    |some x=>
     obtain ⟨n,e'⟩:=x;have hT:=fun H' h=>(hT H' h).1 n e' rfl;have e0:mkR s d (some (n,e'))=some (ndV n,rdB s e' d):=rfl;rw [e0];refine sX ?_;refine sSA (rV r) ?_;refine sX ?_;refine sS (zK q) [AV.str s,zK q,zK d] ?_;refine zCT (hT _ hP) ?_;refine sSA (ndV n) ?_;exact zAF (o:=0) (ndV n) (by first|rfl|assumption) rfl rfl (zH hP) rfl rfl rfl hO rfl
  case pos=>
   have hlt:e<s.length:=(zg h58).1;rw [zQQ h58];clear hT;simp only;have hwo2:=fun H' h=>hWo b s (e+1) d H' h tO hl;have hel2:=zJr (s:=s) (a:=e+1) tO;have htl2:(sub s (e+1) (zDE s (e+1))).length<=1000:=by rw [zNJ hel2];omega
   generalize zDE s (e+1)=e2 at *;have hrr2:=fun H'=>hR (sub s (e+1) e2) H' htl2;generalize sub s (e+1) e2=t2 at *;have hf:=fun H' h=>hF b s e2 d (e+1:Nat) 2 H' h;clear hB hF hWo hR;refine zAH ?_;cases hrt2:zE9 t2 with
   |none=>
    rw [hrt2] at hrr2;have hrr2:∀ H',C zBc [.str t2] H' (.tup [rV noRef,zIb 2]) H':=hrr2;have e0:mkR s d (Option.map (fun r2=>(zAx r r2,e2)) none)=none:=rfl;rw [e0];refine sX ?_;refine sSA (rV r) ?_;refine sX ?_;refine zS (r:=e+1) rfl tO<|sS (.int .i64 ↑(e+1)) [AV.str s,.int .i64 ↑(e+1),zK d] ?_;refine zA (.int .i64 ↑(e+1)) (zV (zC tA (zF (zV (zV (zF hb)))))) rfl<|zCM (hwo2 _ hP) (fun h=>by cases h)<|zM (hrr2 _)<|sW ?_;refine sSA (rV noRef) ?_;refine sW ?_;refine zA1 (hf _ hP) ?_
    exact sP
   |some r2=>
    rw [hrt2] at hrr2;have hrr2:∀ H',C zBc [.str t2] H' (.tup [rV r2,.nili]) H':=hrr2;have e0:mkR s d (Option.map (fun r2=>(zAx r r2,e2)) (some r2))=some (ndV (zAx r r2),rdB s e2 d):=rfl;rw [e0];refine sX ?_;refine sSA (rV r) ?_;refine sX ?_;refine zS (r:=e+1) rfl tO<|sS (.int .i64 ↑(e+1)) [AV.str s,.int .i64 ↑(e+1),zK d] ?_;refine zA (.int .i64 ↑(e+1)) (zV (zC tA (zF (zV (zV (zF hb)))))) rfl<|zCM (hwo2 _ hP) (fun h=>by cases h)<|zM (hrr2 _)<|sW ?_;refine sSA (rV r2) ?_;refine sX ?_;refine sSA (.agg (zR 6 r r2)) ?_
    exact zAF (o:=0) (.agg (zR 6 r r2)) (by first|rfl|assumption) rfl rfl (zH hP) rfl rfl rfl hO rfl
end
end Go.AM
set_option maxRecDepth 20000
namespace Go.AM
def zLE (c:UInt8) (d:Option UInt8):Bs:=match d with
 |some d=>if (c=60/\d=62)\/(c=60/\d=61)\/(c=62/\d=61) then [c,d] else [c]
 |none=>[c]
theorem opAt_is {s:Bs} {q:Nat} {c:UInt8} (h:s[q]?=some c) (h32:c≠32) (h34:c≠34) (h35:c≠35) (hw:zh c=false) :
  zH1 s q=if zCA (zLE c s[q+1]?)=0 then none else some (zCA (zLE c s[q+1]?),q+(zLE c s[q+1]?).length):=by
 unfold zH1;rw [zNk (by rw [h];exact fun e=>h32 (zQl e))];unfold zBg;rw [h];simp only [hw,zQY,zQt,h34,h35];unfold zLE;cases s[q+1]? with
 |none=>rfl
 |some d=>
  simp only;by_cases hx:(c=60/\d=62)\/(c=60/\d=61)\/(c=62/\d=61)
  ·simp only [zQQ hx];rfl
  ·simp only [zQN hx];rfl
theorem opAt_some {s:Bs} {q op e:Nat} (hs:s[q]?≠some 32) (h:zH1 s q=some (op,e)):∃ c,s[q]?=some c/\c≠34/\c≠35/\zh c=false:=by
 unfold zH1 at h;rw [zNk hs] at h;unfold zBg at h;cases hc:s[q]? with
 |none=>rw [hc] at h;cases h
 |some c=>
  rw [hc] at h;simp only at h;refine ⟨c,rfl, ?_, ?_, ?_⟩
  ·rintro rfl;have hw:zh 34=false:=by decide
   simp only [hw,zQY,zQt,zQz] at h;cases hq:quo (s.drop (q+1)) (q+1) with
   |none=>rw [hq] at h;cases h
   |some x=>rw [hq] at h;cases h
  ·rintro rfl;have hw:zh 35=false:=by decide
   have h1:¬ ((35:UInt8)=34):=by decide
   simp only [hw,zQY,zQt,zQz,h1] at h;cases hq:zKk (s.drop q) wrongs 1 with
   |none=>rw [hq] at h;cases h
   |some x=>rw [hq] at h;cases h
  ·cases hw:zh c with
   |false=>rfl
   |true=>rw [hw] at h;simp at h
def sgn:Nat->List Bs
 |0=>[[60,62],[60,61],[62,61],[61],[60],[62]]
 |1=>[[38]]
 |2=>[[43],[45]]
 |3=>[[42],[47]]
 |_=>[]
theorem zIi {s:Bs} {q:Nat} {c d:UInt8}:([c,d]:Bs).isPrefixOf (s.drop q)=true↔s[q]?=some c/\s[q+1]?=some d:=by
 cases hc:s[q]? with
 |none=>rw [zJq hc];simp
 |some c'=>
  rw [zBe hc];cases hd:s[q+1]? with
  |none=>rw [zJq hd];simp [List.isPrefixOf]
  |some d'=>
   rw [zBe hd];simp only [List.isPrefixOf,zSK,zQP,zQv,zQT];exact ⟨fun h=>⟨h.1.symm,h.2.symm⟩,fun h=>⟨h.1.symm,h.2.symm⟩⟩
theorem zFK {s:Bs} {q:Nat} {c:UInt8}:([c]:Bs).isPrefixOf (s.drop q)=true↔s[q]?=some c:=by
 cases hc:s[q]? with
 |none=>rw [zJq hc];simp
 |some c'=>
  rw [zBe hc];simp only [List.isPrefixOf,zSK,zQv,zQT];exact ⟨fun h=>h.symm,fun h=>h.symm⟩
theorem op_two {s:Bs} {q:Nat} {c d:UInt8} (h1:s[q]?=some c) (h2:s[q+1]?=some d) (hcd:(c=60/\d=62)\/(c=60/\d=61)\/(c=62/\d=61)):zH1 s q=some (zCA [c,d],q+2):=by
 have h3:c≠32/\c≠34/\c≠35/\zh c=false/\zCA [c,d]≠0:=by rcases hcd with ⟨rfl,rfl⟩|⟨rfl,rfl⟩|⟨rfl,rfl⟩ <;> decide
 rw [opAt_is h1 h3.1 h3.2.1 h3.2.2.1 h3.2.2.2.1,h2];have e:zLE c (some d)=[c,d]:=zQQ hcd;rw [e,zQN h3.2.2.2.2];rfl
theorem zNl {s:Bs} {q:Nat} {c:UInt8} (h1:s[q]?=some c) (hc:c=60\/c=62\/c=61\/c=38\/c=43\/c=45\/c=42\/c=47) (hn:∀ d,s[q+1]?=some d->¬ ((c=60/\d=62)\/(c=60/\d=61)\/(c=62/\d=61))):zH1 s q=some (zCA [c],q+1):=by
 have h3:c≠32/\c≠34/\c≠35/\zh c=false/\zCA [c]≠0:=by rcases hc with rfl|rfl|rfl|rfl|rfl|rfl|rfl|rfl <;> decide
 rw [opAt_is h1 h3.1 h3.2.1 h3.2.2.1 h3.2.2.2.1];have e:zLE c s[q+1]?=[c]:=by
  unfold zLE;cases hd:s[q+1]? with
  |none=>rfl
  |some d=>simp only;rw [zQN (hn d hd)]
 rw [e,zQN h3.2.2.2.2];rfl
theorem op_match {s:Bs} {q l i:Nat} {t:Bs} (ht:(sgn l)[i]?=some t) (hp:t.isPrefixOf (s.drop q)=true) (hno:∀ j u,j<i->(sgn l)[j]?=some u->u.isPrefixOf (s.drop q)=false) :
  zH1 s q=some (zCA t,q+t.length)/\tight (zCA t)=l+1/\zCA t≠0:=by
 rcases l with _|_|_|_|l
 ·rcases i with _|_|_|_|_|_|i
  ·cases ht;have:=zIi.1 hp;exact ⟨op_two this.1 this.2 (by decide),by decide,by decide⟩
  ·cases ht;have:=zIi.1 hp;exact ⟨op_two this.1 this.2 (by decide),by decide,by decide⟩
  ·cases ht;have:=zIi.1 hp;exact ⟨op_two this.1 this.2 (by decide),by decide,by decide⟩
  ·cases ht;have:=zFK.1 hp;exact ⟨zNl this (by decide) (fun d _=>by rintro (⟨h,_⟩|⟨h,_⟩|⟨h,_⟩) <;> revert h <;> decide),by decide,by decide⟩
  ·cases ht;have h1:=zFK.1 hp;refine ⟨zNl h1 (by decide) (fun d hd=>?_),by decide,by decide⟩;rintro (⟨_,rfl⟩|⟨_,rfl⟩|⟨h,_⟩)
   ·have:=hno 0 _ tO rfl;rw [zIi.2 ⟨h1,hd⟩] at this;cases this
   ·have:=hno 1 _ tO rfl;rw [zIi.2 ⟨h1,hd⟩] at this;cases this
   ·revert h;decide
  ·cases ht;have h1:=zFK.1 hp;refine ⟨zNl h1 (by decide) (fun d hd=>?_),by decide,by decide⟩;rintro (⟨h,_⟩|⟨h,_⟩|⟨_,rfl⟩)
   ·revert h;decide
   ·revert h;decide
   ·have:=hno 2 _ tO rfl;rw [zIi.2 ⟨h1,hd⟩] at this;cases this
  ·simp [sgn] at ht
 ·rcases i with _|i
  ·cases ht;have:=zFK.1 hp;exact ⟨zNl this (by decide) (fun d _=>by rintro (⟨h,_⟩|⟨h,_⟩|⟨h,_⟩) <;> revert h <;> decide),by decide,by decide⟩
  ·simp [sgn] at ht
 ·rcases i with _|_|i
  ·cases ht;have:=zFK.1 hp;exact ⟨zNl this (by decide) (fun d _=>by rintro (⟨h,_⟩|⟨h,_⟩|⟨h,_⟩) <;> revert h <;> decide),by decide,by decide⟩
  ·cases ht;have:=zFK.1 hp;exact ⟨zNl this (by decide) (fun d _=>by rintro (⟨h,_⟩|⟨h,_⟩|⟨h,_⟩) <;> revert h <;> decide),by decide,by decide⟩
  ·simp [sgn] at ht
 ·rcases i with _|_|i
  ·cases ht;have:=zFK.1 hp;exact ⟨zNl this (by decide) (fun d _=>by rintro (⟨h,_⟩|⟨h,_⟩|⟨h,_⟩) <;> revert h <;> decide),by decide,by decide⟩
  ·cases ht;have:=zFK.1 hp;exact ⟨zNl this (by decide) (fun d _=>by rintro (⟨h,_⟩|⟨h,_⟩|⟨h,_⟩) <;> revert h <;> decide),by decide,by decide⟩
  ·simp [sgn] at ht
 ·simp [sgn] at ht
theorem opNo_mem {t:Bs} {l:Nat} (hne:¬ zCA t=0) (ht:tight (zCA t)=l+1):t∈sgn l:=by
 by_cases h0:t=[61]
 ·subst h0;have e:tight (zCA [61])=1:=by decide
  have e2:l=0:=by omega
  subst e2;decide
 by_cases h1:t=[60,62]
 ·subst h1;have e:tight (zCA [60,62])=1:=by decide
  have e2:l=0:=by omega
  subst e2;decide
 by_cases h2:t=[60]
 ·subst h2;have e:tight (zCA [60])=1:=by decide
  have e2:l=0:=by omega
  subst e2;decide
 by_cases h3:t=[60,61]
 ·subst h3;have e:tight (zCA [60,61])=1:=by decide
  have e2:l=0:=by omega
  subst e2;decide
 by_cases h4:t=[62]
 ·subst h4;have e:tight (zCA [62])=1:=by decide
  have e2:l=0:=by omega
  subst e2;decide
 by_cases h5:t=[62,61]
 ·subst h5;have e:tight (zCA [62,61])=1:=by decide
  have e2:l=0:=by omega
  subst e2;decide
 by_cases h6:t=[38]
 ·subst h6;have e:tight (zCA [38])=2:=by decide
  have e2:l=1:=by omega
  subst e2;decide
 by_cases h7:t=[43]
 ·subst h7;have e:tight (zCA [43])=3:=by decide
  have e2:l=2:=by omega
  subst e2;decide
 by_cases h8:t=[45]
 ·subst h8;have e:tight (zCA [45])=3:=by decide
  have e2:l=2:=by omega
  subst e2;decide
 by_cases h9:t=[42]
 ·subst h9;have e:tight (zCA [42])=4:=by decide
  have e2:l=3:=by omega
  subst e2;decide
 by_cases h10:t=[47]
 ·subst h10;have e:tight (zCA [47])=4:=by decide
  have e2:l=3:=by omega
  subst e2;decide
 ·exact absurd (by unfold zCA;simp only [h0,h1,h2,h3,h4,h5,h6,h7,h8,h9,h10,zQt]) hne
theorem op_none {s:Bs} {q l:Nat} (hs:s[q]?≠some 32) (hno:∀ t,t∈sgn l->t.isPrefixOf (s.drop q)=false) {op e:Nat} (h:zH1 s q=some (op,e)):tight op≠l+1:=by
 obtain ⟨c,hc,h34,h35,hw⟩:=opAt_some hs h;rw [opAt_is hc (fun x=>hs (by rw [hc,x])) h34 h35 hw] at h;split at h
 ·cases h
 ·rename_i hne;cases h;intro ht;have hpre:(zLE c s[q+1]?).isPrefixOf (s.drop q)=true:=by
   unfold zLE;cases hd:s[q+1]? with
   |none=>exact zFK.2 hc
   |some d=>
    simp only;split
    ·exact zIi.2 ⟨hc,hd⟩
    ·exact zFK.2 hc
  generalize zLE c s[q+1]?=t at *;have hmem:t∈sgn l:=opNo_mem hne ht;rw [hno t hmem] at hpre;cases hpre
theorem boxAt_skip (s:Bs) (a:Nat):zDu s (skip s a)=zDu s a:=by unfold zDu;rw [zMQ]
theorem args_skip {s:Bs} {a:Nat} (nm:Bs) (ks:List Nd) (d:Nat) (ha:a<=s.length):(P s).args nm ks (skip s a) d=(P s).args nm ks a d:=by
 rw [zNi nm ks d (zCS ha),zNi nm ks d ha];unfold zFp zFa;rw [boxAt_skip,loose_skip 1 d ha]
theorem args_step {s:Bs} {a:Nat} (nm:Bs) (ks:List Nd) (d:Nat) (ha:a<=s.length):(P s).args nm ks a d=(argS s a d).bind fun p=>if s[skip s p.2]?=some 44 then (P s).args nm (ks++[p.1]) (skip s p.2+1) d else if s[skip s p.2]?=some 41 then some (zAv nm (ks++[p.1]),skip s p.2+1) else none:=by
 rw [zNi nm ks d ha];have key:∀ p:Nd×Nat,(match tok s p.2 with
   |.sign e [44]=>(P s).args nm (ks++[p.1]) e d
   |.sign e [41]=>some (zAv nm (ks++[p.1]),e)
   |_=>none)=if s[skip s p.2]?=some 44 then (P s).args nm (ks++[p.1]) (skip s p.2+1) d else if s[skip s p.2]?=some 41 then some (zAv nm (ks++[p.1]),skip s p.2+1) else none:=fun p=>by
  by_cases h44:s[skip s p.2]?=some 44
  ·rw [zH3 h44 (by decide),zQQ h44];rfl
  ·rw [zQN h44];by_cases h41:s[skip s p.2]?=some 41
   ·rw [zH3 h41 (by decide),zQQ h41];rfl
   ·rw [zQN h41];split
    ·rename_i e hk;exact absurd (zIh hk).1 h44
    ·rename_i e hk;exact absurd (zIh hk).1 h41
    ·rfl
 unfold zFp zFa argS;cases zDu s a with
 |some r=>
  simp only;refine zEW rfl fun p _=>?_;exact key p
 |none=>
  simp only;unfold bl;cases (P s).loose 1 a d with
  |none=>rfl
  |some p=>
   simp only [zQg,zRO];rw [zGP];exact key p
theorem argS_ends {s:Bs} {a d:Nat} (ha:a<=s.length) {p:Nd×Nat} (h:argS s a d=some p):a<p.2/\p.2<=s.length:=by
 unfold argS at h;split at h
 ·rename_i r hb;subst h;exact boxAt_ends hb
 ·unfold bl at h;rw [zQX] at h;obtain ⟨q,h1,rfl⟩:=h;have:=(zCv s).loose 1 a d q ha h1;have h2:=zFi s q.2;have h3:=zCS this.2;exact ⟨by simp only;omega,h3⟩
theorem callS_is {s t:Bs} {e d:Nat} (he:e+1<=s.length):zJH s t e d=if s[skip s (e+1)]?=some 41 then some (zAv t [],skip s (e+1)+1) else (P s).args t [] (skip s (e+1)) d:=by
 rw [args_skip t [] d he];unfold zJH;by_cases h41:s[skip s (e+1)]?=some 41
 ·rw [zH3 h41 (by decide),zQQ h41];rfl
 ·rw [zQN h41];split
  ·rename_i e2 hk;exact absurd (zIh hk).1 h41
  ·rfl
end Go.AM
set_option maxRecDepth 20000
namespace Go.AM
def zAe (name:Bs) (v:AV):List AV:=[.int .i64 9,.int .i64 0,.str name,.int .i64 0,.int .i64 0,.bool false,.bool false,.int .i64 0,.int .i64 0,.bool false,.bool false,v]
theorem zMT (name:Bs) (ks:List Nd):ndV (zAv name ks)=.agg (zAe name (lstF 12 (ks.map ndV))):=by
 cases ks with
 |nil=>rfl
 |cons k r=>
  show AV.agg (zAe name (.lst (some false) 12 (kidL (k::r))))=_;rw [zJ6];rfl
theorem zMU {H0 H:Heap} {v:AV} {xs:List AV} {b:Nat} {B:ABlk} (name:Bs) (ho:Owns H0 H v 12 xs) {H1:Heap} (hl:H1.length=H0.length) (hB:OldB H1 b B H):∃ H',zEE H1.length (.agg (zAe name v)) H=some (.agg (zAe name (lstF 12 xs)),H')/\OldB H1 b B H':=by
 rcases ho with ⟨rfl,rfl⟩|⟨nb,rfl,h1,h2,h3⟩
 ·exact ⟨H,rfl,hB⟩
 ·have hn:¬ nb<H1.length:=by omega
  refine ⟨H.set nb (.frz 12 xs), ?_,hB.set tO _⟩;simp only [zAe,zEE,zLP,hn,zQt,h2];cases xs with
  |nil=>exact absurd rfl h3
  |cons x r=>simp [frzQ,lstF]
theorem zH4 {name:Bs} {v:AV} (h:v.one=true):(AV.agg (zAe name v)).cells.all AV.one=true:=by
 simp only [zAe,AV.cells,zR0,List.all_nil,h,zSK];rfl
theorem zJu (n:Nat) (name:Bs) (xs:List AV):(AV.agg (zAe name (lstF 12 xs))).bel n=true:=by cases xs <;> rfl
theorem Owns.setBox {H0 H:Heap} {v:AV} {k c:Nat} {xs cs:List AV} (h:Owns H0 H v k xs) (hc:H[c]?=some (.box cs)) (y:ABlk):Owns H0 (H.set c y) v k xs:=h.set (h.notBox hc) y
theorem zD1 {b k o:Nat} {v:AV} {cs:List AV} (cs':List AV) {H:Heap} {K:AV->Heap->Prop} (h:H[b]?=some (.box cs)) (hv:v.cells=[v]/\v.one=true) (ho:Nat.ble (o+1) cs.length=true) (he:splice cs o [v]=cs')
  (q:K .undef (H.set b (.box cs'))):actP (.store 1) [.ref b k 0 o,v] H K:=
 zL cs' h (by rw [hv.1];rfl) (by rw [hv.1];simp [hv.2]) ho (by rw [hv.1];exact he) q
structure CSt where
 a:Nat
 v:AV
 ks:List Nd
section
variable {C:CSpec} {GT:Nat->Option AV}
theorem call_ev (hB:∀ b s p d H,H[b]?=some (rdB s p d)->p<=s.length->s.length<=200->C zW [pR b] H (.tup []) (H.set b (rdB s (skip s p) d)))
  (hWt:∀ c b s p d H,H[b]?=some (rdB s p d)->p<=s.length->s.length<=200->(s[skip s p]?=some c->C z6 [pR b,byV c] H (.tup []) (H.set b (rdB s (skip s p+1) d)))/\(s[skip s p]?≠some c->C z6 (.pan .undef::[pR b,byV c]) H zHS (H.set b (.box (wkC s)))))
  (t:Bs) (b:Nat) (s:Bs) (p d:Nat) (H:Heap) (hb:H[b]?=some (rdB s p d)) (hp:p<s.length) (hl:s.length<=200)
  (hA:∀ a H',p<a->a<=s.length->H'[b]?=some (rdB s a d)->CR C zBN [pR b] H' b s d (argS s a d)) :
  zCr C GT zB2 [pR b,.str t] H b (wkC s) zHS (mkR s d (zJH s t p d)):=by
 have hbl:b<H.length:=(zg hb).1;have hbk:=fun a H' h1 h2=>hB b s a d H' h1 h2 hl;have hwt:=fun a H' h1 h2=>hWt 41 b s a d H' h1 h2 hl;have hl5:(H++[ABlk.box (ndC zZ)]).length=H.length+1:=by simp
 clear hB hWt;rw [callS_is tO];have hpq:=zFi s (p+1);have hql:=zCS (s:=s) (a:=p+1) tO;have hbk0:=hbk (p+1);generalize skip s (p+1)=q at *;refine zAH ?_;by_cases h41:s[q]?=some 41
 ·have hlt:q<s.length:=(zg h41).1;rw [zQQ h41];have e0:mkR s d (some (zAv t [],q+1))=some (ndV (zAv t []),rdB s (q+1) d):=rfl;rw [e0];clear hA hbk hwt;refine sX ?_;refine sSA (.agg (zN 9 0 t)) ?_;refine sX ?_;refine zS (r:=p+1) rfl tO ?_;refine sS (.int .i64 ↑(p+1)) [AV.str s,.int .i64 ↑(p+1),zK d] ?_;refine sX ?_;refine zS (r:=q+1) rfl tO ?_;refine sS (.int .i64 ↑(q+1)) [AV.str s,.int .i64 ↑(q+1),zK d] ?_;refine sX ?_;refine sSA (.agg (zN 9 0 t)) ?_;exact zAF (o:=0) (.agg (zN 9 0 t)) (by first|rfl|assumption) rfl rfl (zH hP) rfl rfl rfl hO rfl
 rw [zQN h41];obtain ⟨r,hr⟩:∃ r,(P s).args t [] q d=r:=⟨_,rfl⟩;rw [hr];have hloop:∀ HH,OldB H b (rdB s q d) HH->HH[b]?=some (rdB s q d)->HH[H.length]?=some (.box (ndC zZ))->HH[(H++[ABlk.box (ndC zZ)]).length]?=some (.box (zAe t (.lst (some true) 0 []))) ->
   loopP C GT [0,4,5] zEc (zKa 0 [4] (zKW zB2 H b (wkC s) zHS (mkR s d r))) [(0,pR b),(4,pR H.length),(5,pR (H++[ABlk.box (ndC zZ)]).length)] HH:=fun HH g1 g2 g3 g4=>by
  refine zBB (fun x:CSt=>[(0,pR b),(4,pR H.length),(5,pR (H++[ABlk.box (ndC zZ)]).length)])
   (fun x H'=>Owns H H' x.v 12 (x.ks.map ndV)/\OldB H b (rdB s x.a d) H'/\H'[b]?=some (rdB s x.a d)/\H'[H.length]?=some (.box (ndC zZ))/\H'[(H++[ABlk.box (ndC zZ)]).length]?=some (.box (zAe t x.v))/\p<x.a/\x.a<=s.length/\x.ks.length<=x.a/\(P s).args t x.ks x.a d=r)
   (fun x=>s.length-x.a) ⟨q,.lst (some true) 0 [],[]⟩ rfl
   ⟨.inl ⟨rfl,rfl⟩,g1,g2,g3,g4,by simp only;omega,hql,by simp,hr⟩ (fun ⟨a,v,ks⟩ H1 ⟨how,hob,hb1,h4,h5,hpa,hal,hkl,hq⟩=>?_)
  dsimp only at how hob hb1 h4 h5 hpa hal hkl hq ⊢;have hlen1:=hob.old.1;rw [zQZ] at hlen1;have h5l:=(zg h5).1;have har:=hA a H1 hpa hal hb1;rw [args_step t ks d hal] at hq;clear hA hbk0 hr;cases hra:argS s a d with
  |none=>
   rw [hra] at har hq;have hq:none=r:=hq;subst hq;have e0:mkR s d none=none:=rfl;rw [e0];have har:=har.2 rfl;clear hbk hwt;refine zHB ?_ ?_
   ·refine sX ?_;refine zA1 har ?_;exact sP
   ·refine zA1 har ?_;exact sP
  |some x=>
   obtain ⟨n,e⟩:=x;have hee:=argS_ends hal hra;simp only at hee;rw [hra] at har hq;simp only [zRO] at hq;have har:=har.1 n e rfl;have hbk1:=hbk e;have hqe:=zFi s e;have hqle:=zCS hee.2;have hwt1:=hwt (skip s e);rw [zGP] at hwt1;clear hbk hwt;generalize skip s e=q1 at *;have hel:(ndV n).elem 12=true:=rfl;have how2:=how.set (how.notBox hb1) (rdB s e d);have hob2:=hob.setB (rdB s e d);have hlH:(H.set b (rdB s e d)).length=H.length:=zQZ;refine zHB ?_ ?_
   ·refine sX ?_;refine zCT har<|zAW (vs':=[ndV n]) rfl rfl<|zBt (H0:=H.set b (rdB s e d)) ((how2.base hlH).push _) (hob2.old.push _) zAo tO (by simp only [zQW,zQO,zQV];omega) (by simp) fun v' H' ho' hH' hb' hf=>?_
    have hx1:=hf b _ (how2.notBox (zV hb1)) (zF (zV hb1));have hx4:=hf H.length _ (how2.notBox (zC tO h4)) (zF (zC tO h4));have hx5:=hf (H++[ABlk.box (ndC zZ)]).length _ (how2.notBox (zC tO h5)) (zF (zC tO h5));have hlH':=hH'.1;rw [zQZ] at hlH';have hob3:OldB H b (rdB s e d) H':=⟨hbl,hH'⟩;have hx5l:=(zg hx5).1;by_cases h44:s[q1]?=some 44
    ·have hlt:q1<s.length:=(zg h44).1;rw [zQQ h44] at hq;clear hwt1;refine zD1 (zAe t v') hx5 ho'.one rfl rfl<|zCM (hbk1 _ hP tO) (fun h=>by cases h)<|sX ?_;refine zS (r:=q1+1) rfl tO<|sS (.int .i64 ↑(q1+1)) [AV.str s,.int .i64 ↑(q1+1),zK d] ?_;refine zAP (CSt.mk (q1+1) v' (ks++[n])) rfl ⟨?_,(((hob3.set tO _).setB _).setB _),hP,hP,hP,by simp only;omega,by simp only;omega,by simp only [zQR,zQO,zQV];omega,hq⟩ (by simp only;omega)
     rw [zQ5];exact (((ho'.setBox hx5 _).setBox hP _).setBox hP _).base hlH.symm
    rw [zQN h44] at hq;by_cases h41':s[q1]?=some 41
    ·have hlt:q1<s.length:=(zg h41').1;rw [zQQ h41'] at hq;subst hq;have e0:mkR s d (some (zAv t (ks++[n]),q1+1))=some (.agg (zAe t (lstF 12 ((ks++[n]).map ndV))),rdB s (q1+1) d):=by rw [<-zMT];rfl
     rw [e0];refine zD1 (zAe t v') hx5 ho'.one rfl rfl<|zCM (hbk1 _ hP tO) (fun h=>by cases h)<|zA (zK q1) (zV (zC tA hx1)) rfl<|zA (AV.str s) (zV (zC tA hx1)) rfl<|zp tT<|zA (AV.str s) (zV (zC tA hx1)) rfl<|zA (zK q1) (zV (zC tA hx1)) rfl<|zCB rfl h41'<|zD<|zk (tN (by decide))<|zCT ((hwt1 _ hP tO).1 h41')<|sX ?_;refine zL (v:=.agg (zAe t v')) (zAe t v') hP rfl (zH4 ho'.one.2) rfl rfl ?_
     have hown:Owns H (((H'.set (H++[ABlk.box (ndC zZ)]).length (.box (zAe t v'))).set b (rdB s q1 d)).set b (rdB s (q1+1) d) |>.set H.length (.box (zAe t v'))) v' 12 ((ks++[n]).map ndV):=by
      rw [zQ5];exact ((((ho'.setBox hx5 _).setBox hP _).setBox hP _).setBox hP _).base hlH.symm
     obtain ⟨H2,hz,hob4⟩:=zMU t hown rfl ((((hob3.set tO _).setB _).setB _).set (zQU _) _);exact zAF (o:=0) (.agg (zAe t v')) rfl rfl rfl (zH hP) rfl hz (zJu _ _ _) hob4 rfl
    ·rw [zQN h41'] at hq;subst hq;have e0:mkR s d none=none:=rfl;rw [e0];by_cases hlt:q1<s.length
     ·obtain ⟨c,hc⟩:∃ c,s[q1]?=some c:=⟨_,zQS hlt⟩;have hn:c.toNat≠44:=fun x=>h44 (by rw [hc,show c=44 from zQm.1 x]);refine zD1 (zAe t v') hx5 ho'.one rfl rfl<|zCM (hbk1 _ hP tO) (fun h=>by cases h)<|sX ?_;refine zA1 ((hwt1 _ hP tO).2 h41') ?_
      exact sP
     ·refine zD1 (zAe t v') hx5 ho'.one rfl rfl<|zCM (hbk1 _ hP tO) (fun h=>by cases h)<|sX ?_;refine zA1 ((hwt1 _ hP tO).2 h41') ?_
      exact sP
   ·refine zCT har ?_;refine zHB ?_ ?_
    ·refine sX ?_;refine zAW (vs':=[ndV n]) rfl rfl<|zBt (H0:=H.set b (rdB s e d)) ((how2.base hlH).push _) (hob2.old.push _) zAo tO (by simp only [zQW,zQO,zQV];omega) (by simp) fun v' H' ho' hH' hb' hf=>?_
     have hx1:=hf b _ (how2.notBox (zV hb1)) (zF (zV hb1));have hx4:=hf H.length _ (how2.notBox (zC tO h4)) (zF (zC tO h4));have hx5:=hf (H++[ABlk.box (ndC zZ)]).length _ (how2.notBox (zC tO h5)) (zF (zC tO h5));have hlH':=hH'.1;rw [zQZ] at hlH';have hob3:OldB H b (rdB s e d) H':=⟨hbl,hH'⟩;have hx5l:=(zg hx5).1;by_cases h44:s[q1]?=some 44
     ·have hlt:q1<s.length:=(zg h44).1;rw [zQQ h44] at hq;clear hwt1;refine zD1 (zAe t v') hx5 ho'.one rfl rfl<|zCM (hbk1 _ hP tO) (fun h=>by cases h)<|sX ?_;refine zS (r:=q1+1) rfl tO<|sS (.int .i64 ↑(q1+1)) [AV.str s,.int .i64 ↑(q1+1),zK d] ?_;refine zAP (CSt.mk (q1+1) v' (ks++[n])) rfl ⟨?_,(((hob3.set tO _).setB _).setB _),hP,hP,hP,by simp only;omega,by simp only;omega,by simp only [zQR,zQO,zQV];omega,hq⟩ (by simp only;omega)
      rw [zQ5];exact (((ho'.setBox hx5 _).setBox hP _).setBox hP _).base hlH.symm
     rw [zQN h44] at hq;by_cases h41':s[q1]?=some 41
     ·have hlt:q1<s.length:=(zg h41').1;rw [zQQ h41'] at hq;subst hq;have e0:mkR s d (some (zAv t (ks++[n]),q1+1))=some (.agg (zAe t (lstF 12 ((ks++[n]).map ndV))),rdB s (q1+1) d):=by rw [<-zMT];rfl
      rw [e0];refine zD1 (zAe t v') hx5 ho'.one rfl rfl<|zCM (hbk1 _ hP tO) (fun h=>by cases h)<|zA (zK q1) (zV (zC tA hx1)) rfl<|zA (AV.str s) (zV (zC tA hx1)) rfl<|zp tT<|zA (AV.str s) (zV (zC tA hx1)) rfl<|zA (zK q1) (zV (zC tA hx1)) rfl<|zCB rfl h41'<|zD<|zk (tN (by decide))<|zCT ((hwt1 _ hP tO).1 h41')<|sX ?_;refine zL (v:=.agg (zAe t v')) (zAe t v') hP rfl (zH4 ho'.one.2) rfl rfl ?_
      have hown:Owns H (((H'.set (H++[ABlk.box (ndC zZ)]).length (.box (zAe t v'))).set b (rdB s q1 d)).set b (rdB s (q1+1) d) |>.set H.length (.box (zAe t v'))) v' 12 ((ks++[n]).map ndV):=by
       rw [zQ5];exact ((((ho'.setBox hx5 _).setBox hP _).setBox hP _).setBox hP _).base hlH.symm
      obtain ⟨H2,hz,hob4⟩:=zMU t hown rfl ((((hob3.set tO _).setB _).setB _).set (zQU _) _);exact zAF (o:=0) (.agg (zAe t v')) rfl rfl rfl (zH hP) rfl hz (zJu _ _ _) hob4 rfl
     ·rw [zQN h41'] at hq;subst hq;have e0:mkR s d none=none:=rfl;rw [e0];by_cases hlt:q1<s.length
      ·obtain ⟨c,hc⟩:∃ c,s[q1]?=some c:=⟨_,zQS hlt⟩;have hn:c.toNat≠44:=fun x=>h44 (by rw [hc,show c=44 from zQm.1 x]);refine zD1 (zAe t v') hx5 ho'.one rfl rfl<|zCM (hbk1 _ hP tO) (fun h=>by cases h)<|sX ?_;refine zA1 ((hwt1 _ hP tO).2 h41') ?_
       exact sP
      ·refine zD1 (zAe t v') hx5 ho'.one rfl rfl<|zCM (hbk1 _ hP tO) (fun h=>by cases h)<|sX ?_;refine zA1 ((hwt1 _ hP tO).2 h41') ?_
       exact sP
    ·refine zAW (vs':=[ndV n]) rfl rfl<|sX ?_;refine zBt (H0:=H.set b (rdB s e d)) ((how2.base hlH).push _) (hob2.old.push _) zAo tO (by simp only [zQW,zQO,zQV];omega) (by simp) fun v' H' ho' hH' hb' hf=>?_
     have hx1:=hf b _ (how2.notBox (zV hb1)) (zF (zV hb1));have hx4:=hf H.length _ (how2.notBox (zC tO h4)) (zF (zC tO h4));have hx5:=hf (H++[ABlk.box (ndC zZ)]).length _ (how2.notBox (zC tO h5)) (zF (zC tO h5));have hlH':=hH'.1;rw [zQZ] at hlH';have hob3:OldB H b (rdB s e d) H':=⟨hbl,hH'⟩;have hx5l:=(zg hx5).1;by_cases h44:s[q1]?=some 44
     ·have hlt:q1<s.length:=(zg h44).1;rw [zQQ h44] at hq;clear hwt1;refine zD1 (zAe t v') hx5 ho'.one rfl rfl<|zCM (hbk1 _ hP tO) (fun h=>by cases h)<|sX ?_;refine zS (r:=q1+1) rfl tO<|sS (.int .i64 ↑(q1+1)) [AV.str s,.int .i64 ↑(q1+1),zK d] ?_;refine zAP (CSt.mk (q1+1) v' (ks++[n])) rfl ⟨?_,(((hob3.set tO _).setB _).setB _),hP,hP,hP,by simp only;omega,by simp only;omega,by simp only [zQR,zQO,zQV];omega,hq⟩ (by simp only;omega)
      rw [zQ5];exact (((ho'.setBox hx5 _).setBox hP _).setBox hP _).base hlH.symm
     rw [zQN h44] at hq;by_cases h41':s[q1]?=some 41
     ·have hlt:q1<s.length:=(zg h41').1;rw [zQQ h41'] at hq;subst hq;have e0:mkR s d (some (zAv t (ks++[n]),q1+1))=some (.agg (zAe t (lstF 12 ((ks++[n]).map ndV))),rdB s (q1+1) d):=by rw [<-zMT];rfl
      rw [e0];refine zD1 (zAe t v') hx5 ho'.one rfl rfl<|zCM (hbk1 _ hP tO) (fun h=>by cases h)<|zA (zK q1) (zV (zC tA hx1)) rfl<|zA (AV.str s) (zV (zC tA hx1)) rfl<|zp tT<|zA (AV.str s) (zV (zC tA hx1)) rfl<|zA (zK q1) (zV (zC tA hx1)) rfl<|zCB rfl h41'<|zD<|zk (tN (by decide))<|zCT ((hwt1 _ hP tO).1 h41')<|sX ?_;refine zL (v:=.agg (zAe t v')) (zAe t v') hP rfl (zH4 ho'.one.2) rfl rfl ?_
      have hown:Owns H (((H'.set (H++[ABlk.box (ndC zZ)]).length (.box (zAe t v'))).set b (rdB s q1 d)).set b (rdB s (q1+1) d) |>.set H.length (.box (zAe t v'))) v' 12 ((ks++[n]).map ndV):=by
       rw [zQ5];exact ((((ho'.setBox hx5 _).setBox hP _).setBox hP _).setBox hP _).base hlH.symm
      obtain ⟨H2,hz,hob4⟩:=zMU t hown rfl ((((hob3.set tO _).setB _).setB _).set (zQU _) _);exact zAF (o:=0) (.agg (zAe t v')) rfl rfl rfl (zH hP) rfl hz (zJu _ _ _) hob4 rfl
     ·rw [zQN h41'] at hq;subst hq;have e0:mkR s d none=none:=rfl;rw [e0];by_cases hlt:q1<s.length
      ·obtain ⟨c,hc⟩:∃ c,s[q1]?=some c:=⟨_,zQS hlt⟩;have hn:c.toNat≠44:=fun x=>h44 (by rw [hc,show c=44 from zQm.1 x]);refine zD1 (zAe t v') hx5 ho'.one rfl rfl<|zCM (hbk1 _ hP tO) (fun h=>by cases h)<|sX ?_;refine zA1 ((hwt1 _ hP tO).2 h41') ?_
       exact sP
      ·refine zD1 (zAe t v') hx5 ho'.one rfl rfl<|zCM (hbk1 _ hP tO) (fun h=>by cases h)<|sX ?_;refine zA1 ((hwt1 _ hP tO).2 h41') ?_
       exact sP
 clear hA hbk hwt;by_cases hlt:q<s.length
 ·obtain ⟨c,hc⟩:∃ c,s[q]?=some c:=⟨_,zQS hlt⟩;have hn:c.toNat≠41:=fun x=>h41 (by rw [hc,show c=41 from zQm.1 x]);refine sX ?_;refine sSA (.agg (zN 9 0 t)) ?_;refine sX ?_;refine zS (r:=p+1) rfl tO ?_;refine sS (.int .i64 ↑(p+1)) [AV.str s,.int .i64 ↑(p+1),zK d] ?_;refine sX ?_;exact hloop _ ((((((OldB.start hb).push _).push _).set (by simp) _).setB _).setB _) hP hP hP
 ·refine sX ?_;refine sSA (.agg (zN 9 0 t)) ?_;refine sX ?_;refine zS (r:=p+1) rfl tO ?_;refine sS (.int .i64 ↑(p+1)) [AV.str s,.int .i64 ↑(p+1),zK d] ?_;refine sX ?_;exact hloop _ ((((((OldB.start hb).push _).push _).set (by simp) _).setB _).setB _) hP hP hP
end
end Go.AM
