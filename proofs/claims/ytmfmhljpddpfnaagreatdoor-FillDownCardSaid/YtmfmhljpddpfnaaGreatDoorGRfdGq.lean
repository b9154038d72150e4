/- Texts of mine in one. Own work. -/
import Derived.Test.YtmfmhljpddpfnaaGreatDoorGRf6Rfc
import Derived.Test.YtmfmhljpddpfnaaGreatDoorGAm23Am35
import Derived.Test.YtmfmhljpddpfnaaGreatDoorGFr5ToldQ
import Derived.Test.YtmfmhljpddpfnaaGreatDoorGFp0Bg0
import Derived.Test.YtmfmhljpddpfnaaGreatDoorGAm31Rf1
import Derived.Test.YtmfmhljpddpfnaaGreatDoorLdQ3
import Derived.Test.YtmfmhljpddpfnaaGreatDoorGRf5Rf3
set_option maxRecDepth 100000
set_option maxHeartbeats 8000000
namespace Go.AM
theorem Kp.owns {H0 H H':Heap} {b n9:Nat} {v:AV} {xs cs cs9:List AV} (k:Kp H H' b n9) (how:Owns H0 H v 12 xs) (hb:H[b]?=some (.box cs)) (h9:H[n9]?=some (.box cs9)):Owns H0 H' v 12 xs:=by
 rcases how with h|⟨nb,h1,h2,h3,h4⟩
 ·exact .inl h
 ·exact .inr ⟨nb,h1,h2,k.1 nb _ h3 (fun e=>by subst e;rw [hb] at h3;cases h3) (fun e=>by subst e;rw [h9] at h3;cases h3),h4⟩
theorem Kp.old {H0 H H':Heap} {b n9:Nat} {B0 B:ABlk} (k:Kp H H' b n9) (hob:OldB H0 b B0 H) (g9:H0.length<=n9) (hB:H'[b]?=some B):OldB H0 b B H':=by
 have hl:=hob.old.1;rw [zoW] at hl;refine ⟨hob.lt,by rw [zoW];exact zmK hl k.2,fun c hc=>?_⟩;rw [zoW] at hc;by_cases e:b=c
 ·grind
 ·rw [zo7 e];have h1:=hob.old.2 c (by rw [zoW];exact hc);rw [zo7 e] at h1;obtain ⟨x,hx⟩:∃ x,H0[c]?=some x:=⟨_,zoO hc⟩;rw [hx] at h1 ⊢;exact k.1 c x h1 (zmJ e) tO
section
variable {C:CSpec} {GT:zG_}
theorem zXw (hT:∀ s a H,a<=s.length->s.length<=1000->C zm [.str s,zL a] H (tkV s a) H)
  (hR:∀ s H,s.length<=200->C zp [.str s] H (zSx (zE8 s)) H)
  (hF:∀ b s p d a e H,H[b]?=some (pB s p 0 0 d)->C zl [pR b,zK a,zK e] H (.tup []) (H.set b (pB s p a e d)))
  (hC1:∀ b s p d e H,H[b]?=some (rP s p (d+1))->p<=s.length->s.length<=200->d<=1000->tok s p=.sign e [41]->C zY [pR b] H (.tup []) (H.set b (rP s e d)))
  (hC2:∀ b s p d H,H[b]?=some (rP s p (d+1))->p<=s.length->s.length<=200->d<=1000->(¬ ∃ e,tok s p=.sign e [41])->C zY [pR b] H (.tup []) (H.set b (pB s (tkE (skip s p) (tok s p):Nat) (skip s p:Nat) 2 d)))
  (hC3:∀ b s (p:Nat) w e d H,H[b]?=some (pB s p w e d)->e≠0->p<=s.length->s.length<=200->C zY [pR b] H (.tup []) (H.set b (pB s (tkE (skip s p) (tok s p):Nat) w e (IntKind.wrap .i64 (d-1)))))
  (E:AC) (b:Nat) (s t:Bs) (d e0 a0 n4 n5 n6:Nat) (v0:AV) (ks0:List Nd) (H0 H:Heap) (fr:Fr) (hfr:zT fr [6,0,4,5]=[(6,pR n6),(0,pR b),(4,pR n4),(5,pR n5)]) (hl:s.length<=200) (hd:d<=1000)
  (hn4:n4=H0.length) (hn5:n5=H0.length+1) (hn6:n6=H0.length+2) (hob:OldB H0 b (rP s a0 (d+1)) H) (hb:H[b]?=some (rP s a0 (d+1))) (h4:H[n4]?=some (.box (ndC zU))) (h5:H[n5]?=some (.box (zAc t v0))) (h6:∃ c0 c1 c2 c3,H[n6]?=some (.box [c0,c1,c2,c3])) (how:Owns H0 H v0 12 (ks0.map ndV))
  (hea:e0<a0) (hal:a0<=s.length) (hkl:ks0.length<=a0) (hLo:∀ a,e0<a->a<=s.length->CF C zX [pR b,.int .i64 1] b s a (d+1) ((P s).loose 1 a (d+1)))
  (RV:AV) (RB:ABlk) (hRB:∀ k,zHL k RB=true) (hAR:AR C b s d t ks0 a0 RV RB) :
  EW C GT (.seq (.block 0 [4,5] (.loop [6,0,4,5] zB2)) E) (zJ1 zBs H0 b [] .undef (some (RV,RB))) fr H:=by
 have hT:=fun a H h=>hT s a H h tO;refine zAr (fun x:CaS=>[(6,pR n6),(0,pR b),(4,pR n4),(5,pR n5)])
  (fun x H'=>OldB H0 b (rP s x.a (d+1)) H'/\H'[b]?=some (rP s x.a (d+1))/\H'[n4]?=some (.box (ndC zU))/\H'[n5]?=some (.box (zAc t x.v))/\(∃ c0 c1 c2 c3,H'[n6]?=some (.box [c0,c1,c2,c3]))/\Owns H0 H' x.v 12 (x.ks.map ndV)/\e0<x.a/\x.a<=s.length/\x.ks.length<=x.a/\AR C b s d t x.ks x.a RV RB)
  (fun x=>s.length-x.a) ⟨a0,v0,ks0⟩ hfr ⟨hob,hb,h4,h5,h6,how,hea,hal,hkl,hAR⟩ (fun ⟨a,v,ks⟩ H1 ⟨hob,hb,h4,h5,⟨c0,c1,c2,c3,h6⟩,how,hea,hal,hkl,hAR⟩=>?_)
 dsimp only at hob hb h4 h5 h6 how hea hal hkl hAR ⊢;have hbl:=hob.lt;have hl4:=(zl_ h4);have hl5:=(zl_ h5);have hl6:=(zl_ h6);refine zhj (.block 1 [6,0,4,5] caI) _ b n4 n5 n6 s a (d+1) H1 hb (fun fr1 hfr1=>?_)
 suffices key:∀ K:Post,(∀ (m:Nd) (fr':Fr) (H':Heap) (v':AV),RV=ndV (zAw t (ks++[m]))->zMk fr' 4=pR n4->H'[n4]?=some (.box (zAc t v'))->Owns H0 H' v' 12 ((ks++[m]).map ndV)->OldB H0 b RB H'->K .ret fr' H') ->
   (∀ (m:Nd) (e3:Nat) (fr':Fr) (H':Heap) (v':AV),zT fr' [6,0,4,5]=[(6,pR n6),(0,pR b),(4,pR n4),(5,pR n5)]->H'[b]?=some (rP s e3 (d+1))->H'[n5]?=some (.box (zAc t v'))->H'[n4]?=some (.box (ndC zU))->(∃ c0 c1 c2 c3,H'[n6]?=some (.box [c0,c1,c2,c3]))->Owns H0 H' v' 12 ((ks++[m]).map ndV)->OldB H0 b (rP s e3 (d+1)) H'->a<e3->e3<=s.length->AR C b s d t (ks++[m]) e3 RV RB->K (.exit 1) fr' H') ->
   EW C GT caI K [(6,pR n6),(0,pR b),(4,pR n4),(5,pR n5)] H1 by
  have hgo:=fun K x y=>zOn (fr2:=[(6,pR n6),(0,pR b),(4,pR n4),(5,pR n5)]) hfr1 (key K x y);refine hgo _ (fun m fr' H' v' hv g1 g2 g3 g4=>?_) (fun m e3 fr' H' v' g1 g2 g3 g4 g5 g6 g7 g8 g9 g10=>?_)
  ·obtain ⟨H2',hz,hob2⟩:=zLk t g3 rfl g4;exact zAC (o:=0) (.agg (zAc t v')) (by rw [hv,zLj]) rfl rfl (by rw [g1];exact zJ g2) rfl hz (zJQ _ _ _) hob2 (hRB _)
  ·exact zAJ (CaS.mk e3 v' (ks++[m])) (by show zT (zT fr' [6,0,4,5]) [6,0,4,5]=_;rw [g1];rfl) ⟨g7,g2,g4,g3,g5,g6,by simp only;omega,g9,by simp only [zoP,zoN,zoT];omega,g10⟩ (by simp only;omega)
 intro K hret hcont;clear hfr1 fr1;have htk:=fun H=>hT a H hal;rw [zGv] at htk;have htl:=zUf hal hl;have hel:=zKO hal;have p1:∀ (rv:List AV) (ok:Bool),(∃ r0 r1 r2 r3,rv=[r0,r1,r2,r3])->(AV.agg rv).cells.all AV.one=true->(∀ H,C zp [.str (tkT (tok s a))] H (.tup [.agg rv,.bool ok]) H) ->
   (∀ fr' H' n7 n9,zT fr' [6,0,4,5,9,7,8]=[(6,pR n6),(0,pR b),(4,pR n4),(5,pR n5),(9,pR n9),(7,pR n7),(8,.bool ok)]->n7=H1.length->n9=H1.length+1->H'[n7]?=some (.box rv)->H'[n9]?=some (.box (ndC zU))->H'[n6]?=some (.box [zL (tkK (tok s a)),zL (skip s a),zL (tkE (skip s a) (tok s a)),.str (tkT (tok s a))])->H'[b]?=some (rP s a (d+1))->H'[n4]?=some (.box (ndC zU))->H'[n5]?=some (.box (zAc t v))->Owns H0 H' v 12 (ks.map ndV)->OldB H0 b (rP s a (d+1)) H' ->
    EW C GT (.seq caA caT) K fr' H')->EW C GT caI K [(6,pR n6),(0,pR b),(4,pR n4),(5,pR n5)] H1:=by
  intro rv ok ⟨r0,r1,r2,r3,hrv⟩ hro hr h;refine zhf (.seq caA caT) _ b n4 n5 n6 s a (d+1) _ _ _ _ rv ok H1 [c0,c1,c2,c3] rfl c0 c1 c2 c3 rfl hb h6 tO htk hr r0 r1 r2 r3 hrv hro (fun fr' H' n7 n9 g1 g2 g3 g4=>?_);subst g2 g3 g4;have ho1:=(((how.setBox h6 (.box [zL (tkK (tok s a)),zL (skip s a),zL (tkE (skip s a) (tok s a)),.str (tkT (tok s a))])).push (ABlk.box zP)).setBox (c:=H1.length) (cs:=zP) (by have:=zB (H:=H1.set n6 (.box [zL (tkK (tok s a)),zL (skip s a),zL (tkE (skip s a) (tok s a)),.str (tkT (tok s a))])) (x:=ABlk.box zP);rw [zoW] at this;exact this) (.box rv)).push (ABlk.box (ndC zU));have hO1:=(((hob.set (c:=n6) tO (.box [zL (tkK (tok s a)),zL (skip s a),zL (tkE (skip s a) (tok s a)),.str (tkT (tok s a))])).push [ABlk.box zP]).set (c:=H1.length) tO (.box rv)).push [ABlk.box (ndC zU)];exact h fr' _ _ _ g1 rfl rfl hP (by have:=zB (H:=((H1.set n6 (.box [zL (tkK (tok s a)),zL (skip s a),zL (tkE (skip s a) (tok s a)),.str (tkT (tok s a))]))++[ABlk.box zP]).set H1.length (.box rv)) (x:=ABlk.box (ndC zU));rw [show (((H1.set n6 (.box [zL (tkK (tok s a)),zL (skip s a),zL (tkE (skip s a) (tok s a)),.str (tkT (tok s a))]))++[ABlk.box zP]).set H1.length (.box rv)).length=H1.length+1 from by simp] at this;exact this) hP hP hP hP ho1 hO1
 have fin:∀ (m:Nd) (e2:Nat) (fr2:Fr) (H' H2:Heap) (n9:Nat),a<e2->e2<=s.length->AN C b s d t (ks++[m]) e2 RV RB->zT fr2 [6,0,4,5,9]=[(6,pR n6),(0,pR b),(4,pR n4),(5,pR n5),(9,pR n9)]->H0.length<=n9->n4≠n9->n5≠n9->n6≠n9->H'[n9]?=some (.box (ndC zU))->H'[n6]?=some (.box [zL (tkK (tok s a)),zL (skip s a),zL (tkE (skip s a) (tok s a)),.str (tkT (tok s a))])->H'[b]?=some (rP s a (d+1))->H'[n4]?=some (.box (ndC zU))->H'[n5]?=some (.box (zAc t v))->Owns H0 H' v 12 (ks.map ndV)->OldB H0 b (rP s a (d+1)) H' ->
   H2[b]?=some (rP s e2 (d+1))->H2[n9]?=some (.box (ndC m))->Kp H' H2 b n9->EW C GT caT K fr2 H2:=by
  intro m e2 fr2 H' H2 n9 ha2 he2 hAN g1 g9 d49 d59 d69 k9 k6 kb k4 k5 ko kO f1 f2 kp;have htk2:=fun H=>hT e2 H he2;rw [zGv] at htk2;have hend:=zB7 s e2;rcases hAN with ⟨e3,hk,hA⟩|⟨e3,hk,hv,hB⟩|⟨n44,n41,hv,hB⟩
  ·rw [hk] at htk2 hend;have hend:e2<e3/\e3<=s.length:=hend;exact zXv K b n4 n5 n6 n9 s (d+1) t m ks v _ H0 H2 fr2 g1 (kp.old kO g9 f1) (kp.owns ko kb k9) tO (kp.1 _ _ k4 tO d49) (kp.1 _ _ k5 tO d59) _ _ _ _ (kp.1 _ _ k6 tO d69) f2 tO tO tO g9 tO tO tO e2 _ _ e3 _ htk2 rfl rfl rfl f1
    (fun fr' H' v' g1 g2 g3 g4 g5 g6 g7=>hcont m e3 fr' H' v' g1 g2 g3 g4 g5 g6 g7 tO hend.2 hA)
  ·rw [hk] at htk2;have hc:=fun H h=>hC1 b s e2 d e3 H h he2 hl hd hk;rw [<-hB] at hc;exact zVv K b n4 n5 n6 n9 s (d+1) t m ks v _ H0 H2 fr2 g1 (kp.old kO g9 f1) (kp.owns ko kb k9) tO (kp.1 _ _ k4 tO d49) (kp.1 _ _ k5 tO d59) _ _ _ _ (kp.1 _ _ k6 tO d69) f2 tO tO tO g9 tO tO tO e2 _ _ e3 _ htk2 rfl (fun h=>by cases h) rfl f1 RB hc
    (fun fr' H' v' g1 g2 g3 g4=>hret m fr' H' v' hv g1 g2 g3 g4)
  ·have hc:=fun H h=>hC2 b s e2 d H h he2 hl hd n41;rw [<-hB] at hc;by_cases h4:tkK (tok s e2)=4
   ·have h44:tkT (tok s e2)≠[44]:=fun x=>by
     cases hk:tok s e2 <;> rw [hk] at h4 x <;> simp only [tkK,tkT] at h4 x
     all_goals first|omega|(subst x;exact n44 ⟨_,hk⟩)
    exact zVv K b n4 n5 n6 n9 s (d+1) t m ks v _ H0 H2 fr2 g1 (kp.old kO g9 f1) (kp.owns ko kb k9) tO (kp.1 _ _ k4 tO d49) (kp.1 _ _ k5 tO d59) _ _ _ _ (kp.1 _ _ k6 tO d69) f2 tO tO tO g9 tO tO tO e2 _ _ _ _ htk2 h4 h44 rfl f1 RB hc
     (fun fr' H' v' g1 g2 g3 g4=>hret m fr' H' v' hv g1 g2 g3 g4)
   ·exact zeT K b n4 n5 n6 n9 s (d+1) t m ks v _ H0 H2 fr2 g1 (kp.old kO g9 f1) (kp.owns ko kb k9) tO (kp.1 _ _ k4 tO d49) (kp.1 _ _ k5 tO d59) _ _ _ _ (kp.1 _ _ k6 tO d69) f2 tO tO tO g9 tO tO tO e2 _ _ _ _ htk2 h4 rfl f1 RB hc
     (fun fr' H' v' g1 g2 g3 g4=>hret m fr' H' v' hv g1 g2 g3 g4)
 have fbad:∀ (m:Nd) (a2:Nat) (w ee dd:Int) (fr2:Fr) (H' H2:Heap) (n9:Nat),ee≠0->a2<=s.length->RV=ndV (zAw t (ks++[m]))->RB=clB s a2 w ee dd->zT fr2 [6,0,4,5,9]=[(6,pR n6),(0,pR b),(4,pR n4),(5,pR n5),(9,pR n9)]->H0.length<=n9->n4≠n9->n5≠n9->n6≠n9->H'[n9]?=some (.box (ndC zU))->H'[n6]?=some (.box [zL (tkK (tok s a)),zL (skip s a),zL (tkE (skip s a) (tok s a)),.str (tkT (tok s a))])->H'[b]?=some (rP s a (d+1))->H'[n4]?=some (.box (ndC zU))->H'[n5]?=some (.box (zAc t v))->Owns H0 H' v 12 (ks.map ndV)->OldB H0 b (rP s a (d+1)) H' ->
   H2[b]?=some (pB s a2 w ee dd)->H2[n9]?=some (.box (ndC m))->Kp H' H2 b n9->EW C GT caT K fr2 H2:=by
  intro m a2 w ee dd fr2 H' H2 n9 hee he2 hv hB g1 g9 d49 d59 d69 k9 k6 kb k4 k5 ko kO f1 f2 kp;have htk2:=fun H=>hT a2 H he2;rw [zGv] at htk2;have hc:=fun H h=>hC3 b s a2 w ee dd H h hee he2 hl;have hB':pB s (tkE (skip s a2) (tok s a2):Nat) w ee (IntKind.wrap .i64 (dd-1))=RB:=hB.symm;rw [hB'] at hc;exact zas K b n4 n5 n6 n9 s (d+1) t m ks v _ H0 H2 fr2 g1 (kp.old kO g9 f1) (kp.owns ko kb k9) tO (kp.1 _ _ k4 tO d49) (kp.1 _ _ k5 tO d59) _ _ _ _ (kp.1 _ _ k6 tO d69) f2 tO tO tO g9 tO tO tO a2 _ _ _ _ htk2 w ee dd hee rfl f1 RB hc
   (fun fr' H' v' g1 g2 g3 g4=>hret m fr' H' v' hv g1 g2 g3 g4)
 have hD30:(d+1:Nat)=d+1:=rfl;have hRr:=fun H=>hR (tkT (tok s a)) H htl;have lo:zDw s a=none->(∀ (fr':Fr) (H':Heap) (n9:Nat) (m:Nd) (B:ABlk),(∀ H,H[b]?=some (rP s a (d+1))->C zX [pR b,.int .i64 1] H (ndV m) (H.set b B))->(∀ fr2 H2,zT fr2 [6,0,4,5,9]=[(6,pR n6),(0,pR b),(4,pR n4),(5,pR n5),(9,pR n9)]->H2[b]?=some B->H2[n9]?=some (.box (ndC m))->Kp H' H2 b n9->EW C GT caT K fr2 H2)->True)->True:=fun _ _=>trivial;have outs:zDw s a=none->∃ (m:Nd) (B:ABlk),(∀ H,H[b]?=some (rP s a (d+1))->C zX [pR b,.int .i64 1] H (ndV m) (H.set b B)) /\
   (∀ (fr2:Fr) (H' H2:Heap) (n9:Nat),zT fr2 [6,0,4,5,9]=[(6,pR n6),(0,pR b),(4,pR n4),(5,pR n5),(9,pR n9)]->H0.length<=n9->n4≠n9->n5≠n9->n6≠n9->H'[n9]?=some (.box (ndC zU))->H'[n6]?=some (.box [zL (tkK (tok s a)),zL (skip s a),zL (tkE (skip s a) (tok s a)),.str (tkT (tok s a))])->H'[b]?=some (rP s a (d+1))->H'[n4]?=some (.box (ndC zU))->H'[n5]?=some (.box (zAc t v))->Owns H0 H' v 12 (ks.map ndV)->OldB H0 b (rP s a (d+1)) H' ->
    H2[b]?=some B->H2[n9]?=some (.box (ndC m))->Kp H' H2 b n9->EW C GT caT K fr2 H2):=by
  intro hbn;cases hlr:(P s).loose 1 a (d+1) with
  |some x=>
   obtain ⟨m,e2⟩:=x;have hx:=(zCr s).loose 1 a (d+1) _ hal hlr;simp only at hx;have hps:zFX s (P s) a (d+1)=some (m,e2):=by unfold zFX;rw [hbn];exact hlr
   exact ⟨m,rP s e2 (d+1),(hLo a hea hal).1 m e2 hlr,fun fr2 H' H2 n9=>fin m e2 fr2 H' H2 n9 hx.1 hx.2 (hAR.ok hal hps)⟩
  |none=>
   obtain ⟨nw,W,hW,hlo,hv,hB⟩:=hAR.lw hal hbn hlr;exact ⟨nw,W.blk s,hlo,fun fr2 H' H2 n9=>fbad nw W.a W.w W.e W.d fr2 H' H2 n9 hW.1 hW.2 hv hB⟩
 clear lo;by_cases hbx:∃ e1 w1 r1,tok s a=.word e1 w1/\zE8 w1=some r1/\s[e1]?=some 58
 ·obtain ⟨e1,w1,r1,ht,hr1,h58⟩:=hbx;have he1:=(zl_ h58);have hbi:=zkI ht hr1 h58;have hal2:e1+1<=s.length:=by omega
  have htk2:=fun H=>hT (e1+1) H hal2;rw [zGv] at htk2;have hel2:=zKO hal2;have hends:=zB7 s (e1+1);have hend1:=zB7 s a;rw [ht] at hend1;have hend1:a<e1/\e1<=s.length:=hend1;have hRr2:=fun H=>hR (tkT (tok s (e1+1))) H (zUf hal2 hl);have hsk2:=zFg s (e1+1);have hem:e1<tkE (skip s (e1+1)) (tok s (e1+1)):=by
   cases hk:tok s (e1+1) <;> rw [hk] at hends <;> simp only [tkE,Tok.endsBy] at hends ⊢ <;> omega
  have hff:=fun H (h:H[b]?=some (rP s a (d+1)))=>hF b s a (d+1:Nat) (e1+1:Nat) 2 H h;rw [ht] at hRr;have hRr:∀ H,C zp [.str w1] H (zSx (zE8 w1)) H:=hRr;rw [hr1] at hRr;refine p1 [zK r1.col,zK r1.row,.bool r1.fc,.bool r1.fr] true ⟨_,_,_,_,rfl⟩ rfl (fun H=>by rw [ht];exact hRr H) (fun fr' H' n7 n9 g1 g2 g3 k7 k9 k6 kb k4 k5 ko kO=>?_);have k6':H'[n6]?=some (.box [zL 1,zL (skip s a),zL e1,.str w1]):=by rw [k6,ht];rfl
  have q9:H0.length<=n9:=by omega
  by_cases hq:skip s (e1+1)=e1+1
  ·by_cases hk1:tkK (tok s (e1+1))=1
   ·cases hx2:zE8 (tkT (tok s (e1+1))) with
    |some r2=>
     rw [hx2] at hRr2;have hps:zFX s (P s) a (d+1)=some (zAy r1 r2,tkE (skip s (e1+1)) (tok s (e1+1))):=by unfold zFX;rw [hbi,zoQ ⟨hq,hk1⟩,hx2];rfl
     have hAN:=hAR.ok hal hps;exact zeP caT K b n4 n5 n6 n7 n9 true s a (d+1) 1 _ e1 w1 H' fr' g1 kb k6' k9 tO tO tO hend1.2 hl r1 r2 k7 tO tO _ _ _ _ htk2 hRr2 hq hk1 rfl rfl h58 _ rfl _ rfl
      (fun fr2 H2 z1 z2 z3 z4=>fin _ _ fr2 H' H2 n9 tO hel2 hAN z1 q9 tO tO tO k9 k6 kb k4 k5 ko kO z2 z3 z4)
    |none=>
     rw [hx2] at hRr2;have hbn:zDw s a=some none:=by rw [hbi,zoQ ⟨hq,hk1⟩,hx2];rfl
     obtain ⟨hv,hB⟩:=hAR.bx hal hbn ht hr1;rw [hx2] at hv;exact zeS caT K b n4 n5 n6 n7 n9 true s a (d+1) 1 _ e1 w1 H' fr' g1 kb k6' k9 tO tO tO hend1.2 hl r1 noRef k7 tO tO _ _ _ _ htk2 hRr2 hq hk1 hff rfl rfl h58 _ rfl _ rfl
      (fun fr2 H2 z1 z2 z3 z4=>fbad _ _ _ 2 _ fr2 H' H2 n9 zD_ hel2 hv hB z1 q9 tO tO tO k9 k6 kb k4 k5 ko kO z2 z3 z4)
   ·have hbn:zDw s a=some none:=by rw [hbi,zWl (fun x=>hk1 x.2)]
    obtain ⟨hv,hB⟩:=hAR.bx hal hbn ht hr1;have hrr:∀ H,C zp [.str (tkT (tok s (e1+1)))] H (.tup [.agg [zK ((zE8 (tkT (tok s (e1+1)))).getD noRef).col,zK ((zE8 (tkT (tok s (e1+1)))).getD noRef).row,.bool ((zE8 (tkT (tok s (e1+1)))).getD noRef).fc,.bool ((zE8 (tkT (tok s (e1+1)))).getD noRef).fr],.bool (zE8 (tkT (tok s (e1+1)))).isSome]) H:=fun H=>by
     have:=hRr2 H;cases hx2:zE8 (tkT (tok s (e1+1))) with
     |some r2=>rw [hx2] at this;exact this
     |none=>rw [hx2] at this;exact this
    exact zeR caT K b n4 n5 n6 n7 n9 true s a (d+1) 1 _ e1 w1 H' fr' g1 kb k6' k9 tO tO tO hend1.2 hl r1 _ k7 tO tO _ _ _ _ htk2 _ hrr hq hk1 hff rfl rfl h58 _ rfl _ rfl
     (fun fr2 H2 z1 z2 z3 z4=>fbad _ _ _ 2 _ fr2 H' H2 n9 zD_ hel2 hv hB z1 q9 tO tO tO k9 k6 kb k4 k5 ko kO z2 z3 z4)
  ·have hbn:zDw s a=some none:=by rw [hbi,zWl (fun x=>hq x.1)]
   obtain ⟨hv,hB⟩:=hAR.bx hal hbn ht hr1;have hrr:∀ H,C zp [.str (tkT (tok s (e1+1)))] H (.tup [.agg [zK ((zE8 (tkT (tok s (e1+1)))).getD noRef).col,zK ((zE8 (tkT (tok s (e1+1)))).getD noRef).row,.bool ((zE8 (tkT (tok s (e1+1)))).getD noRef).fc,.bool ((zE8 (tkT (tok s (e1+1)))).getD noRef).fr],.bool (zE8 (tkT (tok s (e1+1)))).isSome]) H:=fun H=>by
    have:=hRr2 H;cases hx2:zE8 (tkT (tok s (e1+1))) with
    |some r2=>rw [hx2] at this;exact this
    |none=>rw [hx2] at this;exact this
   exact zeQ caT K b n4 n5 n6 n7 n9 true s a (d+1) 1 _ e1 w1 H' fr' g1 kb k6' k9 tO tO tO hend1.2 hl r1 _ k7 tO tO _ _ _ _ htk2 _ hrr hq hff rfl rfl h58 _ rfl _ rfl
    (fun fr2 H2 z1 z2 z3 z4=>fbad _ _ _ 2 _ fr2 H' H2 n9 zD_ hel2 hv hB z1 q9 tO tO tO k9 k6 kb k4 k5 ko kO z2 z3 z4)
 ·obtain ⟨m,B,hlo,hfin⟩:=outs (zUg hbx);cases hx:zE8 (tkT (tok s a)) with
  |none=>
   rw [hx] at hRr;refine p1 zP false ⟨_,_,_,_,rfl⟩ rfl hRr (fun fr' H' n7 n9 g1 g2 g3 k7 k9 k6 kb k4 k5 ko kO=>?_);have q9:H0.length<=n9:=by omega
   by_cases hk1:tkK (tok s a)=1
   ·exact zhg caT K b n4 n5 n6 n7 n9 false s a (d+1) _ _ _ _ H' fr' g1 kb k6 k9 tO tO tO hel hl m B hlo hk1 rfl
     (fun fr2 H2 z1 z2 z3 z4=>hfin fr2 H' H2 n9 z1 q9 tO tO tO k9 k6 kb k4 k5 ko kO z2 z3 z4)
   ·exact zar caT K b n4 n5 n6 n7 n9 false s a (d+1) _ _ _ _ H' fr' g1 kb k6 k9 tO tO tO hel hl m B hlo hk1
     (fun fr2 H2 z1 z2 z3 z4=>hfin fr2 H' H2 n9 z1 q9 tO tO tO k9 k6 kb k4 k5 ko kO z2 z3 z4)
  |some r1=>
   rw [hx] at hRr;refine p1 [zK r1.col,zK r1.row,.bool r1.fc,.bool r1.fr] true ⟨_,_,_,_,rfl⟩ rfl hRr (fun fr' H' n7 n9 g1 g2 g3 k7 k9 k6 kb k4 k5 ko kO=>?_);have q9:H0.length<=n9:=by omega
   by_cases hk1:tkK (tok s a)=1
   ·by_cases hle:s.length<=tkE (skip s a) (tok s a)
    ·exact zhh caT K b n4 n5 n6 n7 n9 true s a (d+1) _ _ _ _ H' fr' g1 kb k6 k9 tO tO tO hel hl m B hlo hk1 rfl hle
      (fun fr2 H2 z1 z2 z3 z4=>hfin fr2 H' H2 n9 z1 q9 tO tO tO k9 k6 kb k4 k5 ko kO z2 z3 z4)
    ·obtain ⟨c,hc⟩:∃ c,s[tkE (skip s a) (tok s a)]?=some c:=⟨_,zoO tO⟩;have hc58:c.toNat≠58:=fun h=>by
      have h58:c=58:=zoi.1 h;subst h58;cases hk:tok s a <;> rw [hk] at hk1 hc hx <;> simp only [tkK,tkE,tkT] at hk1 hc hx
      all_goals first|omega|exact hbx ⟨_,_,_,hk,hx,hc⟩
     exact zhi caT K b n4 n5 n6 n7 n9 true s a (d+1) _ _ _ _ H' fr' g1 kb k6 k9 tO tO tO hel hl m B hlo hk1 rfl c hc hc58
      (fun fr2 H2 z1 z2 z3 z4=>hfin fr2 H' H2 n9 z1 q9 tO tO tO k9 k6 kb k4 k5 ko kO z2 z3 z4)
   ·exact zar caT K b n4 n5 n6 n7 n9 true s a (d+1) _ _ _ _ H' fr' g1 kb k6 k9 tO tO tO hel hl m B hlo hk1
     (fun fr2 H2 z1 z2 z3 z4=>hfin fr2 H' H2 n9 z1 q9 tO tO tO k9 k6 kb k4 k5 ko kO z2 z3 z4)
end
theorem AF'.shape {C:CSpec} {b:Nat} {s:Bs} {d:Nat} {ks:List Nd} {a:Nat} {L:List Nd} {RB:ABlk} (h:AF' C b s d ks a L RB):a<=s.length->∃ (a':Nat) (w e d':Int),e≠0/\a'<=s.length/\RB=pB s a' w e d':=by
 induction h with
 |box ks a e1 w1 r1 ht hr h58 hn=>
  intro ha;have h1:=zl_ h58;exact ⟨_,_,2,_,by decide,zKO (zKO tO),rfl⟩
 |lo ks a nw W hn hl hW h=>intro ha;exact ⟨_,_,_,_,hW.1,zKO hW.2,rfl⟩
 |close ks a m e2 h h44 h41=>
  intro ha;have hx:=zHm (zCr s) a (d+1) _ ha h;exact ⟨_,_,2,_,by decide,zKO hx.2,rfl⟩
 |later ks a m e2 e3 L RB h h44 k ih=>
  intro ha;have ht:=zB7 s e2;rw [h44] at ht;simp only [Tok.endsBy] at ht;exact ih tO
section
variable {C:CSpec} {GT:zG_}
theorem zeU (hT:∀ s a H,a<=s.length->s.length<=1000->C zm [.str s,zL a] H (tkV s a) H)
  (hR:∀ s H,s.length<=200->C zp [.str s] H (zSx (zE8 s)) H)
  (hF:∀ b s p d a e H,H[b]?=some (pB s p 0 0 d)->C zl [pR b,zK a,zK e] H (.tup []) (H.set b (pB s p a e d)))
  (hC1:∀ b s p d e H,H[b]?=some (rP s p (d+1))->p<=s.length->s.length<=200->d<=1000->tok s p=.sign e [41]->C zY [pR b] H (.tup []) (H.set b (rP s e d)))
  (hC2:∀ b s p d H,H[b]?=some (rP s p (d+1))->p<=s.length->s.length<=200->d<=1000->(¬ ∃ e,tok s p=.sign e [41])->C zY [pR b] H (.tup []) (H.set b (pB s (tkE (skip s p) (tok s p):Nat) (skip s p:Nat) 2 d)))
  (hC3:∀ b s (p:Nat) w e d H,H[b]?=some (pB s p w e d)->e≠0->p<=s.length->s.length<=200->C zY [pR b] H (.tup []) (H.set b (pB s (tkE (skip s p) (tok s p):Nat) w e (IntKind.wrap .i64 (d-1)))))
  (b:Nat) (s t:Bs) (e d:Nat) (h40:s[e]?=some 40) (hl:s.length<=200) (hd:d<=1000)
  (hLo:∀ a,e<a->a<=s.length->CF C zX [pR b,.int .i64 1] b s a (d+1) ((P s).loose 1 a (d+1))) :
  (∀ n e2,zIm s t e (d+1)=some (n,e2)->∀ H,H[b]?=some (rP s e (d+1))->zCk C GT zBs [pR b,.str t] H b [] .undef (some (ndV n,rP s e2 d))) /\
  (zIm s t e (d+1)=none->∃ (n:Nd) (a:Nat) (w e' d':Int),e'≠0/\a<=s.length/\∀ H,H[b]?=some (rP s e (d+1))->zCk C GT zBs [pR b,.str t] H b [] .undef (some (ndV n,pB s a w e' d'))):=by
 have he:=zl_ h40;have htk:=fun H=>hT s (e+1) H tO tO;have main:(¬ ∃ e2,tok s (e+1)=.sign e2 [41])->∀ (RV:AV) (RB:ABlk),(∀ k,zHL k RB=true)->AR C b s d t [] (e+1) RV RB->∀ H,H[b]?=some (rP s e (d+1))->zCk C GT zBs [pR b,.str t] H b [] .undef (some (RV,RB)):=by
  intro hno RV RB hRB hAR H hb;have htk:=htk;rw [zGv] at htk;refine zAH ?_;refine zau caE _ b s t e (d+1) _ _ _ _ H hb tO (by exact_mod_cast htk) (fun fr' H' n4 n5 n6 e4 e5 e6 hfr hob hb1 h4 h5 h6=>?_);refine zhk (.seq (.block 0 [4,5] (.loop [6,0,4,5] zB2)) caE.rest.rest) _ b n4 n5 n6 _ _ _ _ H' fr' hfr h6 (fun hx=>?_) (fun fr2 hfr2=>?_)
  ·cases hk:tok s (e+1) <;> rw [hk] at hx <;> simp only [tkK,tkT] at hx
   all_goals first|omega|(obtain ⟨_,rfl⟩:=hx;exact hno ⟨_,hk⟩)
  ·exact zXw hT hR hF hC1 hC2 hC3 _ b s t d e (e+1) n4 n5 n6 _ [] H H' fr2 hfr2 hl hd e4 e5 e6 hob hb1 h4 h5 ⟨_,_,_,_,h6⟩ (.inl ⟨rfl,rfl⟩) tO tO zS_ hLo RV RB hRB hAR
 by_cases h41:∃ e2,tok s (e+1)=.sign e2 [41]
 ·obtain ⟨e2,h41⟩:=h41;have hcs:zIm s t e (d+1)=some (zAw t [],e2):=by unfold zIm;simp only [h41]
  rw [hcs];refine ⟨fun n e3 h H hb=>?_,fun h=>by cases h⟩;cases h;have htk:=htk;rw [zGv,h41] at htk;refine zAH ?_;refine zau caE _ b s t e (d+1) _ _ _ _ H hb tO (by exact_mod_cast htk) (fun fr' H' n4 n5 n6 e4 e5 e6 hfr hob hb1 h4 h5 h6=>?_);refine zhl caE.rest _ b n4 n5 n6 _ _ _ t _ (rP s (e+1) (d+1)) (rP s e2 d) H H' fr' hfr h6 rfl rfl hob hb1 h4 h5 tO tO tO (fun H h=>hC1 b s (e+1) d e2 H h tO hl hd h41) (fun fr2 H2 g1 g2 g3=>?_);obtain ⟨H2',hz,hob2⟩:=zLk (H0:=H) (xs:=[]) t (.inl ⟨rfl,rfl⟩) rfl g3;exact zAC (o:=0) (.agg (zAc t (.lst (some true) 0 []))) rfl rfl rfl (by rw [g1];exact zJ g2) rfl hz (zJQ _ _ []) hob2 rfl
 ·have hcs:zIm s t e (d+1)=(P s).args t [] (e+1) (d+1):=by
   unfold zIm;split
   ·rename_i e2 hk;exact absurd ⟨e2,hk⟩ h41
   ·rfl
  rw [hcs];refine ⟨fun n e2 h H hb=>main h41 _ _ (fun _=>rfl) (.inl ⟨n,e2,h,rfl,rfl⟩) H hb,fun h=>?_⟩;obtain ⟨L,RB,hL⟩:=zat (C:=C) (t:=t) e hLo (s.length-(e+1)) [] (e+1) tO tO (zoR _) h;obtain ⟨a',w,ee,d',g1,g2,g3⟩:=hL.shape tO;exact ⟨zAw t L,a',w,ee,d',g1,g2,fun H hb=>by rw [<-g3];exact main h41 _ _ (by rw [g3];exact fun _=>rfl) (.inr ⟨L,hL,rfl⟩) H hb⟩
theorem zXx (b:Nat) (s:Bs) (p d l:Nat) (n0:Nd) (W:Bd) (hW:W.ok s) (H:Heap) (hb:H[b]?=some (rP s p d)) (ho:∀ H,H[b]?=some (rP s p d)->C zAW [pR b] H (ndV n0) (H.set b (W.blk s))) :
  zCk C GT zCI [pR b,zL l] H b [] .undef (some (ndV zU,W.blk s)):=by
 have hbl:=zl_ hb;have hwe:=hW.1;refine zAH<|sX ?_;refine sSA (ndV n0) ?_;refine zAr (fun m:Nat=>[(4,pR H.length),(5,pR m),(0,pR b),(1,zL l)])
  (fun _ H'=>OldB H b (W.blk s) H'/\H'[b]?=some (W.blk s)/\H'[H.length]?=some (.box (ndC zU)))
  (fun _=>0) _ rfl ⟨((((((OldB.start hb).push _).setB _).push _).set zS_ _)),hP,hP⟩ (fun _ H1 ⟨hob,hb1,h4⟩=>?_)
 have h4l:=(zl_ h4);have hb1':H1[b]?=some (.box [.str s,zK W.a,zK W.w,zK W.e,zK W.d]):=hb1;refine zA (zK W.e) hb1' rfl<|zc (tN hwe)<|sX ?_;refine sSA (.agg (zN 0 0 [])) ?_
 exact zAC (o:=0) (ndV zU) rfl rfl rfl (zJ hP) rfl rfl rfl hO rfl
theorem zav (hT:∀ s a H,a<=s.length->s.length<=1000->C zm [.str s,zL a] H (tkV s a) H)
  (hSg:∀ t H,C zDB [.str t] H (zL (zCE t)) H) (hTi:∀ op H,op<=1000->C zBa [zL op] H (zL (tight op)) H)
  (b:Nat) (s:Bs) (p d l:Nat) (hp:p<=s.length) (hl:s.length<=200)
  (hLo:∀ a l',p<a->a<=s.length->CF C zX [pR b,zL l'] b s a d ((P s).loose l' a d))
  (hOne:CF C zAW [pR b] b s p d ((P s).one p d)):EF C GT zCI [pR b,zL l] b s p d ((P s).loose l p d):=by
 rw [zJO l d hp];unfold zEU;cases h1:(P s).one p d with
 |none=>
  obtain ⟨n,a,w,e,d',h2,h3,h4⟩:=hOne.2 h1;exact ⟨fun n e h=>(by cases h),fun _=>⟨zU,a,w,e,d',h2,h3,fun H hb=>zXx b s p d l n ⟨a,w,e,d'⟩ ⟨h2,h3⟩ H hb h4⟩⟩
 |some x=>
  obtain ⟨n0,e0⟩:=x;have hx:=(zCr s).one p d _ hp h1;simp only at hx;have ho:=hOne.1 n0 e0 h1;have go:=fun RV RB h2 h3 h4 H hb=>zaq (GT:=GT) hT hSg hTi b s p d l hp hl (fun a l' m e h1 h2 h3=>(hLo a l' h1 h2).1 m e h3) n0 e0 hx.1 hx.2 RV RB h2 h3 h4 H hb ho;simp only [zmH];cases h2:(P s).ll l n0 e0 d with
  |some y=>
   obtain ⟨n',e'⟩:=y;refine ⟨fun n e h H hb=>?_,fun h=>by cases h⟩;cases h;exact go _ _ (fun _=>rfl) ⟨n',rfl⟩ (.inl ⟨n',e',h2,rfl,rfl⟩) H hb
  |none=>
   obtain ⟨W,hW⟩:=zhe (C:=C) p hLo (s.length-e0) n0 e0 hx.1 hx.2 (zoR _) h2;exact ⟨fun n e h=>(by cases h),fun _=>⟨zU,W.a,W.w,W.e,W.d,hW.ok.1,hW.ok.2,fun H hb=>go _ _ (fun _=>rfl) ⟨zU,rfl⟩ (.inr ⟨W,hW,rfl,rfl⟩) H hb⟩⟩
end
structure RefK (PR:Program):Prop where
 hm:PR.follows .mixedOrders=true
 wordly:zCU PR zl0 zEK=true
 wrongs:zCU PR zBf zFd=true
 bad:zCU PR zDr zH7=true
 named:zCU PR zCa zGH=true
 token:zCU PR zm zGE=true
 called:zCU PR z6 zFe=true
 whole:zCU PR zw zDc=true
 ref:zCU PR zp zDt=true
 sign:zCU PR zDB zG9=true
 tight:zCU PR zBa zGG=true
 fail:zCU PR zl zFD=true
 deeper:zCU PR zZ zET=true
 close:zCU PR zY zCK=true
 one:zCU PR zAW zO=true
 call:zCU PR zCZ zBs=true
 loose:zCU PR zX zCI=true
structure BigG (PR:Program) (GT:zG_):Prop where
 new:∀ v H,zDi v->Good PR GT zA4 [zK v] H (.ref H.length 0 0 0) (H++[.box (zF2 v)])
 mul:∀ b t v av H,H[b]?=some (.box [.bool false,av])->H[t]?=some (.box (zF2 10))->Mag av v->(wds v).length<=1000->Good PR GT zBD [.ref b 0 0 0,.ref b 0 0 0,.ref t 0 0 0] H (.ref b 0 0 0) (H.set b (.box [.bool false,zXo v]))
 add:∀ (b t v d:Nat) (av:AV) (H:Heap),H[b]?=some (.box [.bool false,av])->H[t]?=some (.box (zF2 d))->Mag av v->(wds v).length<=1000->(wds d).length<=1000->Good PR GT zBE [.ref b 0 0 0,.ref b 0 0 0,.ref t 0 0 0] H (.ref b 0 0 0) (H.set b (.box (zF2 ((v+d:Nat):Int))))
 fit:∀ b v H,H[b]?=some (.box (zF2 v))->(wds v.natAbs).length<=100->Good PR GT zD8 [.ref b 0 0 0] H (.bool (decide (zDi v))) H
 i64:∀ b v H,H[b]?=some (.box (zF2 v))->zDi v->Good PR GT zAs [.ref b 0 0 0] H (zK v) H
section
variable {PR:Program} {GT:zG_}
theorem zkJ (hm:PR.follows .mixedOrders=true) {f:Nat} {F:AF} {args:List AV} {b:Nat} {s:Bs} {p d:Nat} {r:Option (Nd×Nat)} (hc:zCU PR f F=true) (h:EF (Good PR GT) GT F args b s p d r) (hn:zIt args=true:=by rfl):CF (Good PR GT) f args b s p d r:=
 ⟨fun n e hr H hb=>(zAo hm hc (h.1 n e hr H hb) hn).1 _ _ rfl,fun hr=>by
  obtain ⟨n,a,w,e,d',h1,h2,h3⟩:=h.2 hr;exact ⟨n,a,w,e,d',h1,h2,fun H hb=>(zAo hm hc (h3 H hb) hn).1 _ _ rfl⟩⟩
theorem zeV (k:RefK PR) (c:UInt8) (H:Heap):Good PR GT zl0 [byV c] H (.bool (zh c)) H:=zF k.hm k.wordly (zXh c H)
theorem zRT (k:RefK PR) (H:Heap):Good PR GT zBf [] H (.lst (some false) 1 (wrL.map AV.str)) H:=zF k.hm k.wrongs (zXk H)
theorem zkK (k:RefK PR) (n:Nat) (H:Heap):Good PR GT zDr [zL n] H (.agg [.int .i64 4,zL n,.str []]) H:=zF k.hm k.bad (zhb n H)
theorem zhm (k:RefK PR) (n:Nat) (H:Heap) (h1:1<=n) (h6:n<=6):Good PR GT zCa [.str (wrongs.getD (n-1) [])] H (.tup [.agg [.int .i64 4,zL n,.str []],.bool true]) H:=zF k.hm k.named (zap (zRT k) (zkK k) n h1 h6 H)
theorem zIO (k:RefK PR) (s:Bs) (a:Nat) (H:Heap) (ha:a<=s.length) (hl:s.length<=1000):Good PR GT zm [.str s,zL a] H (tkV s a) H:=zF k.hm k.token (zaH (zeV k) (zRT k) s a H ha hl)
theorem zVw (k:RefK PR) (s:Bs) (H:Heap) (hl:s.length<=1000):Good PR GT z6 [.str s] H (.bool (zA3 s)) H:=zF k.hm k.called (zXj s H hl)
theorem zaw (k:RefK PR) (g:BigG PR GT) (s:Bs) (H:Heap) (hl:s.length<=200):Good PR GT zw [.str s,.bool false] H (zKr (zCL s)) H:=zF k.hm k.whole (zaU g.new g.mul g.add g.fit g.i64 s H hl)
theorem zkL (k:RefK PR) (g:BigG PR GT) (s:Bs) (H:Heap) (hl:s.length<=200):Good PR GT zp [.str s] H (zSx (zE8 s)) H:=zF k.hm k.ref (zhc (zaw k g) s H hl)
theorem zkM (k:RefK PR) (t:Bs) (H:Heap):Good PR GT zDB [.str t] H (zL (zCE t)) H:=zF k.hm k.sign (zd8 t H)
theorem zUh (k:RefK PR) (op:Nat) (H:Heap) (h:op<=1000):Good PR GT zBa [zL op] H (zL (tight op)) H:=zF k.hm k.tight (zaF op H h)
theorem zSy (k:RefK PR) (b:Nat) (s:Bs) (p d a e:Int) (H:Heap) (hb:H[b]?=some (pB s p 0 0 d)):Good PR GT zl [pR b,zK a,zK e] H (.tup []) (H.set b (pB s p a e d)):=(zAo k.hm k.fail (zd9 b s p d a 0 e H hb .undef [])).1 _ _ rfl
theorem zeW (k:RefK PR) (b:Nat) (s:Bs) (p:Int) (d:Nat) (a:Int) (H:Heap) (hb:H[b]?=some (pB s p 0 0 d)) (hd:d<=1000) :
  (d=30->Good PR GT zZ [pR b,zK a] H (.bool false) (H.set b (pB s p a 4 d)))/\(d≠30->Good PR GT zZ [pR b,zK a] H (.bool true) (H.set b (pB s p 0 0 (d+1:Nat)))):=
 have h:=zAo k.hm k.deeper (zXi (GT:=GT) (zSy k) b s p d a H hb hd .undef [])
 ⟨fun e=>h.1 _ _ (by rw [zoQ e]),fun e=>h.1 _ _ (by rw [zWl e])⟩
theorem zVx (k:RefK PR) (b:Nat) (s:Bs) (p d e:Nat) (H:Heap) (hb:H[b]?=some (rP s p (d+1))) (hp:p<=s.length) (hl:s.length<=200) (hd:d<=1000) (hk:tok s p=.sign e [41]):Good PR GT zY [pR b] H (.tup []) (H.set b (rP s e d)):=(zAo k.hm k.close (zaI (zIO k) b s p d e H hb hp hl hd hk)).1 _ _ rfl
theorem zVy (k:RefK PR) (b:Nat) (s:Bs) (p d:Nat) (H:Heap) (hb:H[b]?=some (rP s p (d+1))) (hp:p<=s.length) (hl:s.length<=200) (hd:d<=1000) (hk:¬ ∃ e,tok s p=.sign e [41]):Good PR GT zY [pR b] H (.tup []) (H.set b (pB s (tkE (skip s p) (tok s p):Nat) (skip s p:Nat) 2 d)):=(zAo k.hm k.close (zaJ (zIO k) (zSy k) b s p d H hb hp hl hd hk)).1 _ _ rfl
theorem zVz (k:RefK PR) (b:Nat) (s:Bs) (p:Nat) (w e d:Int) (H:Heap) (hb:H[b]?=some (pB s p w e d)) (he:e≠0) (hp:p<=s.length) (hl:s.length<=200):Good PR GT zY [pR b] H (.tup []) (H.set b (pB s (tkE (skip s p) (tok s p):Nat) w e (IntKind.wrap .i64 (d-1)))):=(zAo k.hm k.close (zXl (zIO k) b s p w e d H hb he hp hl)).1 _ _ rfl
theorem q_all (k:RefK PR) (g:BigG PR GT) (b:Nat) (s:Bs) (hl:s.length<=200):∀ n p,p<=s.length->s.length-p=n->∀ d,d+(s.length-p)<=500 ->
  CF (Good PR GT) zAW [pR b] b s p d ((P s).one p d)/\∀ l,CF (Good PR GT) zX [pR b,zL l] b s p d ((P s).loose l p d):=by
 intro n;induction n using Nat.strongRecOn with
 |_ n ih=>
  intro p hp hn d hd;have ih':=fun p' (h1:p<p') (h2:p'<=s.length) d' h3=>ih (s.length-p') tO p' h2 rfl d' h3;clear ih;have one:CF (Good PR GT) zAW [pR b] b s p d ((P s).one p d):=by
   refine zkJ k.hm k.one (zhd (zIO k) (zVw k) (zaw k g) (zkL k g) (fun n H=>zhm k n H) (zSy k) (fun b s p d a H=>zeW k b s p d a H) (zVx k) (zVy k) (zVz k) b s p d hp hl tO (fun a h1 h2=>(ih' a h1 h2 (d+1) tO).1) (fun a h1 h2=>(ih' a h1 h2 (d+1) tO).2 1) (fun e t h40 h1 h2=>?_));have he:=(zl_ h40);have h:=zeU (GT:=GT) (zIO k) (zkL k g) (zSy k) (zVx k) (zVy k) (zVz k) b s t e d h40 hl tO (fun a h1 h2=>(ih' a tO h2 (d+1) tO).2 1);refine ⟨fun n e2 hr H hb=>(zAo k.hm k.call (h.1 n e2 hr H hb)).1 _ _ rfl,fun hr=>?_⟩;obtain ⟨n,a,w,e',d',g1,g2,g3⟩:=h.2 hr;exact ⟨n,a,w,e',d',g1,g2,fun H hb=>(zAo k.hm k.call (g3 H hb)).1 _ _ rfl⟩
  exact ⟨one,fun l=>zkJ k.hm k.loose (zav (zIO k) (zkM k) (zUh k) b s p d l hp hl (fun a l' h1 h2=>(ih' a h1 h2 d tO).2 l') one)⟩
end
structure Fil where
 col:Int
 row:Int
 text:Bs
 deriving DecidableEq
def ze (c r:Int):AV:=.agg [zK c,zK r]
def zf (f:Fil):AV:=.agg [zK f.col,zK f.row,.str f.text]
def okC (c r:Int):Bool:=decide (1<=c)&&decide (c<=26)&&decide (1<=r)&&decide (r<=99)
def zWA (a b:Int):Int:=if a<b then -1 else if b<a then 1 else 0
def zQJ (c1 r1 c2 r2:Int):Int:=if zWA r1 r2≠0 then zWA r1 r2 else zWA c1 c2
def zEb (a b:Fil):Bool:=decide (zQJ a.col a.row b.col b.row<0)
def zBV (s:Bs):Nat:=if 200<s.length then 4 else if s.head?=some 61 then (match zAj s with
 |some _=>0
 |none=>2) else 0
def eV (n:Nat):AV:=if n=0 then .nili else zFo n
def zUi (prev:Option Fil) (f:Fil):Nat:=if okC f.col f.row=false then 1 else if (match prev with
 |some p=>zEb p f
 |none=>true)=false then 5 else if f.text=[] then 3 else zBV f.text
def zGY (prev:Option Fil):List Fil->Nat
 |[]=>0
 |f::r=>if zUi prev f=0 then zGY (some f) r else zUi prev f
def zDj (l:List Fil):Nat:=if 200<l.length then 4 else zGY none l
theorem zMV (l:List Fil) (i:Nat) (f:Fil) (h:l[i]?=some f) (prev:Option Fil):zGY prev (l.drop i)=if zUi prev f=0 then zGY (some f) (l.drop (i+1)) else zUi prev f:=by
 have hi:=(zl_ h);have e:l.drop i=f::l.drop (i+1):=by
  rw [zmF hi];rw [(zg h).2]
 rw [e];rfl
theorem zeX {v:AV} {H:Heap} {k:Nat} {xs:List AV} {n:Int} {K:AV->Prop} (i:Nat) (x:AV) (hv:view H k v=some xs) (hn:n=(i:Int)) (hx:xs[i]?=some x) (q1:K (.lref x 0)) (q2:∀ b j,zy H (.ref b k j 0)=some (x.cells,0)->K (.ref b k j 0)):idxN k v n K:=by
 have hlt:=(zl_ hx);unfold view at hv;split at hv
 ·split at hv
  ·rename_i hk;cases hv;subst hk;exact zSO hn hx q1
  ·grind
 ·rw [zJe];unfold zSE;simp only;split at hv
  ·rename_i hk;subst hk;split at hv
   ·rename_i hb;split at hv
    ·rename_i hc;cases hv;rw [zon,zok] at hlt;rw [zo5,zoQ tO,zo1] at hx;subst hn;rw [hc.1] at hb;refine zBA ⟨rfl,by omega,by omega⟩ (q2 _ _ (zT0 hb hx))
    ·cases hv
   ·rename_i hb;split at hv
    ·rename_i hc;cases hv;rw [zon,zok] at hlt;rw [zo5,zoQ tO,zo1] at hx;subst hn;rw [hc.1] at hb;refine zBA ⟨rfl,by omega,by omega⟩ (q2 _ _ ?_);show zy H (.ref _ _ _ _)=_;simp only [zy,hb,zoz,zoq,hx,zoe]
    ·cases hv
   ·cases hv
  ·cases hv
 ·cases hv
section
variable {C:CSpec} {GT:zG_}
theorem zkN (c r:Int) (H:Heap):EFun C GT zSW [ze c r] H (.bool (okC c r)) H:=by
 refine zH ?_;unfold okC;by_cases h1:1<=c
 ·rw [zoj h1];by_cases h2:c<=26
  ·rw [zoj h2];by_cases h3:1<=r
   ·rw [zoj h3];refine zAV (x:=ze c r) rfl<|sW ?_
    exact sRv
   ·rw [zop h3];refine zAV (x:=ze c r) rfl<|sW ?_
    exact sRv
  ·rw [zop h2];refine zAV (x:=ze c r) rfl<|sW ?_
   exact sRv
 ·rw [zop h1];refine zAV (x:=ze c r) rfl<|sW ?_
  exact sRv
theorem zax (hO:∀ c r H,C zFS [ze c r] H (.bool (okC c r)) H) (c r:Int) (H:Heap):EFun C GT zMn [ze c r] H (if okC c r=true then .nili else zFo 1) H:=by
 have ho:=hO c r;clear hO;refine zH ?_;cases hk:okC c r with
 |true=>
  rw [hk] at ho;refine zAV (x:=ze c r) rfl<|sW ?_
  exact sRv
 |false=>
  rw [hk] at ho;refine zAV (x:=ze c r) rfl<|sW ?_
  exact sRv
theorem zkO (a:Int) (H:Heap):EFun C GT zIb [zK a] H (.bool false) H:=by
 refine zH ?_;refine zMB ?_ rfl rfl rfl rfl (Old.refl _);show AV.bool false=AV.bool (a != a);simp
theorem zhn (hN:∀ a H,C zEH [zK a] H (.bool false) H) (a b:Int) (H:Heap):EFun C GT zGg [zK a,zK b] H (zK (zWA a b)) H:=by
 have hn:=hN;clear hN;refine zH ?_;unfold zWA;by_cases h1:a<b
 ·rw [zoQ h1];refine sW ?_;exact sRv
 ·rw [zWl h1];by_cases h2:b<a
  ·rw [zoQ h2];refine sW ?_;exact sRv
  ·rw [zWl h2];refine sW ?_;exact sRv
theorem zkP (b:Nat) (x y:Int) (H:Heap) (hb:H[b]?=some (.row 1 [zK x,zK y])):EFun C GT zLT [.sl (some false) b 1 0 2] H (zK (if x≠0 then x else y)) H:=by
 refine zH ?_;obtain ⟨r,hr⟩:∃ r,(if x≠0 then x else y)=r:=⟨_,rfl⟩;rw [hr];refine zIU ?_;refine zAr (fun i:Nat=>[(8,zL i),(3,zK 0),(6,.sl (some false) b 1 0 2),(7,zL 2)]) (fun i H'=>H'=H/\i<=2/\(1<=i->x=0)/\(2<=i->y=0)) (fun i=>2-i) 0 rfl ⟨rfl,by omega,fun h=>by omega,fun h=>by omega⟩ (fun i H1 ⟨hH,hi,hx,hy⟩=>?_);subst hH;dsimp only;rcases (show i=0\/i=1\/i=2 by omega) with rfl|rfl|rfl
 ·by_cases h0:x=0
  ·refine sW ?_;refine sAt ⟨by omega,by omega⟩<|zCs 0 (zK x) (zK x) rfl hb rfl rfl<|zc (zog.2 tO)<|zQ (r:=1) rfl tO ?_;refine zAJ 1 rfl ⟨rfl,by omega,fun _=>h0,fun h=>by omega⟩ tO
  ·rw [zoQ h0] at hr;subst hr;refine sW ?_;refine sAt ⟨by omega,by omega⟩<|zCs 0 (zK x) (zK x) rfl hb rfl rfl<|zt (zo0.2 tO) ?_
   exact sRv
 ·have h0:=hx tO;rw [zWl (fun h=>h h0)] at hr;subst hr;by_cases h1:y=0
  ·refine sW ?_;refine sAt ⟨by omega,by omega⟩<|zCs 1 (zK y) (zK y) rfl hb rfl rfl<|zc (zog.2 tO)<|zQ (r:=2) rfl tO ?_;refine zAJ 2 rfl ⟨rfl,by omega,fun _=>h0,fun _=>h1⟩ tO
  ·refine sW ?_;refine sAt ⟨by omega,by omega⟩<|zCs 1 (zK y) (zK y) rfl hb rfl rfl<|zt (zo0.2 tO) ?_
   exact sRv
 ·have h0:=hx tO;have h1:=hy tO;rw [zWl (fun h=>h h0),h1] at hr;subst hr;refine sW ?_;exact sRv
theorem zeY (hC:∀ a b H,C zDJ [zK a,zK b] H (zK (zWA a b)) H) (hO:∀ b x y H,H[b]?=some (.row 1 [zK x,zK y])->C zFv [.sl (some false) b 1 0 2] H (zK (if x≠0 then x else y)) H) (c1 r1 c2 r2:Int) (H:Heap) :
  EFun C GT zKF [ze c1 r1,ze c2 r2] H (zK (zQJ c1 r1 c2 r2)) H:=by
 have hc:=hC;have ho:=fun b H h=>hO b (zWA r1 r2) (zWA c1 c2) H h;clear hO hC;refine zH ?_;unfold zQJ;refine zAV (x:=ze c1 r1) rfl<|zAV (x:=ze c2 r2) rfl<|sW ?_;refine zAA (vs':=[zK (zWA r1 r2),zK (zWA c1 c2)]) rfl rfl<|sW ?_
 exact sRv
theorem zeZ (hC:∀ c1 r1 c2 r2 H,C zD5 [ze c1 r1,ze c2 r2] H (zK (zQJ c1 r1 c2 r2)) H) (a b:Fil) (H:Heap):EFun C GT zOF [ze a.col a.row,ze b.col b.row] H (.bool (zEb a b)) H:=by
 have hc:=hC a.col a.row b.col b.row;clear hC;refine zH ?_;unfold zEb;refine zAV (x:=ze a.col a.row) rfl<|zAV (x:=ze b.col b.row) rfl<|sW ?_
 exact sRv
theorem zea (hCo:∀ s H,C zBC [.str s] H (.bool (decide (s.head?≠some 61))) H) (hP:∀ s H,C zAM [.str s] H (zFE s) H) (s:Bs) (H:Heap):EFun C GT zMo [.str s] H (eV (zBV s)) H:=by
 have hc:=hCo s;have hp:=hP s;clear hCo hP;refine zH ?_;unfold zBV;by_cases hl:200<s.length
 ·rw [zoQ hl];refine sW ?_;exact sRv
 ·rw [zWl hl];by_cases h:s.head?=some 61
  ·rw [zoQ h];rw [tF (fun x=>x h)] at hc;unfold zFE at hp;cases hq:zAj s with
   |some n=>
    rw [hq] at hp;have hp:∀ H,C zAM [.str s] H (.tup [ndV n,.int .i64 0,.nili]) H:=hp;refine sW ?_;refine sSA (ndV n) ?_;refine sW ?_;exact sRv
   |none=>
    rw [hq] at hp;have hp:∀ H,C zAM [.str s] H (.tup [ndV zU,.sca,.iface zd .undef]) H:=hp;refine sW ?_;refine sSA (ndV zU) ?_;refine sW ?_;exact sRv
  ·rw [zWl h];rw [zoj h] at hc;refine sW ?_;exact sRv
theorem zay (hA:∀ c r H,C zAg [ze c r] H (if okC c r=true then .nili else zFo 1) H) (hL:∀ a b H,C zH1 [ze a.col a.row,ze b.col b.row] H (.bool (zEb a b)) H) (hT:∀ s H,C zCo [.str s] H (eV (zBV s)) H)
  (lv:AV) (l:List Fil) (H:Heap) (hv:view H 3 lv=some (l.map zf)):EFun C GT zLP [lv] H (eV (zDj l)) H:=by
 have hlm:(l.map zf).length=l.length:=zoU _;refine zH ?_;unfold zDj;by_cases hl:200<l.length
 ·rw [zoQ hl];clear hA hL hT;refine zDU hv<|sW ?_
  exact sRv
 rw [zWl hl];obtain ⟨r,hr⟩:∃ r,zGY none l=r:=⟨_,rfl⟩;rw [hr];refine zDU hv<|sW ?_;refine zDU hv ?_;refine zAr (fun i:Nat=>[(12,zL i),(0,lv),(10,lv),(11,.int .i64 ((l.map zf).length:Nat))]) (fun i H'=>Old H H'/\view H' 3 lv=some (l.map zf)/\i<=l.length/\zGY (if i=0 then none else l[i-1]?) (l.drop i)=r) (fun i=>l.length-i) 0 rfl ⟨Old.refl _,hv,by omega,hr⟩ (fun i H1 ⟨hH,hv1,hi,hq⟩=>?_)
 dsimp only;by_cases hlt:i<l.length
 ·obtain ⟨f,hf⟩:∃ f,l[i]?=some f:=⟨_,zoO hlt⟩;have hfm:(l.map zf)[i]?=some (zf f):=by rw [zoX,hf];rfl
  rw [zMV l i f hf] at hq;have hvo:view ((H1++[ABlk.box zV3]).set (List.length H1) (ABlk.box (zf f).cells)) 3 lv=some (l.map zf):=zHx (((Old.refl H1).push _).set (zoR _) _) hv1;have ha:=hA f.col f.row;have ht:=hT f.text;have hH2:∀ X Y,Old H ((H1++[X]).set H1.length Y):=fun X Y=>(hH.push _).set hH.1 _;clear hA hT;unfold zUi at hq;cases hok:okC f.col f.row with
  |false=>
   rw [hok] at ha hq;have hq:1=r:=hq;subst hq;clear hL ht;refine sW ?_;refine zLM i (zf f) hv1 rfl hfm (fun p hp=>?_);refine zAe (zf f) hp rfl<|sSA (zf f) ?_;refine sW ?_
   exact zAQ rfl rfl rfl rfl (hH2 _ _)
  |true=>
   rw [hok] at ha hq;rw [zWl (by simp:¬ (true=false))] at hq;have ha:∀ H,C zAg [ze f.col f.row] H .nili H:=ha;by_cases hi0:i=0
   ·rw [zoQ hi0] at hq;have hq:(if (if f.text=[] then 3 else zBV f.text)=0 then zGY (some f) (l.drop (i+1)) else if f.text=[] then 3 else zBV f.text)=r:=hq;clear hL;by_cases h0:f.text=[]
    ·rw [zoQ h0] at hq;have hq:3=r:=hq;subst hq;clear ht;refine sW ?_;refine zLM i (zf f) hv1 rfl hfm (fun p hp=>?_);refine zAe (zf f) hp rfl<|zM (v:=zf f) (AV.cells (zf f)) zB rfl rfl rfl rfl<|zA (.agg [zK f.col,zK f.row]) hP rfl<|zI (ha _)<|za rfl ?_;refine zC<|zc tF<|zC<|zC<|zA (.str f.text) hP rfl<|zt (tE h0) ?_
     exact zAQ rfl rfl rfl rfl (hH2 _ _)
    ·rw [zWl h0] at hq;by_cases hz:zBV f.text=0
     ·rw [zoQ hz] at hq;rw [hz] at ht;have ht:∀ H,C zCo [.str f.text] H .nili H:=ht;refine sW ?_;refine zLM i (zf f) hv1 rfl hfm (fun p hp=>?_);refine zAe (zf f) hp rfl<|zM (v:=zf f) (AV.cells (zf f)) zB rfl rfl rfl rfl<|zA (.agg [zK f.col,zK f.row]) hP rfl<|zI (ha _)<|za rfl ?_;refine zC<|zc tF<|zC<|zC<|zA (.str f.text) hP rfl<|zc (tN h0) ?_;refine zA (.str f.text) hP rfl<|zI (ht _)<|za rfl<|zC<|zQ (r:=i+1) rfl tO ?_;refine zAJ (i+1) rfl ⟨hH2 _ _,hvo,by omega, ?_⟩ tO
      rw [zWl tO,zmT,hf];exact hq
     ·rw [zWl hz] at hq;subst hq;have ht:∀ H,C zCo [.str f.text] H (zFo (zBV f.text)) H:=fun H=>by have:=ht H;rwa [eV,zWl hz] at this
      rw [eV,zWl hz];refine sW ?_;refine zLM i (zf f) hv1 rfl hfm (fun p hp=>?_);refine zAe (zf f) hp rfl<|zM (v:=zf f) (AV.cells (zf f)) zB rfl rfl rfl rfl<|zA (.agg [zK f.col,zK f.row]) hP rfl<|zI (ha _)<|za rfl ?_;refine zC<|zc tF<|zC<|zC<|zA (.str f.text) hP rfl<|zc (tN h0) ?_;refine zA (.str f.text) hP rfl<|zI (ht _)<|za rfl<|zD ?_
      exact zAQ rfl rfl rfl rfl (hH2 _ _)
   ·obtain ⟨g,hg⟩:∃ g,l[i-1]?=some g:=⟨_,zoO tO⟩;have hgm:(l.map zf)[i-1]?=some (zf g):=by rw [zoX,hg];rfl
    rw [zWl hi0,hg] at hq;have hq:(if (if zEb g f=false then 5 else if f.text=[] then 3 else zBV f.text)=0 then zGY (some f) (l.drop (i+1)) else if zEb g f=false then 5 else if f.text=[] then 3 else zBV f.text)=r:=hq;have hls:=hL g f;clear hL;cases hlp:zEb g f with
    |false=>
     rw [hlp] at hls hq;have hq:5=r:=hq;subst hq;clear ht;refine sW ?_;refine zLM i (zf f) hv1 rfl hfm (fun p hp=>?_);refine zAe (zf f) hp rfl<|sSA (zf f) ?_;refine sW ?_;refine zQ (r:=i-1) tO tO ?_;refine zeX (i-1) (zf g) hvo rfl hgm ?_ (fun b2 j2 hp2=>?_)
     ·refine sW ?_;exact zAQ rfl rfl rfl rfl (hH2 _ _)
     ·refine zAe (ze g.col g.row) hp2 rfl<|sW ?_
      exact zAQ rfl rfl rfl rfl (hH2 _ _)
    |true=>
     rw [hlp] at hls hq;rw [zWl (by simp:¬ (true=false))] at hq;by_cases h0:f.text=[]
     ·rw [zoQ h0] at hq;have hq:3=r:=hq;subst hq;clear ht;refine sW ?_;refine zLM i (zf f) hv1 rfl hfm (fun p hp=>?_);refine zAe (zf f) hp rfl<|sSA (zf f) ?_;refine sW ?_;refine zQ (r:=i-1) tO tO ?_;refine zeX (i-1) (zf g) hvo rfl hgm ?_ (fun b2 j2 hp2=>?_)
      ·refine z8 (ze g.col g.row) rfl<|zA (.agg [zK f.col,zK f.row]) hP rfl<|zI (hls _)<|zD<|zC<|zA (.str f.text) hP rfl ?_;refine zt (tE h0) ?_
       exact zAQ rfl rfl rfl rfl (hH2 _ _)
      ·refine zAe (ze g.col g.row) hp2 rfl<|zA (.agg [zK f.col,zK f.row]) hP rfl<|zI (hls _)<|zD<|zC<|zA (.str f.text) hP rfl ?_;refine zt (tE h0) ?_
       exact zAQ rfl rfl rfl rfl (hH2 _ _)
     ·rw [zWl h0] at hq;by_cases hz:zBV f.text=0
      ·rw [zoQ hz] at hq;rw [hz] at ht;have ht:∀ H,C zCo [.str f.text] H .nili H:=ht;refine sW ?_;refine zLM i (zf f) hv1 rfl hfm (fun p hp=>?_);refine zAe (zf f) hp rfl<|sSA (zf f) ?_;refine sW ?_;refine zQ (r:=i-1) tO tO ?_;refine zeX (i-1) (zf g) hvo rfl hgm ?_ (fun b2 j2 hp2=>?_)
       ·refine z8 (ze g.col g.row) rfl<|zA (.agg [zK f.col,zK f.row]) hP rfl<|zI (hls _)<|zD<|zC<|zA (.str f.text) hP rfl ?_;refine zc (tN h0)<|zA (.str f.text) hP rfl<|zI (ht _)<|za rfl<|zC<|zQ (r:=i+1) rfl tO ?_;refine zAJ (i+1) rfl ⟨hH2 _ _,hvo,by omega, ?_⟩ tO
        rw [zWl tO,zmT,hf];exact hq
       ·refine zAe (ze g.col g.row) hp2 rfl<|zA (.agg [zK f.col,zK f.row]) hP rfl<|zI (hls _)<|zD<|zC<|zA (.str f.text) hP rfl ?_;refine zc (tN h0)<|zA (.str f.text) hP rfl<|zI (ht _)<|za rfl<|zC<|zQ (r:=i+1) rfl tO ?_;refine zAJ (i+1) rfl ⟨hH2 _ _,hvo,by omega, ?_⟩ tO
        rw [zWl tO,zmT,hf];exact hq
      ·rw [zWl hz] at hq;subst hq;have ht:∀ H,C zCo [.str f.text] H (zFo (zBV f.text)) H:=fun H=>by have:=ht H;rwa [eV,zWl hz] at this
       rw [eV,zWl hz];refine sW ?_;refine zLM i (zf f) hv1 rfl hfm (fun p hp=>?_);refine zAe (zf f) hp rfl<|sSA (zf f) ?_;refine sW ?_;refine zQ (r:=i-1) tO tO ?_;refine zeX (i-1) (zf g) hvo rfl hgm ?_ (fun b2 j2 hp2=>?_)
       ·refine z8 (ze g.col g.row) rfl<|zA (.agg [zK f.col,zK f.row]) hP rfl<|zI (hls _)<|zD<|zC<|zA (.str f.text) hP rfl ?_;refine zc (tN h0)<|zA (.str f.text) hP rfl<|zI (ht _)<|za rfl<|zD ?_
        exact zAQ rfl rfl rfl rfl (hH2 _ _)
       ·refine zAe (ze g.col g.row) hp2 rfl<|zA (.agg [zK f.col,zK f.row]) hP rfl<|zI (hls _)<|zD<|zC<|zA (.str f.text) hP rfl ?_;refine zc (tN h0)<|zA (.str f.text) hP rfl<|zI (ht _)<|za rfl<|zD ?_
        exact zAQ rfl rfl rfl rfl (hH2 _ _)
 ·have hd:l.drop i=[]:=zmM tO;rw [hd] at hq;have hq:0=r:=hq;subst hq;clear hA hL hT;refine sW ?_;exact zAQ rfl rfl rfl rfl hH
end
theorem zaz (a b:Fil):zEb a b=if a.row≠b.row then decide (a.row<b.row) else decide (a.col<b.col):=by
 unfold zEb zQJ zWA;by_cases h1:a.row<b.row
 ·grind
 ·grind
theorem zDk {F:AF} {a s t1 t2:Nat} {ag:Bool} {H H1:Heap} {fr:Fr} {v v1 v2:AV} {cs:List AV} {o:Nat} (hF:F.results=[.cell a s ag,.tmp t1,.tmp t2]) (hk:F.keep=false) (hp:zy H1 (zMk fr a)=some (cs,o)) (hpt:part cs o s ag=some v) (ht1:zMk fr t1=v1) (ht2:zMk fr t2=v2)
  (hf:zDm H.length (.tup [v,v1,v2]) H1=some (.tup [v,v1,v2],H1)) (hb:(AV.tup [v,v1,v2]).bel H.length=true) (ho:Old H H1):retP F H fr H1 (.tup [v,v1,v2]) H:=by
 refine zAQ hk ?_ hf hb ho;rw [zFA] at hp ht1 ht2;simp only [hF,zBd,zKS,hp,hpt,ht1,ht2,zoe];rfl
section
variable {C:CSpec} {GT:zG_}
theorem zkQ (c r:Int) (H:Heap):EFun C GT zI2 [ze c r] H (.bool (okC c r)) H:=by
 refine zH ?_;unfold okC;by_cases h1:1<=c
 ·rw [zoj h1];by_cases h2:c<=26
  ·rw [zoj h2];by_cases h3:1<=r
   ·rw [zoj h3];refine zAV (x:=ze c r) rfl<|zA (zK c) zB rfl<|zt tT<|zA (zK c) zB rfl<|zD<|zt tT ?_;refine zA (zK r) zB rfl<|zD<|zt tT<|zA (zK r) zB rfl<|zD ?_
    exact zAQ rfl rfl rfl rfl ((Old.refl _).push _)
   ·rw [zop h3];refine zAV (x:=ze c r) rfl<|zA (zK c) zB rfl<|zt tT<|zA (zK c) zB rfl<|zD<|zt tT ?_;refine zA (zK r) zB rfl<|zD<|zc tF<|zC ?_
    exact zAQ rfl rfl rfl rfl ((Old.refl _).push _)
  ·rw [zop h2];refine zAV (x:=ze c r) rfl<|zA (zK c) zB rfl<|zt tT<|zA (zK c) zB rfl ?_;refine zD<|zc tF<|zC<|zC<|zC ?_
   exact zAQ rfl rfl rfl rfl ((Old.refl _).push _)
 ·rw [zop h1];refine zAV (x:=ze c r) rfl<|zA (zK c) zB rfl ?_;refine zc tF<|zC<|zC<|zC<|zC<|zC ?_
  exact zAQ rfl rfl rfl rfl ((Old.refl _).push _)
theorem za0 (a b:Fil) (H:Heap):EFun C GT zGD [ze a.col a.row,ze b.col b.row] H (.bool (zEb a b)) H:=by
 rw [zaz];refine zH ?_;by_cases h:a.row≠b.row
 ·rw [zoQ h];refine zAV (x:=ze a.col a.row) rfl<|zAV (x:=ze b.col b.row) rfl<|zA (zK a.row) hP rfl<|zA (zK b.row) zB rfl<|zt (zo0.2 h)<|zA (zK a.row) hP rfl ?_;refine zA (zK b.row) zB rfl ?_
  exact zAQ rfl rfl rfl rfl (((Old.refl _).push _).push _)
 ·rw [zWl h];have h:a.row=b.row:=Classical.not_not.1 h;refine zAV (x:=ze a.col a.row) rfl<|zAV (x:=ze b.col b.row) rfl<|zA (zK a.row) hP rfl<|zA (zK b.row) zB rfl<|zc (zog.2 h)<|zA (zK a.col) hP rfl ?_;refine zA (zK b.col) zB rfl ?_
  exact zAQ rfl rfl rfl rfl (((Old.refl _).push _).push _)
def RPar (C:CSpec) (s:Bs):Prop:=
 (∀ n,zAj s=some n->∀ H,C zBx [.str s] H (.tup [ndV n,zK 0,zK 0]) H)/\(zAj s=none->∀ H,∃ w e:Int,e≠0/\C zBx [.str s] H (.tup [ndV zU,zK w,zK e]) H)
theorem za1 (hT:∀ s a H,a<=s.length->s.length<=1000->C zm [.str s,zL a] H (tkV s a) H) (s:Bs) (hl:s.length<=200) (h61:s[0]?=some 61) (n:Nd) (e:Nat) (he:e<=s.length) (hk:tok s e=.fin)
  (hLo:∀ b H,H[b]?=some (rP s 1 0)->C zX [pR b,.int .i64 1] H (ndV n) (H.set b (rP s e 0))) (H:Heap):EFun C GT zDZ [.str s] H (.tup [ndV n,zK 0,zK 0]) H:=by
 have htk:=fun H=>hT s e H he tO;rw [zGv,hk] at htk;clear hT;refine zH ?_;have hne:s≠[]:=fun x=>by subst x;cases h61
 generalize skip s e=q at *;refine zc tF<|zc (tN hne)<|zCF rfl h61<|zC<|zC<|za (v:=[.str s,.int .i64 1,.int .i64 0,.int .i64 0,.int .i64 0]) rfl ?_;refine zAV (x:=AV.agg [.str s,.int .i64 1,.int .i64 0,.int .i64 0,.int .i64 0]) rfl<|zBc (hLo _ _ hP) (fun h=>by cases h)<|zM (v:=ndV n) (AV.cells (ndV n)) zB rfl rfl rfl rfl<|zA (zK ↑e) hP rfl<|zI (htk _)<|zM (v:=kV (tkK Tok.fin) q (tkE q Tok.fin) (tkT Tok.fin)) (AV.cells (kV (tkK Tok.fin) q (tkE q Tok.fin) (tkT Tok.fin))) zB rfl rfl rfl rfl ?_
 refine zA (zK 0) hP rfl<|zD<|zA (zL (tkK Tok.fin)) hP rfl<|zD<|zC<|zA (zK 0) hP rfl ?_;refine zC<|zA (ndV n) hP rfl<|zM (v:=ndV n) (AV.cells (ndV n)) hP rfl rfl rfl rfl ?_
 exact zDk (o:=0) rfl rfl (zJ hP) rfl rfl rfl rfl rfl hO
theorem zUj (hT:∀ s a H,a<=s.length->s.length<=1000->C zm [.str s,zL a] H (tkV s a) H)
  (hF:∀ b s p d a e H,H[b]?=some (pB s p 0 0 d)->C zl [pR b,zK a,zK e] H (.tup []) (H.set b (pB s p a e d)))
  (s:Bs) (hl:s.length<=200) (h61:s[0]?=some 61) (n:Nd) (e:Nat) (he:e<=s.length) (hk:tkK (tok s e)≠0)
  (hLo:∀ b H,H[b]?=some (rP s 1 0)->C zX [pR b,.int .i64 1] H (ndV n) (H.set b (rP s e 0))) (H:Heap):EFun C GT zDZ [.str s] H (.tup [ndV zU,zL (skip s e),zK 2]) H:=by
 have htk:=fun H=>hT s e H he tO;rw [zGv] at htk;have hf:=fun b H=>hF b s e 0 (skip s e:Nat) 2 H;clear hT hF;refine zH ?_;have hne:s≠[]:=fun x=>by subst x;cases h61
 generalize tkE (skip s e) (tok s e)=ee at *;generalize tkK (tok s e)=kk at *;generalize tkT (tok s e)=t at *;generalize skip s e=q at *;refine zc tF<|zc (tN hne)<|zCF rfl h61<|zC<|zC<|za (v:=[.str s,.int .i64 1,.int .i64 0,.int .i64 0,.int .i64 0]) rfl ?_;refine zAV (x:=AV.agg [.str s,.int .i64 1,.int .i64 0,.int .i64 0,.int .i64 0]) rfl<|zBc (hLo _ _ hP) (fun h=>by cases h)<|zM (v:=ndV n) (AV.cells (ndV n)) zB rfl rfl rfl rfl<|zA (zK ↑e) hP rfl<|zI (htk _)<|zM (v:=kV kk q ee t) (AV.cells (kV kk q ee t)) zB rfl rfl rfl rfl ?_
 refine zA (zK 0) hP rfl<|zt (tE (by rfl))<|zA (zL kk) hP rfl<|zD<|zt (zo0.2 tO)<|zA (zL q) hP rfl ?_;refine zBc (hf _ _ hP) (fun h=>by cases h)<|zA (zK 2) hP rfl<|zt (zo0.2 tO)<|za (v:=(zN 0 0 [])) rfl ?_;refine zG2 ?_ ?_
 ·refine zA (zK ↑q) hP rfl ?_;refine zG2 ?_ ?_
  ·refine zA (zK 2) hP rfl<|zM (v:=.agg (zN 0 0 [])) (AV.cells (.agg (zN 0 0 []))) hP rfl rfl rfl rfl ?_
   exact zDk (o:=0) rfl rfl (zJ hP) rfl rfl rfl rfl rfl hO
  ·refine zM (v:=.agg (zN 0 0 [])) (AV.cells (.agg (zN 0 0 []))) hP rfl rfl rfl rfl<|zA (zK 2) hP rfl ?_
   exact zDk (o:=0) rfl rfl (zJ hP) rfl rfl rfl rfl rfl hO
 ·refine zG2 ?_ ?_
  ·refine zA (zK 2) hP rfl ?_;refine zG2 ?_ ?_
   ·refine zA (zK ↑q) hP rfl<|zM (v:=.agg (zN 0 0 [])) (AV.cells (.agg (zN 0 0 []))) hP rfl rfl rfl rfl ?_
    exact zDk (o:=0) rfl rfl (zJ hP) rfl rfl rfl rfl rfl hO
   ·refine zM (v:=.agg (zN 0 0 [])) (AV.cells (.agg (zN 0 0 []))) hP rfl rfl rfl rfl<|zA (zK ↑q) hP rfl ?_
    exact zDk (o:=0) rfl rfl (zJ hP) rfl rfl rfl rfl rfl hO
  ·refine zM (v:=.agg (zN 0 0 [])) (AV.cells (.agg (zN 0 0 []))) hP rfl rfl rfl rfl<|zA (zK ↑q) hP rfl<|zA (zK 2) hP rfl ?_
   exact zDk (o:=0) rfl rfl (zJ hP) rfl rfl rfl rfl rfl hO
theorem zXy (hT:∀ s a H,a<=s.length->s.length<=1000->C zm [.str s,zL a] H (tkV s a) H)
  (s:Bs) (hl:s.length<=200) (h61:s[0]?=some 61) (n:Nd) (a:Nat) (w e d:Int) (ha:a<=s.length) (he:e≠0) (H:Heap)
  (hLo:∀ H',H'[(H++[ABlk.box (ndC zU)]).length]?=some (rP s 1 0)->C zX [pR (H++[ABlk.box (ndC zU)]).length,.int .i64 1] H' (ndV n) (H'.set (H++[ABlk.box (ndC zU)]).length (pB s a w e d))):EFun C GT zDZ [.str s] H (.tup [ndV zU,zK w,zK e]) H:=by
 have htk:=fun H=>hT s a H ha tO;rw [zGv] at htk;clear hT;refine zH ?_;have hne:s≠[]:=fun x=>by subst x;cases h61
 generalize tkE (skip s a) (tok s a)=ee at *;generalize tkK (tok s a)=kk at *;generalize tkT (tok s a)=t at *;generalize skip s a=q at *;refine zc tF<|zc (tN hne)<|zCF rfl h61<|zC<|zC<|za (v:=[.str s,.int .i64 1,.int .i64 0,.int .i64 0,.int .i64 0]) rfl ?_;refine zAV (x:=AV.agg [.str s,.int .i64 1,.int .i64 0,.int .i64 0,.int .i64 0]) rfl<|zBc (hLo _ hP) (fun h=>by cases h)<|zM (v:=ndV n) (AV.cells (ndV n)) zB rfl rfl rfl rfl<|zA (zK ↑a) hP rfl<|zI (htk _)<|zM (v:=kV kk q ee t) (AV.cells (kV kk q ee t)) zB rfl rfl rfl rfl ?_
 refine zA (zK e) hP rfl<|zc tF<|zC<|zC<|zA (zK e) hP rfl<|zt (zo0.2 he) ?_;refine za (v:=(zN 0 0 [])) rfl ?_;refine zG2 ?_ ?_
 ·refine zA (zK w) hP rfl ?_;refine zG2 ?_ ?_
  ·refine zA (zK e) hP rfl<|zM (v:=.agg (zN 0 0 [])) (AV.cells (.agg (zN 0 0 []))) hP rfl rfl rfl rfl ?_
   exact zDk (o:=0) rfl rfl (zJ hP) rfl rfl rfl rfl rfl hO
  ·refine zM (v:=.agg (zN 0 0 [])) (AV.cells (.agg (zN 0 0 []))) hP rfl rfl rfl rfl<|zA (zK e) hP rfl ?_
   exact zDk (o:=0) rfl rfl (zJ hP) rfl rfl rfl rfl rfl hO
 ·refine zG2 ?_ ?_
  ·refine zA (zK e) hP rfl ?_;refine zG2 ?_ ?_
   ·refine zA (zK w) hP rfl<|zM (v:=.agg (zN 0 0 [])) (AV.cells (.agg (zN 0 0 []))) hP rfl rfl rfl rfl ?_
    exact zDk (o:=0) rfl rfl (zJ hP) rfl rfl rfl rfl rfl hO
   ·refine zM (v:=.agg (zN 0 0 [])) (AV.cells (.agg (zN 0 0 []))) hP rfl rfl rfl rfl<|zA (zK w) hP rfl ?_
    exact zDk (o:=0) rfl rfl (zJ hP) rfl rfl rfl rfl rfl hO
  ·refine zM (v:=.agg (zN 0 0 [])) (AV.cells (.agg (zN 0 0 []))) hP rfl rfl rfl rfl<|zA (zK w) hP rfl<|zA (zK e) hP rfl ?_
   exact zDk (o:=0) rfl rfl (zJ hP) rfl rfl rfl rfl rfl hO
end
theorem zho {v:AV} {H:Heap} {k:Nat} {xs:List AV} (hv:view H k v=some xs):(∀ (n:Int) (i:Nat) (x:AV) (K:AV->Prop),n=(i:Int)->xs[i]?=some x->K (.lref x 0)->idxN k v n K) \/
  (∀ (n:Int) (i:Nat) (x:AV) (K:AV->Prop),n=(i:Int)->xs[i]?=some x->(∀ b j,(∀ o,zy H (.ref b k j o)=some (x.cells,o))->K (.ref b k j 0))->idxN k v n K):=by
 unfold view at hv;split at hv
 ·split at hv
  ·rename_i hk;cases hv;subst hk;exact .inl fun n i x K hn hx q=>zSO hn hx q
  ·grind
 ·refine .inr fun n i x K hn hx q2=>?_;have hlt:=(zl_ hx);rw [zJe];unfold zSE;simp only;split at hv
  ·rename_i hk;subst hk;split at hv
   ·rename_i hb;split at hv
    ·rename_i hc;cases hv;rw [zon,zok] at hlt;rw [zo5,zoQ tO,zo1] at hx;subst hn;rw [hc.1] at hb;refine zBA ⟨rfl,by omega,by omega⟩ (q2 _ _ fun o=>?_);show zy H (.ref _ _ _ _)=_;simp only [zy,hb,zoz,zoq,hx,zoe]
    ·cases hv
   ·rename_i hb;split at hv
    ·rename_i hc;cases hv;rw [zon,zok] at hlt;rw [zo5,zoQ tO,zo1] at hx;subst hn;rw [hc.1] at hb;refine zBA ⟨rfl,by omega,by omega⟩ (q2 _ _ fun o=>?_);show zy H (.ref _ _ _ _)=_;simp only [zy,hb,zoz,zoq,hx,zoe]
    ·cases hv
   ·cases hv
  ·cases hv
 ·cases hv
section
variable {C:CSpec} {GT:zG_}
theorem zeb (hP:∀ s,s.length<=200->s.head?=some 61->RPar C s) (s:Bs) (H:Heap):EFun C GT zG8 [.str s] H (zL (zBV s)) H:=by
 have hp:=hP s;clear hP;refine zH ?_;unfold zBV;by_cases hl:200<s.length
 ·rw [zoQ hl];clear hp;refine sX ?_;exact sRv
 ·rw [zWl hl];cases s with
  |nil=>
   clear hp;refine sX ?_;exact sRv
  |cons c r=>
   have hne:(c::r)≠[]:=by simp
   have h0:(c::r)[0]?=some c:=rfl;by_cases h:c=61
   ·subst h;have hp:=hp tO rfl;rw [zoQ (show (61::r:Bs).head?=some 61 from rfl)];obtain ⟨s,hs⟩:∃ s:Bs,(61::r:Bs)=s:=⟨_,rfl⟩;rw [hs] at hl hp hne h0 ⊢;cases hq:zAj s with
    |some n=>
     have hp:=hp.1 n hq;refine sX ?_;refine zt (zo0.2 hne)<|sX ?_;refine sSA (ndV n) ?_;refine sX ?_
     exact sRv
    |none=>
     obtain ⟨w,e,he,hp⟩:=hp.2 hq H;refine sX ?_;refine zt (zo0.2 hne)<|sX ?_;refine sSA (ndV zU) ?_;refine zt (zo0.2 he) ?_
     exact sRv
   ·rw [zWl (show ¬ (c::r:Bs).head?=some 61 from fun x=>h (zoh x))];clear hp;obtain ⟨s,hs⟩:∃ s:Bs,(c::r:Bs)=s:=⟨_,rfl⟩;rw [hs] at hl hne h0 ⊢;refine sX ?_;refine zt (zo0.2 hne)<|sX ?_;refine zc (tN (fun x=>h (zoi.1 (by have:(61:UInt8).toNat=61:=rfl;omega)))) ?_
    exact sRv
end
structure RefK2 (PR:Program):Prop extends RefK PR where
 parse:zCU PR zBx zDZ=true
 isIn:zCU PR zDW zI2=true
 ahead:zCU PR zBw zGD=true
 text:zCU PR zD4 zG8=true
section
variable {PR:Program} {GT:zG_}
theorem zUk (k:RefK2 PR) (g:BigG PR GT) (s:Bs) (hl:s.length<=200) (h61:s.head?=some 61):RPar (Good PR GT) s:=by
 have h0:s[0]?=some 61:=by rw [<-List.head?_eq_getElem?];exact h61
 have h1:1<=s.length:=by cases s with
  |nil=>cases h61
  |cons c r=>simp
 have lo:=fun b=>(q_all k.toRefK g b s hl (s.length-1) 1 h1 rfl 0 tO).2 1;cases hlo:(P s).loose 1 1 0 with
 |none=>
  have hpp:zAj s=none:=by unfold zAj;rw [zoQ ⟨hl,h61⟩,hlo];rfl
  refine ⟨fun n h=>(by rw [hpp] at h;cases h),fun _ H=>?_⟩;obtain ⟨n,a,w,e,d,h2,h3,h4⟩:=(lo (H++[ABlk.box (ndC zU)]).length).2 hlo;exact ⟨w,e,h2,zF k.hm k.parse (zXy (zIO k.toRefK) s hl h0 n a w e d h3 h2 H h4)⟩
 |some x=>
  obtain ⟨n,e⟩:=x;have hx:=(zCr s).loose 1 1 0 _ h1 hlo;simp only at hx;have hl2:=fun b=>(lo b).1 n e hlo;by_cases hk:tok s e=.fin
  ·have hpp:zAj s=some n:=by unfold zAj;rw [zoQ ⟨hl,h61⟩,hlo];simp only [zmH,hk]
   refine ⟨fun n' h H=>?_,fun h=>by rw [hpp] at h;cases h⟩;rw [hpp] at h;cases h;exact zF k.hm k.parse (za1 (zIO k.toRefK) s hl h0 n e hx.2 hk hl2 H)
  ·have hpp:zAj s=none:=by
    unfold zAj;rw [zoQ ⟨hl,h61⟩,hlo];simp only [zmH]
   refine ⟨fun n h=>(by rw [hpp] at h;cases h),fun _ H=>⟨_,2,by decide,zF k.hm k.parse (zUj (zIO k.toRefK) (zSy k.toRefK) s hl h0 n e hx.2 (fun h=>hk ?_) hl2 H)⟩⟩;cases ht:tok s e <;> rw [ht] at h <;> first|rfl|(simp only [tkK] at h;omega)
theorem q_in (k:RefK2 PR) (c r:Int) (H:Heap):Good PR GT zDW [ze c r] H (.bool (okC c r)) H:=zF k.hm k.isIn (zkQ c r H)
theorem za2 (k:RefK2 PR) (a b:Fil) (H:Heap):Good PR GT zBw [ze a.col a.row,ze b.col b.row] H (.bool (zEb a b)) H:=zF k.hm k.ahead (za0 a b H)
theorem zkR (k:RefK2 PR) (g:BigG PR GT) (s:Bs) (H:Heap):Good PR GT zD4 [.str s] H (zL (zBV s)) H:=zF k.hm k.text (zeb (zUk k g) s H)
end
section
variable {C:CSpec} {GT:zG_}
theorem za3 (hA:∀ c r H,C zDW [ze c r] H (.bool (okC c r)) H) (hL:∀ a b H,C zBw [ze a.col a.row,ze b.col b.row] H (.bool (zEb a b)) H) (hT:∀ s H,C zD4 [.str s] H (zL (zBV s)) H)
  (lv:AV) (l:List Fil) (H:Heap) (hv:view H 3 lv=some (l.map zf)):EFun C GT zGC [lv] H (zL (zDj l)) H:=by
 have hlm:(l.map zf).length=l.length:=zoU _;refine zH ?_;unfold zDj;by_cases hl:200<l.length
 ·rw [zoQ hl];clear hA hL hT;refine zDU hv<|sX ?_
  exact sRv
 rw [zWl hl];obtain ⟨r,hr⟩:∃ r,zGY none l=r:=⟨_,rfl⟩;rw [hr];refine zDU hv<|sX ?_;refine zAr (fun i:Nat=>[(3,zL i),(0,lv)]) (fun i H'=>H'=H/\i<=l.length/\zGY (if i=0 then none else l[i-1]?) (l.drop i)=r) (fun i=>l.length-i) 0 rfl ⟨rfl,by omega,hr⟩ (fun i H1 ⟨hH,hi,hq⟩=>?_)
 subst hH;dsimp only;by_cases hlt:i<l.length
 ·obtain ⟨f,hf⟩:∃ f,l[i]?=some f:=⟨_,zoO hlt⟩;have hfm:(l.map zf)[i]?=some (zf f):=by rw [zoX,hf];rfl
  rw [zMV l i f hf] at hq;have ha:=hA f.col f.row;have ht:=hT f.text;clear hA hT;unfold zUi at hq;rcases zho hv with hx|hx
  ·cases hok:okC f.col f.row with
   |false=>
    rw [hok] at ha hq;have hq:1=r:=hq;subst hq;clear hL ht;refine zDU hv<|sX ?_;refine hx _ i (zf f) _ rfl hfm ?_;refine sX ?_
    exact sRv
   |true=>
    rw [hok] at ha hq;rw [zWl (by simp:¬ (true=false))] at hq;by_cases hi0:i=0
    ·rw [zoQ hi0] at hq;have hq:(if (if f.text=[] then 3 else zBV f.text)=0 then zGY (some f) (l.drop (i+1)) else if f.text=[] then 3 else zBV f.text)=r:=hq;clear hL;by_cases h0:f.text=[]
     ·rw [zoQ h0] at hq;have hq:3=r:=hq;subst hq;clear ht;refine zDU hv<|sX ?_;refine hx _ i (zf f) _ rfl hfm ?_;refine sX ?_;refine hx _ i (zf f) _ rfl hfm ?_;refine z8 (.str f.text) rfl<|zt (tE h0) ?_
      exact sRv
     ·rw [zWl h0] at hq;by_cases hz:zBV f.text=0
      ·rw [zoQ hz] at hq;rw [hz] at ht;refine zDU hv<|sX ?_;refine hx _ i (zf f) _ rfl hfm ?_;refine sX ?_;refine hx _ i (zf f) _ rfl hfm ?_;refine z8 (.str f.text) rfl<|zc (tN h0) ?_;refine hx _ i (zf f) _ rfl hfm ?_;refine sX ?_;refine zQ (r:=i+1) rfl tO ?_;refine zAJ (i+1) rfl ⟨rfl,by omega, ?_⟩ tO
       rw [zWl tO,zmT,hf];exact hq
      ·rw [zWl hz] at hq;subst hq;refine zDU hv<|sX ?_;refine hx _ i (zf f) _ rfl hfm ?_;refine sX ?_;refine hx _ i (zf f) _ rfl hfm ?_;refine z8 (.str f.text) rfl<|zc (tN h0) ?_;refine hx _ i (zf f) _ rfl hfm ?_;refine sX ?_;refine zt (zo0.2 tO) ?_
       exact sRv
    ·obtain ⟨g,hg⟩:∃ g,l[i-1]?=some g:=⟨_,zoO tO⟩;have hgm:(l.map zf)[i-1]?=some (zf g):=by rw [zoX,hg];rfl
     rw [zWl hi0,hg] at hq;have hq:(if (if zEb g f=false then 5 else if f.text=[] then 3 else zBV f.text)=0 then zGY (some f) (l.drop (i+1)) else if zEb g f=false then 5 else if f.text=[] then 3 else zBV f.text)=r:=hq;have hls:=hL g f;clear hL;cases hlp:zEb g f with
     |false=>
      rw [hlp] at hls hq;have hq:5=r:=hq;subst hq;clear ht;refine zDU hv<|sX ?_;refine hx _ i (zf f) _ rfl hfm ?_;refine sX ?_;refine zQ (r:=i-1) tO tO ?_;refine hx _ (i-1) (zf g) _ tO hgm ?_;refine sX ?_;refine hx _ i (zf f) _ rfl hfm ?_;refine sX ?_
      exact sRv
     |true=>
      rw [hlp] at hls hq;rw [zWl (by simp:¬ (true=false))] at hq;by_cases h0:f.text=[]
      ·rw [zoQ h0] at hq;have hq:3=r:=hq;subst hq;clear ht;refine zDU hv<|sX ?_;refine hx _ i (zf f) _ rfl hfm ?_;refine sX ?_;refine zQ (r:=i-1) tO tO ?_;refine hx _ (i-1) (zf g) _ tO hgm ?_;refine sX ?_;refine hx _ i (zf f) _ rfl hfm ?_;refine sX ?_;refine hx _ i (zf f) _ rfl hfm ?_;refine z8 (.str f.text) rfl<|zt (tE h0) ?_
       exact sRv
      ·rw [zWl h0] at hq;by_cases hz:zBV f.text=0
       ·rw [zoQ hz] at hq;rw [hz] at ht;refine zDU hv<|sX ?_;refine hx _ i (zf f) _ rfl hfm ?_;refine sX ?_;refine zQ (r:=i-1) tO tO ?_;refine hx _ (i-1) (zf g) _ tO hgm ?_;refine sX ?_;refine hx _ i (zf f) _ rfl hfm ?_;refine sX ?_;refine hx _ i (zf f) _ rfl hfm ?_;refine z8 (.str f.text) rfl<|zc (tN h0) ?_;refine hx _ i (zf f) _ rfl hfm ?_;refine sX ?_;refine zQ (r:=i+1) rfl tO ?_;refine zAJ (i+1) rfl ⟨rfl,by omega, ?_⟩ tO
        rw [zWl tO,zmT,hf];exact hq
       ·rw [zWl hz] at hq;subst hq;refine zDU hv<|sX ?_;refine hx _ i (zf f) _ rfl hfm ?_;refine sX ?_;refine zQ (r:=i-1) tO tO ?_;refine hx _ (i-1) (zf g) _ tO hgm ?_;refine sX ?_;refine hx _ i (zf f) _ rfl hfm ?_;refine sX ?_;refine hx _ i (zf f) _ rfl hfm ?_;refine z8 (.str f.text) rfl<|zc (tN h0) ?_;refine hx _ i (zf f) _ rfl hfm ?_;refine sX ?_;refine zt (zo0.2 tO) ?_
        exact sRv
  ·cases hok:okC f.col f.row with
   |false=>
    rw [hok] at ha hq;have hq:1=r:=hq;subst hq;clear hL ht;refine zDU hv<|sX ?_;refine hx _ i (zf f) _ rfl hfm (fun b2 j2 hp2=>?_)
    refine zAe (ze f.col f.row) (hp2 _) rfl<|zI (ha _)<|sW ?_
    exact sRr
   |true=>
    rw [hok] at ha hq;rw [zWl (by simp:¬ (true=false))] at hq;by_cases hi0:i=0
    ·rw [zoQ hi0] at hq;have hq:(if (if f.text=[] then 3 else zBV f.text)=0 then zGY (some f) (l.drop (i+1)) else if f.text=[] then 3 else zBV f.text)=r:=hq;clear hL;by_cases h0:f.text=[]
     ·rw [zoQ h0] at hq;have hq:3=r:=hq;subst hq;clear ht;refine zDU hv<|sX ?_;refine hx _ i (zf f) _ rfl hfm (fun b2 j2 hp2=>?_)
      refine zAe (ze f.col f.row) (hp2 _) rfl<|sX ?_;refine hx _ i (zf f) _ rfl hfm (fun b2 j2 hp2=>?_)
      refine zAe (.str f.text) (hp2 _) rfl<|zt (tE h0) ?_
      exact sRv
     ·rw [zWl h0] at hq;by_cases hz:zBV f.text=0
      ·rw [zoQ hz] at hq;rw [hz] at ht;refine zDU hv<|sX ?_;refine hx _ i (zf f) _ rfl hfm (fun b2 j2 hp2=>?_)
       refine zAe (ze f.col f.row) (hp2 _) rfl<|zI (ha _)<|zC<|zc tF<|zC<|zC ?_;refine hx _ i (zf f) _ rfl hfm (fun b2 j2 hp2=>?_)
       refine zAe (.str f.text) (hp2 _) rfl<|zc (tN h0) ?_;refine hx _ i (zf f) _ rfl hfm (fun b2 j2 hp2=>?_)
       refine zAe (.str f.text) (hp2 _) rfl<|zI (ht _)<|zC<|zQ (r:=i+1) rfl tO ?_;refine zAJ (i+1) rfl ⟨rfl,by omega, ?_⟩ tO
       rw [zWl tO,zmT,hf];exact hq
      ·rw [zWl hz] at hq;subst hq;refine zDU hv<|zt tT ?_;refine hx _ i (zf f) _ rfl hfm (fun b2 j2 hp2=>?_)
       refine zAe (ze f.col f.row) (hp2 _) rfl<|zI (ha _)<|zC<|zc tF<|zC<|zC ?_;refine hx _ i (zf f) _ rfl hfm (fun b2 j2 hp2=>?_)
       refine zAe (.str f.text) (hp2 _) rfl<|zc (tN h0) ?_;refine hx _ i (zf f) _ rfl hfm (fun b2 j2 hp2=>?_)
       refine zAe (.str f.text) (hp2 _) rfl<|zI (ht _)<|zt (zo0.2 tO) ?_
       exact sRr
    ·obtain ⟨g,hg⟩:∃ g,l[i-1]?=some g:=⟨_,zoO tO⟩;have hgm:(l.map zf)[i-1]?=some (zf g):=by rw [zoX,hg];rfl
     rw [zWl hi0,hg] at hq;have hq:(if (if zEb g f=false then 5 else if f.text=[] then 3 else zBV f.text)=0 then zGY (some f) (l.drop (i+1)) else if zEb g f=false then 5 else if f.text=[] then 3 else zBV f.text)=r:=hq;have hls:=hL g f;clear hL;cases hlp:zEb g f with
     |false=>
      rw [hlp] at hls hq;have hq:5=r:=hq;subst hq;clear ht;refine zDU hv<|zt tT ?_;refine hx _ i (zf f) _ rfl hfm (fun b2 j2 hp2=>?_)
      refine zAe (ze f.col f.row) (hp2 _) rfl<|zI (ha _)<|zC<|zt tT<|zQ (r:=i-1) tO tO ?_;refine hx _ (i-1) (zf g) _ tO hgm (fun b2 j2 hp2=>?_)
      refine zAe (ze g.col g.row) (hp2 _) rfl ?_;refine hx _ i (zf f) _ rfl hfm (fun b2 j2 hp2=>?_);refine zAe (ze f.col f.row) (hp2 _) rfl<|zI (hls _)<|zD<|zD ?_
      exact sRr
     |true=>
      rw [hlp] at hls hq;rw [zWl (by simp:¬ (true=false))] at hq;by_cases h0:f.text=[]
      ·rw [zoQ h0] at hq;have hq:3=r:=hq;subst hq;clear ht;refine zDU hv<|sW ?_;refine hx _ i (zf f) _ rfl hfm (fun b2 j2 hp2=>?_)
       refine zAe (ze f.col f.row) (hp2 _) rfl<|zI (ha _)<|zC<|zt tT<|zQ (r:=i-1) tO tO ?_;refine hx _ (i-1) (zf g) _ tO hgm (fun b2 j2 hp2=>?_)
       refine zAe (ze g.col g.row) (hp2 _) rfl ?_;refine hx _ i (zf f) _ rfl hfm (fun b2 j2 hp2=>?_);refine zAe (ze f.col f.row) (hp2 _) rfl<|zI (hls _)<|zD<|zC ?_;refine hx _ i (zf f) _ rfl hfm (fun b2 j2 hp2=>?_)
       refine zAe (.str f.text) (hp2 _) rfl<|zt (tE h0) ?_
       exact sRr
      ·rw [zWl h0] at hq;by_cases hz:zBV f.text=0
       ·rw [zoQ hz] at hq;rw [hz] at ht;refine zDU hv<|sX ?_;refine hx _ i (zf f) _ rfl hfm (fun b2 j2 hp2=>?_)
        refine zAe (ze f.col f.row) (hp2 _) rfl<|zI (ha _)<|zC<|zt tT<|zQ (r:=i-1) tO tO ?_;refine hx _ (i-1) (zf g) _ tO hgm (fun b2 j2 hp2=>?_)
        refine zAe (ze g.col g.row) (hp2 _) rfl ?_;refine hx _ i (zf f) _ rfl hfm (fun b2 j2 hp2=>?_);refine zAe (ze f.col f.row) (hp2 _) rfl<|zI (hls _)<|zD<|zC ?_;refine hx _ i (zf f) _ rfl hfm (fun b2 j2 hp2=>?_)
        refine zAe (.str f.text) (hp2 _) rfl<|zc (tN h0) ?_;refine hx _ i (zf f) _ rfl hfm (fun b2 j2 hp2=>?_)
        refine zAe (.str f.text) (hp2 _) rfl<|zI (ht _)<|zC<|zQ (r:=i+1) rfl tO ?_;refine zAJ (i+1) rfl ⟨rfl,by omega, ?_⟩ tO
        rw [zWl tO,zmT,hf];exact hq
       ·rw [zWl hz] at hq;subst hq;refine zDU hv<|zt tT ?_;refine hx _ i (zf f) _ rfl hfm (fun b2 j2 hp2=>?_)
        refine zAe (ze f.col f.row) (hp2 _) rfl<|zI (ha _)<|zC<|zt tT<|zQ (r:=i-1) tO tO ?_;refine hx _ (i-1) (zf g) _ tO hgm (fun b2 j2 hp2=>?_)
        refine zAe (ze g.col g.row) (hp2 _) rfl ?_;refine hx _ i (zf f) _ rfl hfm (fun b2 j2 hp2=>?_);refine zAe (ze f.col f.row) (hp2 _) rfl<|zI (hls _)<|zD<|zC ?_;refine hx _ i (zf f) _ rfl hfm (fun b2 j2 hp2=>?_)
        refine zAe (.str f.text) (hp2 _) rfl<|zc (tN h0) ?_;refine hx _ i (zf f) _ rfl hfm (fun b2 j2 hp2=>?_)
        refine zAe (.str f.text) (hp2 _) rfl<|zI (ht _)<|zt (zo0.2 tO) ?_
        exact sRr
 ·have hd:l.drop i=[]:=zmM tO;rw [hd] at hq;have hq:0=r:=hq;subst hq;clear hA hL hT;refine zDU hv<|zc tF ?_
  exact sRr
end
structure RefK3 (PR:Program):Prop extends RefK2 PR where
 check:zCU PR zCY zGC=true
section
variable {PR:Program} {GT:zG_}
theorem zhp (k:RefK3 PR) (g:BigG PR GT) (lv:AV) (l:List Fil) (H:Heap) (hv:view H 3 lv=some (l.map zf)):Good PR GT zCY [lv] H (zL (zDj l)) H:=zF k.hm k.check (za3 (q_in k.toRefK2) (za2 k.toRefK2) (zkR k.toRefK2 g) lv l H hv)
end
end Go.AM
namespace Go.Proofs.YtmfmhljpddpfnaaGreatDoor
open Go.AM
theorem parK:ParK Tryz.prog:={ hm:=mixed,contains:=(kA 146),mkSet:=(kA 132),trimR:=(kA 134),trimL:=(kA 133),trim:=(kA 116),slPre:=(kA 92),pre:=(kA 63),slTrim:=(kA 156),trimP:=(kA 153),wrong:=(kA 101),is:=(kA 100),whole:=(kA 144),lit:=(kA 126),ref:=(kA 145),dollar:=(kA 154),wordly:=(kA 127),called:=(kA 96),plain:=(kA 131),opOf:=(kA 94),fail:=(kA 65),blanks:=(kA 67),word:=(kA 128),want:=(kA 124),within:=(kA 113),text:=(kA 125),neg:=(kA 93),negc:=(kA 114),prim:=(kA 115),prim1:=(kA 123),prim2:=(kA 129),call:=(kA 130),argument:=(kA 143),two:=(kA 66) }
theorem za4:ParK2 Tryz.prog:={ parK with const:=(kA 44),parse:=(kA 45),clos:=(kA 64),dfr:=by kernel_rfl,rcv:=by kernel_rfl }
theorem zix:RefK Tryz.prog:={ hm:=mixed,wordly:=(kA 79),wrongs:=(kA 80),bad:=(kA 86),named:=(kA 110),token:=(kA 54),called:=(kA 82),whole:=(kA 108),ref:=(kA 109),sign:=(kA 77),tight:=(kA 78),fail:=(kA 55),deeper:=(kA 106),close:=(kA 111),one:=(kA 76),call:=(kA 107),loose:=(kA 53) }
theorem za5:RefK2 Tryz.prog:={ zix with parse:=(kA 35),isIn:=(kA 22),ahead:=(kA 23),text:=(kA 24) }
theorem refK3:RefK3 Tryz.prog:={ za5 with check:=(kA 7) }
section
variable {m:Int} {ev:Value}
theorem parG (hev:∃ te pe,ev=.iface te pe):ParG Tryz.prog (gtQ m ev):={ atoi:=zhI,atoi2:=zd4 hev,texts:=rfl,loose:=rfl }
end
section
variable {GT:zG_}
theorem zSz (b m:Nat) (ws:List Nat) (H:Heap) (hm:ws.length=m) (hb:H[b]?=some (.row 1 (ws.map zBU))) (hw:Small ws) (hl:m<=1000000):Go.AM.Good Tryz.prog GT zA2 [.sl (some false) b 1 0 m] H (.sl (some false) b 1 0 (wds (wval ws)).length) H:=
 zF mixed (kA 147) (zhU b m ws H hm hb hw hl)
theorem zhq (x:Nat) (H:Heap) (hx:x<18446744073709551616):Go.AM.Good Tryz.prog GT zCV [zRr x] H (zFL x) H:=zF mixed (kA 141) (zeB zSz x hx H)
theorem zkS (av bv:AV) (x y:Nat) (H:Heap) (ha:Mag av x) (hb:Mag bv y) (h1:(wds x).length<=100000) (h2:(wds y).length<=100000):Go.AM.Good Tryz.prog GT zDN [av,bv] H (zFL (x+y)) H:=
 zF mixed (kA 148) (zkD zSz av bv x y H ha hb h1 h2)
theorem zkT (av bv:AV) (x y:Nat) (H:Heap) (ha:Mag av x) (hb:Mag bv y) (h:y<=x) (h1:(wds x).length<=100000):Go.AM.Good Tryz.prog GT zDP [av,bv] H (zFL (x-y)) H:=
 zF mixed (kA 150) (zkE zSz av bv x y _ H ha hb h rfl h1)
theorem zkU (av bv:AV) (x y:Nat) (H:Heap) (ha:Mag av x) (hb:Mag bv y) (h1:(wds x).length<=100000) (h2:(wds y).length<=100000):Go.AM.Good Tryz.prog GT zDO [av,bv] H (zK (zXm x y)) H:=
 zF mixed (kA 149) (zhX av bv x y H ha hb h1 h2)
theorem zkV (av bv:AV) (xn yn:Bool) (x y:Nat) (H:Heap) (ha:Mag av x) (hb:Mag bv y) (h1:(wds x).length<=100000) (h2:(wds y).length<=100000) :
  Go.AM.Good Tryz.prog GT zDM [.bool xn,av,.bool yn,bv] H (.tup [.bool (zeC xn x yn y).1,zFL (zeC xn x yn y).2]) H:=zF mixed (kA 137) (zhY zkS zkT zkU av bv xn yn x y H ha hb h1 h2)
theorem g_bit (av:AV) (m i:Nat) (H:Heap) (ha:Mag av m) (hl:(wds m).length<=100000) (hi:i<=1000000):Go.AM.Good Tryz.prog GT zDQ [av,zK i] H (zRr (m/2^i%2)) H:=zF mixed (kA 155) (zkG av m i H ha hl hi)
theorem g_tzb (b m n:Nat) (x av:AV) (H:Heap) (hb:H[b]?=some (.box [x,av])) (ha:Mag av m) (h0:m≠0) (hl:(wds m).length<=100) (hn:n<=10000) (h1:m%2^n=0) (h2:m/2^n%2=1) :
  Go.AM.Good Tryz.prog GT zAS [.ref b 0 0 0] H (zRr n) H:=zF mixed (kA 152) (zkH g_bit b m n x av H hb ha h0 hl hn h1 h2)
theorem zkW (av:AV) (m:Nat) (H:Heap) (ha:Mag av m) (hl:(wds m).length<=1000):Go.AM.Good Tryz.prog GT zCH [av] H (zL (Go.AM.bits m)) H:=zF mixed (kA 151) (zaQ av m H ha hl)
theorem zec (b m:Nat) (x av:AV) (H:Heap) (hb:H[b]?=some (.box [x,av])) (ha:Mag av m) (hm:m<18446744073709551616):Go.AM.Good Tryz.prog GT zBN [.ref b 0 0 0] H (zRr m) H:=
 zF mixed (kA 140) (zaR b m x av H hb ha hm)
theorem zhr (b:Nat) (v:Int) (H:Heap) (hb:H[b]?=some (.box (zF2 v))) (hv:zDi v):Go.AM.Good Tryz.prog GT zAs [.ref b 0 0 0] H (zK v) H:=zF mixed (kA 120) (zeF zec b v H hb hv)
theorem za6 (b:Nat) (v:Int) (H:Heap) (hb:H[b]?=some (.box (zF2 v))) (hv:(wds v.natAbs).length<=100):Go.AM.Good Tryz.prog GT zBG [.ref b 0 0 0] H (.bool (decide (zDi v))) H:=
 zF mixed (kA 139) (zXn zkW g_tzb b v H hb hv)
theorem zgD (b n:Nat) (neg:Bool) (x0 x1:AV) (H:Heap) (hb:H[b]?=some (.box [x0,x1])):Go.AM.Good Tryz.prog GT zAN [.ref b 0 0 0,.bool neg,zFL n] H (.ref b 0 0 0) (H.set b (.box [.bool (neg&&decide (0<n)),zFL n])):=
 zF mixed (kA 135) (zhV b n neg x0 x1 H hb)
theorem zXz (b:Nat) (v:Int) (x0 x1:AV) (H:Heap) (hb:H[b]?=some (.box [x0,x1])) (hv:zDi v):Go.AM.Good Tryz.prog GT zA9 [.ref b 0 0 0,zK v] H (.ref b 0 0 0) (H.set b (.box (zF2 v))):=
 zF mixed (kA 121) (zUc zhq zgD b v x0 x1 H hb hv)
theorem zed:zCU Tryz.prog zA4 zVn=true:=by kernel_rfl
theorem zWB (v:Int) (H:Heap) (hv:zDi v):Go.AM.Good Tryz.prog GT zA4 [zK v] H (.ref H.length 0 0 0) (H++[.box (zF2 v)]):=zF mixed zed (zaL zXz v H hv)
theorem zkX (b:Nat) (v:Int) (H:Heap) (hb:H[b]?=some (.box (zF2 v))) (hv:(wds v.natAbs).length<=100):Go.AM.Good Tryz.prog GT zD8 [.ref b 0 0 0] H (.bool (decide (zDi v))) H:=zF mixed (kA 119) (zhZ za6 b v H hb hv)
theorem zhs (b:Nat) (xs:List AV) (nv x0 x1:AV) (H:Heap) (hb:H[b]?=some (.box [x0,x1])) (hv:zCS nv 1 xs):Go.AM.Good Tryz.prog GT zAN [.ref b 0 0 0,.bool false,nv] H (.ref b 0 0 0) (H.set b (.box [.bool false,nv])):=
 zF mixed (kA 135) (zeK b xs nv x0 x1 H hb hv) (hn:=by obtain ⟨q,k',rfl,_⟩:=hv;rfl)
theorem zht (av:AV) (x:Nat) (H:Heap) (ha:Mag av x) (hl:(wds x).length<=100000):Go.AM.Good Tryz.prog GT zDL [av,zFL 10] H (zXo x) H:=zF mixed (kA 136) (zeJ zSz av x _ H ha rfl hl)
theorem zee (b t v:Nat) (av:AV) (H:Heap) (hb:H[b]?=some (.box [.bool false,av])) (ht:H[t]?=some (.box (zF2 10))) (ha:Mag av v) (hl:(wds v).length<=1000):Go.AM.Good Tryz.prog GT zBD [.ref b 0 0 0,.ref b 0 0 0,.ref t 0 0 0] H (.ref b 0 0 0) (H.set b (.box [.bool false,zXo v])):=
 zF mixed (kA 117) (zaS zht zhs b t v av H hb ht ha hl)
theorem za7 (b t v d:Nat) (av:AV) (H:Heap) (hb:H[b]?=some (.box [.bool false,av])) (ht:H[t]?=some (.box (zF2 d))) (ha:Mag av v) (hl:(wds v).length<=1000) (hd:(wds d).length<=1000):Go.AM.Good Tryz.prog GT zBE [.ref b 0 0 0,.ref b 0 0 0,.ref t 0 0 0] H (.ref b 0 0 0) (H.set b (.box (zF2 ((v+d:Nat):Int)))):=
 zF mixed (kA 118) (zXp zkV zgD b t v d av H hb ht ha hl hd)
theorem bigG:BigG Tryz.prog GT:={ new:=fun v H h=>zWB v H h,mul:=fun b t v av H h1 h2 h3 h4=>zee b t v av H h1 h2 h3 h4,add:=fun b t v d av H h1 h2 h3 h4 h5=>za7 b t v d av H h1 h2 h3 h4 h5,fit:=fun b v H h1 h2=>zkX b v H h1 h2,i64:=fun b v H h1 h2=>zhr b v H h1 h2 }
theorem zef (c r:Int) (H:Heap):Go.AM.Good Tryz.prog GT zFS [ze c r] H (.bool (okC c r)) H:=zF mixed (kA 34) (zkN c r H)
theorem zRU (c r:Int) (H:Heap):Go.AM.Good Tryz.prog GT zAg [ze c r] H (if okC c r=true then .nili else zFo 1) H:=zF mixed (kA 28) (zax zef c r H)
theorem g_nan (a:Int) (H:Heap):Go.AM.Good Tryz.prog GT zEH [zK a] H (.bool false) H:=zF mixed (kA 91) (zkO a H)
theorem zkY (a b:Int) (H:Heap):Go.AM.Good Tryz.prog GT zDJ [zK a,zK b] H (zK (zWA a b)) H:=zF mixed (kA 62) (zhn g_nan a b H)
theorem g_cor (b:Nat) (x y:Int) (H:Heap) (hb:H[b]?=some (.row 1 [zK x,zK y])):Go.AM.Good Tryz.prog GT zFv [.sl (some false) b 1 0 2] H (zK (if x≠0 then x else y)) H:=zF mixed (kA 61) (zkP b x y H hb)
theorem za8 (c1 r1 c2 r2:Int) (H:Heap):Go.AM.Good Tryz.prog GT zD5 [ze c1 r1,ze c2 r2] H (zK (zQJ c1 r1 c2 r2)) H:=zF mixed (kA 42) (zeY zkY g_cor c1 r1 c2 r2 H)
theorem zhu (a b:Fil) (H:Heap):Go.AM.Good Tryz.prog GT zH1 [ze a.col a.row,ze b.col b.row] H (.bool (zEb a b)) H:=zF mixed (kA 29) (zeZ za8 a b H)
theorem zX0 (H:Heap):Go.AM.Good Tryz.prog GT zEY [.nili] H (.int .i64 0) H:=zF mixed (kA 33) (zUQ H)
end
section
variable {m:Int} {ev:Value} (hev:∃ te pe,ev=.iface te pe)
abbrev GQ (m:Int) (ev:Value):CSpec:=Go.AM.Good Tryz.prog (gtQ m ev)
include hev in
theorem zkZ (s:Bs) (H:Heap):GQ m ev zCo [.str s] H (eV (zBV s)) H:=zF mixed (kA 30) (zea (zUX za4) (zUY za4 (parG hev)) s H)
include hev in
theorem zhv (lv:AV) (l:List Fil) (H:Heap) (hv:view H 3 lv=some (l.map zf)):GQ m ev zEe [lv] H (eV (zDj l)) H:=zF mixed (kA 10) (zay zRU zhu (zkZ hev) lv l H hv)
theorem zeg (lv:AV) (l:List Fil) (H:Heap) (hv:view H 3 lv=some (l.map zf)):GQ m ev zCY [lv] H (zL (zDj l)) H:=zhp refK3 bigG lv l H hv
theorem zX1 (n:Int) (H:Heap):GQ m ev zEY [zFo n] H (.int .i64 n) H:=zF mixed (kA 33) (zUR (fun n old b H hb=>zhB n old b H hb) n H)
theorem zka (n:Nat) (H:Heap):GQ m ev zEf [eV n,zL n] H (.bool true) H:=by
 have h:zjm (eV n) n:=by
  unfold eV;by_cases h0:n=0
  ·rw [zoQ h0];exact .inl ⟨rfl,by omega⟩
  ·rw [zWl h0];exact .inr rfl
 have:=zF (GT:=gtQ m ev) mixed (kA 13) (zhC zX0 zX1 (eV n) n n h H) (hn:=by rcases h with ⟨h,_⟩|h <;> rw [h] <;> rfl)
 rwa [show ((n:Int)==(n:Int))=true from beq_self_eq_true _] at this
end
end Go.Proofs.YtmfmhljpddpfnaaGreatDoor
