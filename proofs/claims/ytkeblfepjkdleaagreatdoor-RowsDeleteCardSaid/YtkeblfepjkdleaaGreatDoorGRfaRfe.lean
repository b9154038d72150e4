/- Several texts of mine in one (Rfa, Rfb, Rfc, Rfd, Rfe). Own work. -/
import Derived.Test.YtkeblfepjkdleaaGreatDoorGAm30Fp1
import Derived.Test.YtkeblfepjkdleaaGreatDoorGRf6Rf9
set_option maxRecDepth 20000
set_option linter.all false
namespace Go.AM
abbrev caI:AC:=(AC.rest zB1).body
abbrev caR1:AC:=caI.first
abbrev caR2:AC:=caI.rest.first
abbrev caR3:AC:=caI.rest.rest.first
abbrev caA:AC:=caI.rest.rest.rest.first
abbrev caT:AC:=caI.rest.rest.rest.rest
section
variable {C:CSpec} {GT:zG_}
theorem zHe {L:List Nat} {d:Bool} {ops:List AI} {c1 c2:AC} {K:Post} {fr fr2:Fr} {H:Heap} (h:zT fr L=zT fr2 L) (x:EW C GT (.seq (.seq (.reg L d ops) c1) c2) K fr2 H):EW C GT (.seq (.seq (.reg L d ops) c1) c2) K fr H:=by
  have x:EWops C GT ops [] (zT fr2 L) H (fun fr' H'=>zXv (EW C GT c1 (zXv (EW C GT c2 K) K)) (zXv (EW C GT c2 K) K) .normal fr' H'):=x;rw [<-h] at x;exact x
theorem zQS {L:List Nat} {d:Bool} {ops:List AI} {c2:AC} {K:Post} {fr fr2:Fr} {H:Heap} (h:zT fr L=zT fr2 L) (x:EW C GT (.seq (.reg L d ops) c2) K fr2 H):EW C GT (.seq (.reg L d ops) c2) K fr H:=by
  have x:EWops C GT ops [] (zT fr2 L) H (fun fr' H'=>zXv (EW C GT c2 K) K .normal fr' H'):=x;rw [<-h] at x;exact x
theorem ziD (T:AC) (K:Post) (b n4 n5 n6:Nat) (s:Bs) (a d:Nat) (kk q e:Nat) (t:Bs) (rv:List AV) (ok:Bool) (H:Heap) (c6:List AV) (hc6:c6.length=4) (c0 c1 c2 c3:AV) (hc6':c6=[c0,c1,c2,c3])
    (hb:H[b]?=some (rP s a d)) (h6:H[n6]?=some (.box c6)) (hbn:b≠n6)
    (htk:∀ H,C zY [.str s,zK a] H (kV kk q e t) H) (hr:∀ H,C zm [.str t] H (.tup [.agg rv,.bool ok]) H) (r0 r1 r2 r3:AV) (hrv:rv=[r0,r1,r2,r3]) (hro:(AV.agg rv).cells.all AV.one=true)
    (h:∀ fr' H' n7 n9,zT fr' [6,0,4,5,9,7,8]=[(6,pR n6),(0,pR b),(4,pR n4),(5,pR n5),(9,pR n9),(7,pR n7),(8,.bool ok)]->H'=((((H.set n6 (ABlk.box [zK kk,zK q,zK e,.str t]))++[ABlk.box zP]).set n7 (.box rv))++[ABlk.box (ndC zZ)])->n7=H.length->n9=H.length+1->EW C GT T K fr' H') :
    EW C GT (.seq caR1 (.seq caR2 (.seq caR3 T))) K [(6,pR n6),(0,pR b),(4,pR n4),(5,pR n5)] H:=by
  subst hc6' hrv;have hl6:=(zl_ h6);refine sW ?_;refine sS (kV kk q e t) [zK kk,zK q,zK e,.str t] ?_;refine sW ?_;refine zL (v:=.agg [r0,r1,r2,r3]) [r0,r1,r2,r3] zB rfl hro rfl rfl ?_;exact h _ _ _ _ rfl rfl zS_ zS_
def Kp (H H':Heap) (b n9:Nat):Prop:=(∀ c x,H[c]?=some x->c≠b->c≠n9->H'[c]?=some x)/\H.length<=H'.length
section
variable (T:AC) (K:Post) (b n4 n5 n6 n7 n9:Nat) (ok:Bool) (s:Bs) (p D kk q e:Nat) (t:Bs) (H:Heap) (fr:Fr) (hfr:zT fr [6,0,4,5,9,7,8]=[(6,pR n6),(0,pR b),(4,pR n4),(5,pR n5),(9,pR n9),(7,pR n7),(8,.bool ok)]) (hb:H[b]?=some (rP s p D)) (h6:H[n6]?=some (.box [zK kk,zK q,zK e,.str t])) (h9:H[n9]?=some (.box (ndC zZ))) (hb9:b≠n9) (h69:n6≠n9) (hb6:b≠n6) (hel:e<=s.length) (hl:s.length<=200)
include T K b n4 n5 n6 n7 n9 ok s p D kk q e t H fr hfr hb h6 h9 hb9 h69 hb6 hel hl
section
variable (m:Nd) (B:ABlk) (hlo:∀ H,H[b]?=some (rP s p D)->C zX [pR b,.int .i64 1] H (ndV m) (H.set b B))
include m B hlo
theorem zbm
 (h1:kk≠1)
    (h:∀ fr' H',zT fr' [6,0,4,5,9]=[(6,pR n6),(0,pR b),(4,pR n4),(5,pR n5),(9,pR n9)]->H'[b]?=some B->H'[n9]?=some (.box (ndC m))->Kp H H' b n9->EW C GT T K fr' H') :
    EW C GT (.seq caA T) K fr H:=by
  refine zHe (fr2:=[(6,pR n6),(0,pR b),(4,pR n4),(5,pR n5),(9,pR n9),(7,pR n7),(8,.bool ok)]) hfr ?_;have hl9:=(zl_ h9);have hl6:=(zl_ h6);have hbl:=(zl_ hb);refine sW ?_;refine sSA (ndV m) ?_;exact h _ _ rfl hP hP ⟨(fun c x hc g1 g2=>by have hcl:=(zl_ hc);repeat' (first|exact hc|refine zD ?_|refine zC (by first|exact zl7 g1|exact zl7 g2|omega|(simp only [zlP,zlH,zlE,zlL];omega)|(simp;omega)) ?_)),tC⟩
theorem ziE
 (h1:kk=1) (ho:ok=false)
    (h:∀ fr' H',zT fr' [6,0,4,5,9]=[(6,pR n6),(0,pR b),(4,pR n4),(5,pR n5),(9,pR n9)]->H'[b]?=some B->H'[n9]?=some (.box (ndC m))->Kp H H' b n9->EW C GT T K fr' H') :
    EW C GT (.seq caA T) K fr H:=by
  refine zHe (fr2:=[(6,pR n6),(0,pR b),(4,pR n4),(5,pR n5),(9,pR n9),(7,pR n7),(8,.bool ok)]) hfr ?_;have hl9:=(zl_ h9);have hl6:=(zl_ h6);have hbl:=(zl_ hb);subst ho;refine sW ?_;refine sSA (ndV m) ?_;exact h _ _ rfl hP hP ⟨(fun c x hc g1 g2=>by have hcl:=(zl_ hc);repeat' (first|exact hc|refine zD ?_|refine zC (by first|exact zl7 g1|exact zl7 g2|omega|(simp only [zlP,zlH,zlE,zlL];omega)|(simp;omega)) ?_)),tC⟩
theorem ziF
 (h1:kk=1) (ho:ok=true) (hle:s.length<=e)
    (h:∀ fr' H',zT fr' [6,0,4,5,9]=[(6,pR n6),(0,pR b),(4,pR n4),(5,pR n5),(9,pR n9)]->H'[b]?=some B->H'[n9]?=some (.box (ndC m))->Kp H H' b n9->EW C GT T K fr' H') :
    EW C GT (.seq caA T) K fr H:=by
  refine zHe (fr2:=[(6,pR n6),(0,pR b),(4,pR n4),(5,pR n5),(9,pR n9),(7,pR n7),(8,.bool ok)]) hfr ?_;have hl9:=(zl_ h9);have hl6:=(zl_ h6);have hbl:=(zl_ hb);subst ho;refine sW ?_;refine sSA (ndV m) ?_;exact h _ _ rfl hP hP ⟨(fun c x hc g1 g2=>by have hcl:=(zl_ hc);repeat' (first|exact hc|refine zD ?_|refine zC (by first|exact zl7 g1|exact zl7 g2|omega|(simp only [zlP,zlH,zlE,zlL];omega)|(simp;omega)) ?_)),tC⟩
theorem ziG
 (h1:kk=1) (ho:ok=true) (c:UInt8) (hc:s[e]?=some c) (hc58:c.toNat≠58)
    (h:∀ fr' H',zT fr' [6,0,4,5,9]=[(6,pR n6),(0,pR b),(4,pR n4),(5,pR n5),(9,pR n9)]->H'[b]?=some B->H'[n9]?=some (.box (ndC m))->Kp H H' b n9->EW C GT T K fr' H') :
    EW C GT (.seq caA T) K fr H:=by
  refine zHe (fr2:=[(6,pR n6),(0,pR b),(4,pR n4),(5,pR n5),(9,pR n9),(7,pR n7),(8,.bool ok)]) hfr ?_;have hl9:=(zl_ h9);have hl6:=(zl_ h6);have hbl:=(zl_ hb);subst ho;have hce:=(zl_ hc);refine sW ?_;refine sSA (ndV m) ?_;exact h _ _ rfl hP hP ⟨(fun c x hc g1 g2=>by have hcl:=(zl_ hc);repeat' (first|exact hc|refine zD ?_|refine zC (by first|exact zl7 g1|exact zl7 g2|omega|(simp only [zlP,zlH,zlE,zlL];omega)|(simp;omega)) ?_)),tC⟩
end
section
variable (r1 r2:RefP) (h7:H[n7]?=some (.box [zH r1.col,zH r1.row,.bool r1.fc,.bool r1.fr])) (hn79:n7≠n9) (hn7b:n7≠b) (kk2 q2 e2:Nat) (t2:Bs) (htk:∀ H,C zY [.str s,zK (e+1)] H (kV kk2 q2 e2 t2) H)
include r1 r2 h7 hn79 hn7b kk2 q2 e2 t2 htk
theorem ze5
 (hr:∀ H,C zm [.str t2] H (.tup [.agg [zH r2.col,zH r2.row,.bool r2.fc,.bool r2.fr],.bool true]) H) (hq2:q2=e+1) (hk2:kk2=1)
    (h1:kk=1) (ho:ok=true) (hc:s[e]?=some 58) (m:Nd) (hm:m=zA2 r1 r2) (B:ABlk) (hB:B=rP s e2 D)
    (h:∀ fr' H',zT fr' [6,0,4,5,9]=[(6,pR n6),(0,pR b),(4,pR n4),(5,pR n5),(9,pR n9)]->H'[b]?=some B->H'[n9]?=some (.box (ndC m))->Kp H H' b n9->EW C GT T K fr' H') :
    EW C GT (.seq caA T) K fr H:=by
  refine zHe (fr2:=[(6,pR n6),(0,pR b),(4,pR n4),(5,pR n5),(9,pR n9),(7,pR n7),(8,.bool ok)]) hfr ?_;have hl9:=(zl_ h9);have hl6:=(zl_ h6);have hl7:=(zl_ h7);have hbl:=(zl_ hb);have hce:=(zl_ hc);subst ho hm hB;refine sW ?_;refine zS (r:=e+1) rfl tO ?_;refine zHN ?_ ?_
  · refine sW ?_
    refine sSA (kV kk2 q2 e2 t2) ?_;refine sW ?_;refine sSA (.agg [zH r2.col,zH r2.row,.bool r2.fc,.bool r2.fr]) ?_;refine sW ?_;refine zS (r:=e+1) rfl tO<|zi (zle.2 tO)<|sW ?_
    refine zi (zle.2 tO)<|sW ?_
    refine sS (zK e2) [.str s,zK e2,zH 0,zH 0,zH ↑D] ?_;refine sW ?_;refine sSA (.agg (zR 6 r1 r2)) ?_;exact h _ _ rfl hP hP ⟨(fun c x hc g1 g2=>by have hcl:=(zl_ hc);repeat' (first|exact hc|refine zD ?_|refine zC (by first|exact zl7 g1|exact zl7 g2|omega|(simp only [zlP,zlH,zlE,zlL];omega)|(simp;omega)) ?_)),tC⟩
  · refine sW ?_
    refine sSA (kV kk2 q2 e2 t2) ?_;refine sW ?_;refine sSA (.agg [zH r2.col,zH r2.row,.bool r2.fc,.bool r2.fr]) ?_;refine sW ?_;refine zS (r:=e+1) rfl tO<|zi (zle.2 tO)<|sW ?_
    refine zi (zle.2 tO)<|sW ?_
    refine sS (zK e2) [.str s,zK e2,zH 0,zH 0,zH ↑D] ?_;refine sW ?_;refine sSA (.agg (zR 6 r1 r2)) ?_;exact h _ _ rfl hP hP ⟨(fun c x hc g1 g2=>by have hcl:=(zl_ hc);repeat' (first|exact hc|refine zD ?_|refine zC (by first|exact zl7 g1|exact zl7 g2|omega|(simp only [zlP,zlH,zlE,zlL];omega)|(simp;omega)) ?_)),tC⟩
section
variable (ok2:Bool) (hr:∀ H,C zm [.str t2] H (.tup [.agg [zH r2.col,zH r2.row,.bool r2.fc,.bool r2.fr],.bool ok2]) H)
include ok2 hr
theorem ze6
 (hq2:q2≠e+1) (hf:∀ H,H[b]?=some (rP s p D)->C zc [pR b,zK (e+1),.int .i64 2] H (.tup []) (H.set b (pB s p (e+1:Nat) 2 D)))
    (h1:kk=1) (ho:ok=true) (hc:s[e]?=some 58) (m:Nd) (hm:m=zA2 r1 r2) (B:ABlk) (hB:B=pB s e2 (e+1:Nat) 2 D)
    (h:∀ fr' H',zT fr' [6,0,4,5,9]=[(6,pR n6),(0,pR b),(4,pR n4),(5,pR n5),(9,pR n9)]->H'[b]?=some B->H'[n9]?=some (.box (ndC m))->Kp H H' b n9->EW C GT T K fr' H') :
    EW C GT (.seq caA T) K fr H:=by
  refine zHe (fr2:=[(6,pR n6),(0,pR b),(4,pR n4),(5,pR n5),(9,pR n9),(7,pR n7),(8,.bool ok)]) hfr ?_;have hl9:=(zl_ h9);have hl6:=(zl_ h6);have hl7:=(zl_ h7);have hbl:=(zl_ hb);have hce:=(zl_ hc);subst ho hm hB;refine sW ?_;refine zS (r:=e+1) rfl tO ?_;refine zHN ?_ ?_
  · refine sW ?_
    refine sSA (kV kk2 q2 e2 t2) ?_;refine sW ?_;refine sSA (.agg [zH r2.col,zH r2.row,.bool r2.fc,.bool r2.fr]) ?_;refine sW ?_;refine zS (r:=e+1) rfl tO<|zn (zlz.2 tO)<|sW ?_
    refine zS (r:=e+1) rfl tO<|sW ?_
    refine sS (zK e2) [.str s,zK e2,zH ↑(e+1),zH 2,zH ↑D] ?_;refine sW ?_;refine sSA (.agg (zR 6 r1 r2)) ?_;exact h _ _ rfl hP hP ⟨(fun c x hc g1 g2=>by have hcl:=(zl_ hc);repeat' (first|exact hc|refine zD ?_|refine zC (by first|exact zl7 g1|exact zl7 g2|omega|(simp only [zlP,zlH,zlE,zlL];omega)|(simp;omega)) ?_)),tC⟩
  · refine sW ?_
    refine sSA (kV kk2 q2 e2 t2) ?_;refine sW ?_;refine sSA (.agg [zH r2.col,zH r2.row,.bool r2.fc,.bool r2.fr]) ?_;refine sW ?_;refine zS (r:=e+1) rfl tO<|zn (zlz.2 tO)<|sW ?_
    refine zS (r:=e+1) rfl tO<|sW ?_
    refine sS (zK e2) [.str s,zK e2,zH ↑(e+1),zH 2,zH ↑D] ?_;refine sW ?_;refine sSA (.agg (zR 6 r1 r2)) ?_;exact h _ _ rfl hP hP ⟨(fun c x hc g1 g2=>by have hcl:=(zl_ hc);repeat' (first|exact hc|refine zD ?_|refine zC (by first|exact zl7 g1|exact zl7 g2|omega|(simp only [zlP,zlH,zlE,zlL];omega)|(simp;omega)) ?_)),tC⟩
theorem ze7
 (hq2:q2=e+1) (hk2:kk2≠1) (hf:∀ H,H[b]?=some (rP s p D)->C zc [pR b,zK (e+1),.int .i64 2] H (.tup []) (H.set b (pB s p (e+1:Nat) 2 D)))
    (h1:kk=1) (ho:ok=true) (hc:s[e]?=some 58) (m:Nd) (hm:m=zA2 r1 r2) (B:ABlk) (hB:B=pB s e2 (e+1:Nat) 2 D)
    (h:∀ fr' H',zT fr' [6,0,4,5,9]=[(6,pR n6),(0,pR b),(4,pR n4),(5,pR n5),(9,pR n9)]->H'[b]?=some B->H'[n9]?=some (.box (ndC m))->Kp H H' b n9->EW C GT T K fr' H') :
    EW C GT (.seq caA T) K fr H:=by
  refine zHe (fr2:=[(6,pR n6),(0,pR b),(4,pR n4),(5,pR n5),(9,pR n9),(7,pR n7),(8,.bool ok)]) hfr ?_;have hl9:=(zl_ h9);have hl6:=(zl_ h6);have hl7:=(zl_ h7);have hbl:=(zl_ hb);have hce:=(zl_ hc);subst ho hm hB;refine sW ?_;refine zS (r:=e+1) rfl tO ?_;refine zHN ?_ ?_
  · refine sW ?_
    refine sSA (kV kk2 q2 e2 t2) ?_;refine sW ?_;refine sSA (.agg [zH r2.col,zH r2.row,.bool r2.fc,.bool r2.fr]) ?_;refine sW ?_;refine zS (r:=e+1) rfl tO<|zi (zle.2 tO)<|sW ?_
    refine zn (zlz.2 tO)<|sW ?_
    refine zS (r:=e+1) rfl tO<|sW ?_
    refine sS (zK e2) [.str s,zK e2,zH ↑(e+1),zH 2,zH ↑D] ?_;refine sW ?_;refine sSA (.agg (zR 6 r1 r2)) ?_;exact h _ _ rfl hP hP ⟨(fun c x hc g1 g2=>by have hcl:=(zl_ hc);repeat' (first|exact hc|refine zD ?_|refine zC (by first|exact zl7 g1|exact zl7 g2|omega|(simp only [zlP,zlH,zlE,zlL];omega)|(simp;omega)) ?_)),tC⟩
  · refine sW ?_
    refine sSA (kV kk2 q2 e2 t2) ?_;refine sW ?_;refine sSA (.agg [zH r2.col,zH r2.row,.bool r2.fc,.bool r2.fr]) ?_;refine sW ?_;refine zS (r:=e+1) rfl tO<|zi (zle.2 tO)<|sW ?_
    refine zn (zlz.2 tO)<|sW ?_
    refine zS (r:=e+1) rfl tO<|sW ?_
    refine sS (zK e2) [.str s,zK e2,zH ↑(e+1),zH 2,zH ↑D] ?_;refine sW ?_;refine sSA (.agg (zR 6 r1 r2)) ?_;exact h _ _ rfl hP hP ⟨(fun c x hc g1 g2=>by have hcl:=(zl_ hc);repeat' (first|exact hc|refine zD ?_|refine zC (by first|exact zl7 g1|exact zl7 g2|omega|(simp only [zlP,zlH,zlE,zlL];omega)|(simp;omega)) ?_)),tC⟩
end
theorem ze8
 (hr:∀ H,C zm [.str t2] H (.tup [.agg [zH r2.col,zH r2.row,.bool r2.fc,.bool r2.fr],.bool false]) H) (hq2:q2=e+1) (hk2:kk2=1) (hf:∀ H,H[b]?=some (rP s p D)->C zc [pR b,zK (e+1),.int .i64 2] H (.tup []) (H.set b (pB s p (e+1:Nat) 2 D)))
    (h1:kk=1) (ho:ok=true) (hc:s[e]?=some 58) (m:Nd) (hm:m=zA2 r1 r2) (B:ABlk) (hB:B=pB s e2 (e+1:Nat) 2 D)
    (h:∀ fr' H',zT fr' [6,0,4,5,9]=[(6,pR n6),(0,pR b),(4,pR n4),(5,pR n5),(9,pR n9)]->H'[b]?=some B->H'[n9]?=some (.box (ndC m))->Kp H H' b n9->EW C GT T K fr' H') :
    EW C GT (.seq caA T) K fr H:=by
  refine zHe (fr2:=[(6,pR n6),(0,pR b),(4,pR n4),(5,pR n5),(9,pR n9),(7,pR n7),(8,.bool ok)]) hfr ?_;have hl9:=(zl_ h9);have hl6:=(zl_ h6);have hl7:=(zl_ h7);have hbl:=(zl_ hb);have hce:=(zl_ hc);subst ho hm hB;refine sW ?_;refine zS (r:=e+1) rfl tO ?_;refine zHN ?_ ?_
  · refine sW ?_
    refine sSA (kV kk2 q2 e2 t2) ?_;refine sW ?_;refine sSA (.agg [zH r2.col,zH r2.row,.bool r2.fc,.bool r2.fr]) ?_;refine sW ?_;refine zS (r:=e+1) rfl tO<|zi (zle.2 tO)<|sW ?_
    refine zi (zle.2 tO)<|sW ?_
    refine zS (r:=e+1) rfl tO<|sW ?_
    refine sS (zK e2) [.str s,zK e2,zH ↑(e+1),zH 2,zH ↑D] ?_;refine sW ?_;refine sSA (.agg (zR 6 r1 r2)) ?_;exact h _ _ rfl hP hP ⟨(fun c x hc g1 g2=>by have hcl:=(zl_ hc);repeat' (first|exact hc|refine zD ?_|refine zC (by first|exact zl7 g1|exact zl7 g2|omega|(simp only [zlP,zlH,zlE,zlL];omega)|(simp;omega)) ?_)),tC⟩
  · refine sW ?_
    refine sSA (kV kk2 q2 e2 t2) ?_;refine sW ?_;refine sSA (.agg [zH r2.col,zH r2.row,.bool r2.fc,.bool r2.fr]) ?_;refine sW ?_;refine zS (r:=e+1) rfl tO<|zi (zle.2 tO)<|sW ?_
    refine zi (zle.2 tO)<|sW ?_
    refine zS (r:=e+1) rfl tO<|sW ?_
    refine sS (zK e2) [.str s,zK e2,zH ↑(e+1),zH 2,zH ↑D] ?_;refine sW ?_;refine sSA (.agg (zR 6 r1 r2)) ?_;exact h _ _ rfl hP hP ⟨(fun c x hc g1 g2=>by have hcl:=(zl_ hc);repeat' (first|exact hc|refine zD ?_|refine zC (by first|exact zl7 g1|exact zl7 g2|omega|(simp only [zlP,zlH,zlE,zlL];omega)|(simp;omega)) ?_)),tC⟩
end
end
end
section
variable {C:CSpec} {GT:zG_}
section
variable (K:Post) (b n4 n5 n6 n9:Nat) (s:Bs) (D:Nat) (t:Bs) (m:Nd) (ks:List Nd) (v:AV) (B:ABlk) (H0 H:Heap) (fr:Fr) (hfr:zT fr [6,0,4,5,9]=[(6,pR n6),(0,pR b),(4,pR n4),(5,pR n5),(9,pR n9)]) (hob:OldB H0 b B H) (how:Owns H0 H v 12 (ks.map ndV)) (hkl:ks.length<=200) (h4:H[n4]?=some (.box (ndC zZ))) (h5:H[n5]?=some (.box (zAj t v))) (c0 c1 c2 c3:AV) (h6:H[n6]?=some (.box [c0,c1,c2,c3])) (h9:H[n9]?=some (.box (ndC m))) (g4:H0.length<=n4) (g5:H0.length<=n5) (g6:H0.length<=n6) (g9:H0.length<=n9) (d45:n4≠n5) (d46:n4≠n6) (d56:n5≠n6) (e2 kk q e3:Nat) (tt:Bs) (htk:∀ H,C zY [.str s,zK e2] H (kV kk q e3 tt) H)
include K b n4 n5 n6 n9 s D t m ks v B H0 H fr hfr hob how hkl h4 h5 c0 c1 c2 c3 h6 h9 g4 g5 g6 g9 d45 d46 d56 e2 kk q e3 tt htk
theorem zY0
    (hk:kk=4) (ht:tt=[44]) (hB:B=rP s e2 D) (hb:H[b]?=some (rP s e2 D))
    (hcont:∀ fr' H' v',zT fr' [6,0,4,5]=[(6,pR n6),(0,pR b),(4,pR n4),(5,pR n5)]->H'[b]?=some (rP s e3 D)->H'[n5]?=some (.box (zAj t v'))->H'[n4]?=some (.box (ndC zZ))->(∃ c0 c1 c2 c3,H'[n6]?=some (.box [c0,c1,c2,c3]))->Owns H0 H' v' 12 ((ks++[m]).map ndV)->OldB H0 b (rP s e3 D) H'->K (.exit 1) fr' H') :
    EW C GT caT K fr H:=by
  subst hB;refine zQS (fr2:=[(6,pR n6),(0,pR b),(4,pR n4),(5,pR n5),(9,pR n9)]) hfr ?_;have hbl:=hob.lt;have hlH0:(H0.set b (rP s e2 D)).length=H0.length:=zlP;have hel:(ndV m).elem 12=true:=rfl;refine sX ?_;refine zAb (vs':=[.agg [.int .i64 m.kind,.int .i64 m.num,.str m.text,.int .i64 m.ref.col,.int .i64 m.ref.row,.bool m.ref.fc,.bool m.ref.fr,.int .i64 m.to.col,.int .i64 m.to.row,.bool m.to.fc,.bool m.to.fr,.lst (some m.kq) m.kk (kxs m)]]) rfl rfl<|zBw (H0:=H0.set b (rP s e2 D)) ((how.base hlH0).push _) (hob.old.push _) zAu tO (by simp only [zlM,zlE,zlL];omega) zS_ fun v' H' ho' hH' hb' hf=>?_
  have hxb:=hf b _ (how.notBox hb) (zD hb);have hx4:=hf n4 _ (how.notBox h4) (zD h4);have hx5:=hf n5 _ (how.notBox h5) (zD h5);have hx6:=hf n6 _ (how.notBox h6) (zD h6);have hob3:OldB H0 b (rP s e2 D) H':=⟨hbl,hH'⟩;have hlb:=(zl_ hxb);have hl4:=(zl_ hx4);have hl5:=(zl_ hx5);have hl6:=(zl_ hx6);have how3:Owns H0 H' v' 12 ((ks++[m]).map ndV):=by rw [zlv];exact ho'.base hlH0.symm
  refine zD9 (zAj t v') hx5 how3.one rfl rfl<|sX ?_
  refine sS (kV kk q e3 tt) [zK kk,zK q,zK e3,.str tt] ?_;refine sX ?_;refine sS (zK e3) [.str s,zK e3,zH 0,zH 0,zH ↑D] ?_;exact hcont _ _ v' rfl hP hP hP ⟨_,_,_,_,hP⟩ (((how3.setBox hx5 (.box (zAj t v'))).setBox (cs:=[c0,c1,c2,c3]) hP (.box (kV kk q e3 tt).cells)).setBox (cs:=[.str s,zH e2,zH 0,zH 0,zH D]) hP _) (((hob3.set g5 _).set g6 _).setB _)
theorem ze9
    (hk:kk≠4) (hB:B=rP s e2 D) (hb:H[b]?=some (rP s e2 D))
    (RB:ABlk) (hc:∀ H,H[b]?=some B->C zb [pR b] H (.tup []) (H.set b RB))
    (hret:∀ fr' H' v',zL0 fr' 4=pR n4->H'[n4]?=some (.box (zAj t v'))->Owns H0 H' v' 12 ((ks++[m]).map ndV)->OldB H0 b RB H'->K .ret fr' H') :
    EW C GT caT K fr H:=by
  subst hB;refine zQS (fr2:=[(6,pR n6),(0,pR b),(4,pR n4),(5,pR n5),(9,pR n9)]) hfr ?_;have hbl:=hob.lt;have hlH0:(H0.set b (rP s e2 D)).length=H0.length:=zlP;have hel:(ndV m).elem 12=true:=rfl;refine sX ?_;refine zAb (vs':=[.agg [.int .i64 m.kind,.int .i64 m.num,.str m.text,.int .i64 m.ref.col,.int .i64 m.ref.row,.bool m.ref.fc,.bool m.ref.fr,.int .i64 m.to.col,.int .i64 m.to.row,.bool m.to.fc,.bool m.to.fr,.lst (some m.kq) m.kk (kxs m)]]) rfl rfl<|zBw (H0:=H0.set b (rP s e2 D)) ((how.base hlH0).push _) (hob.old.push _) zAu tO (by simp only [zlM,zlE,zlL];omega) zS_ fun v' H' ho' hH' hb' hf=>?_
  have hxb:=hf b _ (how.notBox hb) (zD hb);have hx4:=hf n4 _ (how.notBox h4) (zD h4);have hx5:=hf n5 _ (how.notBox h5) (zD h5);have hx6:=hf n6 _ (how.notBox h6) (zD h6);have hob3:OldB H0 b (rP s e2 D) H':=⟨hbl,hH'⟩;have hlb:=(zl_ hxb);have hl4:=(zl_ hx4);have hl5:=(zl_ hx5);have hl6:=(zl_ hx6);have how3:Owns H0 H' v' 12 ((ks++[m]).map ndV):=by rw [zlv];exact ho'.base hlH0.symm
  refine zD9 (zAj t v') hx5 how3.one rfl rfl<|sX ?_
  refine sS (kV kk q e3 tt) [zK kk,zK q,zK e3,.str tt] ?_;refine sX ?_;refine zL (v:=.agg (zAj t v')) (zAj t v') hP rfl (zIN how3.one.2) rfl rfl ?_;exact hret _ _ v' rfl hP ((((how3.setBox hx5 (.box (zAj t v'))).setBox (cs:=[c0,c1,c2,c3]) hP (.box (kV kk q e3 tt).cells)).setBox (cs:=[.str s,zH e2,zH 0,zH 0,zH D]) hP _).setBox (cs:=ndC zZ) hP _) ((((hob3.set g5 _).set g6 _).setB _).set g4 _)
theorem zXU
    (hk:kk=4) (ht:tt≠[44]) (hB:B=rP s e2 D) (hb:H[b]?=some (rP s e2 D))
    (RB:ABlk) (hc:∀ H,H[b]?=some B->C zb [pR b] H (.tup []) (H.set b RB))
    (hret:∀ fr' H' v',zL0 fr' 4=pR n4->H'[n4]?=some (.box (zAj t v'))->Owns H0 H' v' 12 ((ks++[m]).map ndV)->OldB H0 b RB H'->K .ret fr' H') :
    EW C GT caT K fr H:=by
  subst hB;refine zQS (fr2:=[(6,pR n6),(0,pR b),(4,pR n4),(5,pR n5),(9,pR n9)]) hfr ?_;have hbl:=hob.lt;have hlH0:(H0.set b (rP s e2 D)).length=H0.length:=zlP;have hel:(ndV m).elem 12=true:=rfl;refine sX ?_;refine zAb (vs':=[.agg [.int .i64 m.kind,.int .i64 m.num,.str m.text,.int .i64 m.ref.col,.int .i64 m.ref.row,.bool m.ref.fc,.bool m.ref.fr,.int .i64 m.to.col,.int .i64 m.to.row,.bool m.to.fc,.bool m.to.fr,.lst (some m.kq) m.kk (kxs m)]]) rfl rfl<|zBw (H0:=H0.set b (rP s e2 D)) ((how.base hlH0).push _) (hob.old.push _) zAu tO (by simp only [zlM,zlE,zlL];omega) zS_ fun v' H' ho' hH' hb' hf=>?_
  have hxb:=hf b _ (how.notBox hb) (zD hb);have hx4:=hf n4 _ (how.notBox h4) (zD h4);have hx5:=hf n5 _ (how.notBox h5) (zD h5);have hx6:=hf n6 _ (how.notBox h6) (zD h6);have hob3:OldB H0 b (rP s e2 D) H':=⟨hbl,hH'⟩;have hlb:=(zl_ hxb);have hl4:=(zl_ hx4);have hl5:=(zl_ hx5);have hl6:=(zl_ hx6);have how3:Owns H0 H' v' 12 ((ks++[m]).map ndV):=by rw [zlv];exact ho'.base hlH0.symm
  refine zD9 (zAj t v') hx5 how3.one rfl rfl<|sX ?_
  refine sS (kV kk q e3 tt) [zK kk,zK q,zK e3,.str tt] ?_;refine zA (zH 0) (zC tA (zC tA hxb)) rfl<|zn tE<|zA (zK kk) (zU (zC tA hx6)) rfl<|zE<|zn tE<|zA (.str tt) (zU (zC tA hx6)) rfl<|zE<|zi (tN ht)<|sX ?_
  refine zL (v:=.agg (zAj t v')) (zAj t v') hP rfl (zIN how3.one.2) rfl rfl ?_;exact hret _ _ v' rfl hP ((((how3.setBox hx5 (.box (zAj t v'))).setBox (cs:=[c0,c1,c2,c3]) hP (.box (kV kk q e3 tt).cells)).setBox (cs:=[.str s,zH e2,zH 0,zH 0,zH D]) hP _).setBox (cs:=ndC zZ) hP _) ((((hob3.set g5 _).set g6 _).setB _).set g4 _)
theorem zbn
    (w ee dd:Int) (he:ee≠0) (hB:B=pB s e2 w ee dd) (hb:H[b]?=some (pB s e2 w ee dd))
    (RB:ABlk) (hc:∀ H,H[b]?=some B->C zb [pR b] H (.tup []) (H.set b RB))
    (hret:∀ fr' H' v',zL0 fr' 4=pR n4->H'[n4]?=some (.box (zAj t v'))->Owns H0 H' v' 12 ((ks++[m]).map ndV)->OldB H0 b RB H'->K .ret fr' H') :
    EW C GT caT K fr H:=by
  subst hB;refine zQS (fr2:=[(6,pR n6),(0,pR b),(4,pR n4),(5,pR n5),(9,pR n9)]) hfr ?_;have hbl:=hob.lt;have hlH0:(H0.set b (pB s e2 w ee dd)).length=H0.length:=zlP;have hel:(ndV m).elem 12=true:=rfl;refine sX ?_;refine zAb (vs':=[.agg [.int .i64 m.kind,.int .i64 m.num,.str m.text,.int .i64 m.ref.col,.int .i64 m.ref.row,.bool m.ref.fc,.bool m.ref.fr,.int .i64 m.to.col,.int .i64 m.to.row,.bool m.to.fc,.bool m.to.fr,.lst (some m.kq) m.kk (kxs m)]]) rfl rfl<|zBw (H0:=H0.set b (pB s e2 w ee dd)) ((how.base hlH0).push _) (hob.old.push _) zAu tO (by simp only [zlM,zlE,zlL];omega) zS_ fun v' H' ho' hH' hb' hf=>?_
  have hxb:=hf b _ (how.notBox hb) (zD hb);have hx4:=hf n4 _ (how.notBox h4) (zD h4);have hx5:=hf n5 _ (how.notBox h5) (zD h5);have hx6:=hf n6 _ (how.notBox h6) (zD h6);have hob3:OldB H0 b (pB s e2 w ee dd) H':=⟨hbl,hH'⟩;have hlb:=(zl_ hxb);have hl4:=(zl_ hx4);have hl5:=(zl_ hx5);have hl6:=(zl_ hx6);have how3:Owns H0 H' v' 12 ((ks++[m]).map ndV):=by rw [zlv];exact ho'.base hlH0.symm
  refine zD9 (zAj t v') hx5 how3.one rfl rfl<|sX ?_
  refine sS (kV kk q e3 tt) [zK kk,zK q,zK e3,.str tt] ?_;refine zA (zH ee) (zC tA (zC tA hxb)) rfl<|zi (tN he)<|sX ?_
  refine zL (v:=.agg (zAj t v')) (zAj t v') hP rfl (zIN how3.one.2) rfl rfl ?_;exact hret _ _ v' rfl hP ((((how3.setBox hx5 (.box (zAj t v'))).setBox (cs:=[c0,c1,c2,c3]) hP (.box (kV kk q e3 tt).cells)).setBox (cs:=[.str s,zH e2,zH w,zH ee,zH dd]) hP _).setBox (cs:=ndC zZ) hP _) ((((hob3.set g5 _).set g6 _).setB _).set g4 _)
end
end
theorem zkH {s:Bs} {a e1:Nat} {w1:Bs} {r1:RefP} (ht:tok s a=.word e1 w1) (hr:zFG w1=some r1) (h58:s[e1]?=some 58) :
    zD1 s a=some (if skip s (e1+1)=e1+1/\tkK (tok s (e1+1))=1 then (zFG (tkT (tok s (e1+1)))).map fun r2=>(zA2 r1 r2,tkE (skip s (e1+1)) (tok s (e1+1))) else none):=by
  unfold zD1;rw [ht];simp only [hr,h58,zlp];by_cases h32:s[e1+1]?=some 32
  · have h1:skip s (e1+1)≠e1+1:=by
      have:=zNd h32;have:=zFt s (e1+1+1);omega
    rw [zlD (fun x=>h1 x.1)];have:zBk s (e1+1)=.sign (e1+2) [32]:=by
      unfold zBk;rw [h32];have w32:zh 32=false:=by decide
      have n1:¬ ((32:UInt8)=34):=by decide
      have n2:¬ ((32:UInt8)=35):=by decide
      simp only [w32,zlO,zlj,n1,n2];cases s[e1+1+1]? with
      |none=>rfl
      | some d=>
        simp only;rw [zlD (by rintro (⟨h,_⟩|⟨h,_⟩|⟨h,_⟩) <;> revert h <;> decide)]
    rw [this]
  · have h1:=zDm h32
    have h2:=zN9 h32;rw [h1,h2];cases zBk s (e1+1) with
    |word e2 t2=>simp [tkK,tkT,tkE]
    |fin=>simp [tkK]
    |txt e2 t2=>simp [tkK]
    |bad e2 t2=>simp [tkK]
    |sign e2 t2=>simp [tkK]
    |none=>simp [tkK]
theorem zWJ {s:Bs} {a:Nat} (h:¬ ∃ e1 w1 r1,tok s a=.word e1 w1/\zFG w1=some r1/\s[e1]?=some 58):zD1 s a=none:=by
  unfold zD1;split
  · rename_i e t ht
    split
    · rename_i r hr
      split
      · rename_i h58
        exact absurd ⟨e,t,r,ht,hr,h58⟩ h
      · rfl
    · rfl
  · rfl
def emB (s:Bs) (e1:Nat):Nat:=tkE (skip s (e1+1)) (tok s (e1+1))
def clB (s:Bs) (a:Nat) (w e d:Int):ABlk:=pB s (tkE (skip s a) (tok s a):Nat) w e (IntKind.wrap .i64 (d-1))
inductive AF' (C:CSpec) (b:Nat) (s:Bs) (d:Nat):List Nd->Nat->List Nd->ABlk->Prop where
  |box (ks:List Nd) (a e1:Nat) (w1:Bs) (r1:RefP) (ht:tok s a=.word e1 w1) (hr:zFG w1=some r1) (h58:s[e1]?=some 58) (hn:zD1 s a=some none) :
      AF' C b s d ks a (ks++[zA2 r1 ((zFG (tkT (tok s (e1+1)))).getD noRef)]) (clB s (emB s e1) (e1+1:Nat) 2 (d+1:Nat))
  |lo (ks:List Nd) (a:Nat) (nw:Nd) (W:Bd) (hn:zD1 s a=none) (hl:(P s).loose 1 a (d+1)=none) (hW:W.ok s) (h:∀ H,H[b]?=some (rP s a (d+1))->C zX [pR b,.int .i64 1] H (ndV nw) (H.set b (W.blk s))) :
      AF' C b s d ks a (ks++[nw]) (clB s W.a W.w W.e W.d)
  |close (ks:List Nd) (a:Nat) (m:Nd) (e2:Nat) (h:zFk s (P s) a (d+1)=some (m,e2)) (h44:¬ ∃ e3,tok s e2=.sign e3 [44]) (h41:¬ ∃ e3,tok s e2=.sign e3 [41]) :
      AF' C b s d ks a (ks++[m]) (pB s (tkE (skip s e2) (tok s e2):Nat) (skip s e2:Nat) 2 d)
  |later (ks:List Nd) (a:Nat) (m:Nd) (e2 e3:Nat) (L:List Nd) (RB:ABlk) (h:zFk s (P s) a (d+1)=some (m,e2)) (h44:tok s e2=.sign e3 [44]) (k:AF' C b s d (ks++[m]) e3 L RB):AF' C b s d ks a L RB
theorem zbo {C:CSpec} {b:Nat} {s:Bs} {d:Nat} {t:Bs} (e0:Nat) (hLo:∀ a,e0<a->a<=s.length->CF C zX [pR b,.int .i64 1] b s a (d+1) ((P s).loose 1 a (d+1))):∀ (k:Nat) (ks:List Nd) (a:Nat),e0<a->a<=s.length->s.length-a<=k->(P s).args t ks a (d+1)=none->∃ L RB,AF' C b s d ks a L RB:=by
  intro k;induction k with
  | zero=>
    intro ks a h0 ha hk h;have hae:a=s.length:=by omega
    have hb:zD1 s a=none:=by
      refine zWJ ?_;rintro ⟨e1,w1,r1,ht,_⟩;have:=zB7 s a;rw [ht] at this;simp only [Tok.endsBy] at this;omega
    have hl:(P s).loose 1 a (d+1)=none:=by
      cases hl:(P s).loose 1 a (d+1) with
      |none=>rfl
      |some q=>have:=(zDA s).loose 1 a (d+1) q ha hl;omega
    obtain ⟨n',a',w,e',d',h1,h2,h3⟩:=(hLo a h0 ha).2 hl;exact ⟨_,_,.lo ks a n' ⟨a',w,e',d'⟩ hb hl ⟨h1,h2⟩ h3⟩
  | succ k ih=>
    intro ks a h0 ha hk h;rw [zN7 t ks (d+1) ha] at h;unfold zF0 at h;cases hpa:zFk s (P s) a (d+1) with
    | none=>
      have hpa':=hpa;unfold zFk at hpa';cases hb:zD1 s a with
      | some r=>
        rw [hb] at hpa';simp only at hpa';subst hpa';have:∃ e1 w1 r1,tok s a=.word e1 w1/\zFG w1=some r1/\s[e1]?=some 58:=Classical.byContradiction fun x=>by rw [zWJ x] at hb;cases hb
        obtain ⟨e1,w1,r1,ht,hr,h58⟩:=this;exact ⟨_,_,.box ks a e1 w1 r1 ht hr h58 hb⟩
      | none=>
        rw [hb] at hpa';simp only at hpa';obtain ⟨n',a',w,e',d',h1,h2,h3⟩:=(hLo a h0 ha).2 hpa';exact ⟨_,_,.lo ks a n' ⟨a',w,e',d'⟩ hb hpa' ⟨h1,h2⟩ h3⟩
    | some x=>
      obtain ⟨m,e2⟩:=x;have hx:=zIL (zDA s) a (d+1) _ ha hpa;simp only at hx;rw [hpa,zmF] at h;by_cases h44:∃ e3,tok s e2=.sign e3 [44]
      · obtain ⟨e3,h44⟩:=h44
        have ht:=zB7 s e2;simp only [h44] at h;rw [h44] at ht;simp only [Tok.endsBy] at ht;obtain ⟨L,RB,hL⟩:=ih (ks++[m]) e3 tO tO tO h;exact ⟨L,RB,.later ks a m e2 e3 L RB hpa h44 hL⟩
      · by_cases h41:∃ e3,tok s e2=.sign e3 [41]
        · obtain ⟨e3,h41⟩:=h41
          simp only [h41] at h;cases h
        · exact ⟨_,_,.close ks a m e2 hpa h44 h41⟩
def AR (C:CSpec) (b:Nat) (s:Bs) (d:Nat) (t:Bs) (ks:List Nd) (a:Nat) (RV:AV) (RB:ABlk):Prop:=
  (∃ n' e',(P s).args t ks a (d+1)=some (n',e')/\RV=ndV n'/\RB=rP s e' d)\/(∃ L,AF' C b s d ks a L RB/\RV=ndV (zA0 t L))
def AN (C:CSpec) (b:Nat) (s:Bs) (d:Nat) (t:Bs) (L:List Nd) (e2:Nat) (RV:AV) (RB:ABlk):Prop:=
  (∃ e3,tok s e2=.sign e3 [44]/\AR C b s d t L e3 RV RB)\/(∃ e3,tok s e2=.sign e3 [41]/\RV=ndV (zA0 t L)/\RB=rP s e3 d) \/
  ((¬ ∃ e3,tok s e2=.sign e3 [44])/\(¬ ∃ e3,tok s e2=.sign e3 [41])/\RV=ndV (zA0 t L)/\RB=pB s (tkE (skip s e2) (tok s e2):Nat) (skip s e2:Nat) 2 d)
theorem AR.ok {C:CSpec} {b:Nat} {s:Bs} {d:Nat} {t:Bs} {ks:List Nd} {a:Nat} {RV:AV} {RB:ABlk} (h:AR C b s d t ks a RV RB) (ha:a<=s.length) {m:Nd} {e2:Nat} (hp:zFk s (P s) a (d+1)=some (m,e2)):AN C b s d t (ks++[m]) e2 RV RB:=by
  rcases h with ⟨n',e',h1,h2,h3⟩|⟨L,hL,hv⟩
  · rw [zN7 t ks (d+1) ha] at h1
    unfold zF0 at h1;rw [hp,zmF] at h1;by_cases h44:∃ e3,tok s e2=.sign e3 [44]
    · obtain ⟨e3,h44⟩:=h44
      simp only [h44] at h1;exact .inl ⟨e3,h44,.inl ⟨n',e',h1,h2,h3⟩⟩
    · by_cases h41:∃ e3,tok s e2=.sign e3 [41]
      · obtain ⟨e3,h41⟩:=h41
        simp only [h41] at h1;obtain ⟨rfl,rfl⟩:zA0 t (ks++[m])=n'/\e3=e':=by cases h1;exact ⟨rfl,rfl⟩
        exact .inr (.inl ⟨_,h41,h2,h3⟩)
      · exfalso
        split at h1
        · rename_i e3 hk;exact h44 ⟨e3,hk⟩
        · rename_i e3 hk;exact h41 ⟨e3,hk⟩
        · cases h1
  · cases hL with
    |box _ _ e1 w1 r1 ht hr h58 hn=>unfold zFk at hp;rw [hn] at hp;cases hp
    |lo _ _ nw W hn hl hW h=>unfold zFk at hp;rw [hn] at hp;simp only at hp;rw [hl] at hp;cases hp
    |close _ _ m' e2' h h44 h41=>rw [hp] at h;cases h;exact .inr (.inr ⟨h44,h41,hv,rfl⟩)
    |later _ _ m' e2' e3 _ _ h h44 k=>rw [hp] at h;cases h;exact .inl ⟨_,h44,.inr ⟨L,k,hv⟩⟩
theorem AR.bx {C:CSpec} {b:Nat} {s:Bs} {d:Nat} {t:Bs} {ks:List Nd} {a:Nat} {RV:AV} {RB:ABlk} (h:AR C b s d t ks a RV RB) (ha:a<=s.length) (hb:zD1 s a=some none) {e1:Nat} {w1:Bs} {r1:RefP} (ht:tok s a=.word e1 w1) (hr:zFG w1=some r1) :
    RV=ndV (zA0 t (ks++[zA2 r1 ((zFG (tkT (tok s (e1+1)))).getD noRef)]))/\RB=clB s (emB s e1) (e1+1:Nat) 2 (d+1:Nat):=by
  have hp:zFk s (P s) a (d+1)=none:=by unfold zFk;rw [hb]
  rcases h with ⟨n',e',h1,h2,h3⟩|⟨L,hL,hv⟩
  · rw [zN7 t ks (d+1) ha] at h1
    unfold zF0 at h1;rw [hp] at h1;cases h1
  · cases hL with
    |box _ _ e1' w1' r1' ht' hr' h58 hn=>rw [ht] at ht';cases ht';rw [hr] at hr';cases hr';exact ⟨hv,rfl⟩
    |lo _ _ nw W hn hl hW h=>rw [hb] at hn;cases hn
    |close _ _ m' e2' h h44 h41=>rw [hp] at h;cases h
    |later _ _ m' e2' e3 _ _ h h44 k=>rw [hp] at h;cases h
theorem AR.lw {C:CSpec} {b:Nat} {s:Bs} {d:Nat} {t:Bs} {ks:List Nd} {a:Nat} {RV:AV} {RB:ABlk} (h:AR C b s d t ks a RV RB) (ha:a<=s.length) (hb:zD1 s a=none) (hl:(P s).loose 1 a (d+1)=none) :
    ∃ (nw:Nd) (W:Bd),W.ok s/\(∀ H,H[b]?=some (rP s a (d+1))->C zX [pR b,.int .i64 1] H (ndV nw) (H.set b (W.blk s)))/\RV=ndV (zA0 t (ks++[nw]))/\RB=clB s W.a W.w W.e W.d:=by
  have hp:zFk s (P s) a (d+1)=none:=by unfold zFk;rw [hb];exact hl
  rcases h with ⟨n',e',h1,h2,h3⟩|⟨L,hL,hv⟩
  · rw [zN7 t ks (d+1) ha] at h1
    unfold zF0 at h1;rw [hp] at h1;cases h1
  · cases hL with
    |box _ _ e1' w1' r1' ht' hr' h58 hn=>rw [hb] at hn;cases hn
    |lo _ _ nw W hn hl' hW h=>exact ⟨nw,W,hW,h,hv,rfl⟩
    |close _ _ m' e2' h h44 h41=>rw [hp] at h;cases h
    |later _ _ m' e2' e3 _ _ h h44 k=>rw [hp] at h;cases h
structure CaS where
  a:Nat
  v:AV
  ks:List Nd
section
variable {C:CSpec} {GT:zG_}
theorem ziH (X:AC) (K:Post) (b n4 n5 n6:Nat) (s:Bs) (a d:Nat) (H:Heap) (hb:H[b]?=some (rP s a d)) (h:∀ fr',zT fr' [6,0,4,5]=[(6,pR n6),(0,pR b),(4,pR n4),(5,pR n5)]->EW C GT X K fr' H) :
    EW C GT (.seq zB1.first X) K [(6,pR n6),(0,pR b),(4,pR n4),(5,pR n5)] H:=by
  refine sX ?_;exact h _ rfl
theorem zbp (T:AC) (K:Post) (b:Nat) (s t:Bs) (e d kk q e2:Nat) (tt:Bs) (H:Heap) (hb:H[b]?=some (rP s e d)) (hel:e<=200) (htk:∀ H,C zY [.str s,zK (e+1)] H (kV kk q e2 tt) H)
    (h:∀ fr' H' n4 n5 n6,n4=H.length->n5=H.length+1->n6=H.length+2->zT fr' [4,5,0,6]=[(4,pR n4),(5,pR n5),(0,pR b),(6,pR n6)]->OldB H b (rP s (e+1) d) H'->H'[b]?=some (rP s (e+1) d)->H'[n4]?=some (.box (ndC zZ))->H'[n5]?=some (.box (zAj t (.lst (some true) 0 [])))->H'[n6]?=some (.box [zK kk,zK q,zK e2,.str tt])->EW C GT T K fr' H') :
    EW C GT (.seq zBs.first (.seq zBs.rest.first (.seq zBs.rest.rest.first (.seq zBs.rest.rest.rest.first T)))) K [(0,pR b),(1,.str t)] H:=by
  have hbl:=zl_ hb;refine sX ?_;refine sSA (.agg (zN 9 0 t)) ?_;refine sX ?_;refine zS (r:=e+1) rfl tO<|sS (.int .i64 ↑(e+1)) [.str s,.int .i64 ↑(e+1),zH 0,zH 0,zH ↑d] ?_
  refine sX ?_;refine zHN ?_ ?_
  · refine sX ?_
    refine sS (kV kk q e2 tt) [zK kk,zK q,zK e2,.str tt] ?_;exact h _ _ _ _ _ rfl zS_ zS_ rfl (by have hob:=OldB.start hb;repeat' (first|exact ⟨_,hob⟩|apply zXQ|apply zXR|refine zbQ ?_ tC _|apply OldB.push|apply OldB.setE|refine OldB.set ?_ tC _)) hP hP hP hP
  · refine sX ?_
    refine sS (kV kk q e2 tt) [zK kk,zK q,zK e2,.str tt] ?_;exact h _ _ _ _ _ rfl zS_ zS_ rfl (by have hob:=OldB.start hb;repeat' (first|exact ⟨_,hob⟩|apply zXQ|apply zXR|refine zbQ ?_ tC _|apply OldB.push|apply OldB.setE|refine OldB.set ?_ tC _)) hP hP hP hP
abbrev caE:AC:=zBs.rest.rest.rest.rest
theorem ziI (T:AC) (K:Post) (b n4 n5 n6 kk q e2:Nat) (tt:Bs) (H:Heap) (fr:Fr) (hfr:zT fr [4,5,0,6]=[(4,pR n4),(5,pR n5),(0,pR b),(6,pR n6)]) (h6:H[n6]?=some (.box [zK kk,zK q,zK e2,.str tt])) (hno:¬ (kk=4/\tt=[41]))
    (h:∀ fr',zT fr' [6,0,4,5]=[(6,pR n6),(0,pR b),(4,pR n4),(5,pR n5)]->EW C GT T K fr' H):EW C GT (.seq caE.first T) K fr H:=by
  refine zHe (fr2:=[(4,pR n4),(5,pR n5),(0,pR b),(6,pR n6)]) hfr ?_;by_cases h4:kk=4
  · have h41:tt≠[41]:=fun x=>hno ⟨h4,x⟩
    refine zA (zK kk) h6 rfl<|zn tE<|zA (.str tt) h6 rfl<|zE<|zi (tN h41) ?_
    exact h _ rfl
  · refine sX ?_
    exact h _ rfl
theorem ziJ (T:AC) (K:Post) (b n4 n5 n6 kk q e2:Nat) (t tt:Bs) (B RB:ABlk) (H0 H:Heap) (fr:Fr) (hfr:zT fr [4,5,0,6]=[(4,pR n4),(5,pR n5),(0,pR b),(6,pR n6)]) (h6:H[n6]?=some (.box [zK kk,zK q,zK e2,.str tt])) (hk:kk=4) (ht:tt=[41])
    (hob:OldB H0 b B H) (hb:H[b]?=some B) (h4:H[n4]?=some (.box (ndC zZ))) (h5:H[n5]?=some (.box (zAj t (.lst (some true) 0 [])))) (g4:H0.length<=n4) (g5:H0.length<=n5) (d45:n4≠n5) (hc:∀ H,H[b]?=some B->C zb [pR b] H (.tup []) (H.set b RB))
    (hret:∀ fr' H',zL0 fr' 4=pR n4->H'[n4]?=some (.box (zAj t (.lst (some true) 0 [])))->OldB H0 b RB H'->K .ret fr' H'):EW C GT (.seq caE.first T) K fr H:=by
  refine zHe (fr2:=[(4,pR n4),(5,pR n5),(0,pR b),(6,pR n6)]) hfr ?_;have hbl:=hob.lt;have hl4:=(zl_ h4);have hl5:=(zl_ h5);refine sX ?_;refine sS (.agg (zAj t (.lst (some true) 0 []))) (zAj t (.lst (some true) 0 [])) ?_;exact hret _ _ rfl hP ((hob.setB _).set g4 _)
end
theorem Kp.owns {H0 H H':Heap} {b n9:Nat} {v:AV} {xs cs cs9:List AV} (k:Kp H H' b n9) (how:Owns H0 H v 12 xs) (hb:H[b]?=some (.box cs)) (h9:H[n9]?=some (.box cs9)):Owns H0 H' v 12 xs:=by
  rcases how with h|⟨nb,h1,h2,h3,h4⟩
  · exact .inl h
  · exact .inr ⟨nb,h1,h2,k.1 nb _ h3 (fun e=>by subst e;rw [hb] at h3;cases h3) (fun e=>by subst e;rw [h9] at h3;cases h3),h4⟩
theorem Kp.old {H0 H H':Heap} {b n9:Nat} {B0 B:ABlk} (k:Kp H H' b n9) (hob:OldB H0 b B0 H) (g9:H0.length<=n9) (hB:H'[b]?=some B):OldB H0 b B H':=by
  have hl:=hob.old.1;rw [zlP] at hl;refine ⟨hob.lt,by rw [zlP];exact zmR hl k.2,fun c hc=>?_⟩;rw [zlP] at hc;by_cases e:b=c
  · subst e;rw [zli hc];exact hB
  · rw [zlm e]
    have h1:=hob.old.2 c (by rw [zlP];exact hc);rw [zlm e] at h1;obtain ⟨x,hx⟩:∃ x,H0[c]?=some x:=⟨_,zlI hc⟩;rw [hx] at h1 ⊢;exact k.1 c x h1 (zl7 e) tO
section
variable {C:CSpec} {GT:zG_}
theorem zY1 (hT:∀ s a H,a<=s.length->s.length<=1000->C zY [.str s,zK a] H (tkV s a) H)
    (hR:∀ s H,s.length<=200->C zm [.str s] H (zUj (zFG s)) H)
    (hF:∀ b s p d a e H,H[b]?=some (pB s p 0 0 d)->C zc [pR b,zH a,zH e] H (.tup []) (H.set b (pB s p a e d)))
    (hC1:∀ b s p d e H,H[b]?=some (rP s p (d+1))->p<=s.length->s.length<=200->d<=1000->tok s p=.sign e [41]->C zb [pR b] H (.tup []) (H.set b (rP s e d)))
    (hC2:∀ b s p d H,H[b]?=some (rP s p (d+1))->p<=s.length->s.length<=200->d<=1000->(¬ ∃ e,tok s p=.sign e [41])->C zb [pR b] H (.tup []) (H.set b (pB s (tkE (skip s p) (tok s p):Nat) (skip s p:Nat) 2 d)))
    (hC3:∀ b s (p:Nat) w e d H,H[b]?=some (pB s p w e d)->e≠0->p<=s.length->s.length<=200->C zb [pR b] H (.tup []) (H.set b (pB s (tkE (skip s p) (tok s p):Nat) w e (IntKind.wrap .i64 (d-1)))))
    (E:AC) (b:Nat) (s t:Bs) (d e0 a0 n4 n5 n6:Nat) (v0:AV) (ks0:List Nd) (H0 H:Heap) (fr:Fr) (hfr:zT fr [6,0,4,5]=[(6,pR n6),(0,pR b),(4,pR n4),(5,pR n5)]) (hl:s.length<=200) (hd:d<=1000)
    (hn4:n4=H0.length) (hn5:n5=H0.length+1) (hn6:n6=H0.length+2) (hob:OldB H0 b (rP s a0 (d+1)) H) (hb:H[b]?=some (rP s a0 (d+1))) (h4:H[n4]?=some (.box (ndC zZ))) (h5:H[n5]?=some (.box (zAj t v0))) (h6:∃ c0 c1 c2 c3,H[n6]?=some (.box [c0,c1,c2,c3])) (how:Owns H0 H v0 12 (ks0.map ndV))
    (hea:e0<a0) (hal:a0<=s.length) (hkl:ks0.length<=a0) (hLo:∀ a,e0<a->a<=s.length->CF C zX [pR b,.int .i64 1] b s a (d+1) ((P s).loose 1 a (d+1)))
    (RV:AV) (RB:ABlk) (hRB:∀ k,zHi k RB=true) (hAR:AR C b s d t ks0 a0 RV RB) :
    EW C GT (.seq (.block 0 [4,5] (.loop [6,0,4,5] zB1)) E) (zKo zBt H0 b [] .undef (some (RV,RB))) fr H:=by
  have hT:=fun a H h=>hT s a H h tO;refine zBG (fun x:CaS=>[(6,pR n6),(0,pR b),(4,pR n4),(5,pR n5)])
    (fun x H'=>OldB H0 b (rP s x.a (d+1)) H'/\H'[b]?=some (rP s x.a (d+1))/\H'[n4]?=some (.box (ndC zZ))/\H'[n5]?=some (.box (zAj t x.v))/\(∃ c0 c1 c2 c3,H'[n6]?=some (.box [c0,c1,c2,c3]))/\Owns H0 H' x.v 12 (x.ks.map ndV)/\e0<x.a/\x.a<=s.length/\x.ks.length<=x.a/\AR C b s d t x.ks x.a RV RB)
    (fun x=>s.length-x.a) ⟨a0,v0,ks0⟩ hfr ⟨hob,hb,h4,h5,h6,how,hea,hal,hkl,hAR⟩ (fun ⟨a,v,ks⟩ H1 ⟨hob,hb,h4,h5,⟨c0,c1,c2,c3,h6⟩,how,hea,hal,hkl,hAR⟩=>?_)
  dsimp only at hob hb h4 h5 h6 how hea hal hkl hAR ⊢;have hbl:=hob.lt;have hl4:=(zl_ h4);have hl5:=(zl_ h5);have hl6:=(zl_ h6);refine ziH (.block 1 [6,0,4,5] caI) _ b n4 n5 n6 s a (d+1) H1 hb (fun fr1 hfr1=>?_)
  suffices key:∀ K:Post,(∀ (m:Nd) (fr':Fr) (H':Heap) (v':AV),RV=ndV (zA0 t (ks++[m]))->zL0 fr' 4=pR n4->H'[n4]?=some (.box (zAj t v'))->Owns H0 H' v' 12 ((ks++[m]).map ndV)->OldB H0 b RB H'->K .ret fr' H') ->
      (∀ (m:Nd) (e3:Nat) (fr':Fr) (H':Heap) (v':AV),zT fr' [6,0,4,5]=[(6,pR n6),(0,pR b),(4,pR n4),(5,pR n5)]->H'[b]?=some (rP s e3 (d+1))->H'[n5]?=some (.box (zAj t v'))->H'[n4]?=some (.box (ndC zZ))->(∃ c0 c1 c2 c3,H'[n6]?=some (.box [c0,c1,c2,c3]))->Owns H0 H' v' 12 ((ks++[m]).map ndV)->OldB H0 b (rP s e3 (d+1)) H'->a<e3->e3<=s.length->AR C b s d t (ks++[m]) e3 RV RB->K (.exit 1) fr' H') ->
      EW C GT caI K [(6,pR n6),(0,pR b),(4,pR n4),(5,pR n5)] H1 by
    have hgo:=fun K x y=>zQS (fr2:=[(6,pR n6),(0,pR b),(4,pR n4),(5,pR n5)]) hfr1 (key K x y);refine hgo _ (fun m fr' H' v' hv g1 g2 g3 g4=>?_) (fun m e3 fr' H' v' g1 g2 g3 g4 g5 g6 g7 g8 g9 g10=>?_)
    · obtain ⟨H2',hz,hob2⟩:=zMk t g3 rfl g4
      exact zAH (o:=0) (.agg (zAj t v')) (by rw [hv,zMj]) rfl rfl (by rw [g1];exact zI g2) rfl hz (zKB _ _ _) hob2 (hRB _)
    · exact zAR (CaS.mk e3 v' (ks++[m])) (by show zT (zT fr' [6,0,4,5]) [6,0,4,5]=_;rw [g1];rfl) ⟨g7,g2,g4,g3,g5,g6,by simp only;omega,g9,by simp only [zlH,zlE,zlL];omega,g10⟩ (by simp only;omega)
  intro K hret hcont;clear hfr1 fr1;have htk:=fun H=>hT a H hal;rw [zHI] at htk;have htl:=zWI hal hl;have hel:=zK5 hal;have p1:∀ (rv:List AV) (ok:Bool),(∃ r0 r1 r2 r3,rv=[r0,r1,r2,r3])->(AV.agg rv).cells.all AV.one=true->(∀ H,C zm [.str (tkT (tok s a))] H (.tup [.agg rv,.bool ok]) H) ->
      (∀ fr' H' n7 n9,zT fr' [6,0,4,5,9,7,8]=[(6,pR n6),(0,pR b),(4,pR n4),(5,pR n5),(9,pR n9),(7,pR n7),(8,.bool ok)]->n7=H1.length->n9=H1.length+1->H'[n7]?=some (.box rv)->H'[n9]?=some (.box (ndC zZ))->H'[n6]?=some (.box [zK (tkK (tok s a)),zK (skip s a),zK (tkE (skip s a) (tok s a)),.str (tkT (tok s a))])->H'[b]?=some (rP s a (d+1))->H'[n4]?=some (.box (ndC zZ))->H'[n5]?=some (.box (zAj t v))->Owns H0 H' v 12 (ks.map ndV)->OldB H0 b (rP s a (d+1)) H' ->
        EW C GT (.seq caA caT) K fr' H')->EW C GT caI K [(6,pR n6),(0,pR b),(4,pR n4),(5,pR n5)] H1:=by
    intro rv ok ⟨r0,r1,r2,r3,hrv⟩ hro hr h;refine ziD (.seq caA caT) _ b n4 n5 n6 s a (d+1) _ _ _ _ rv ok H1 [c0,c1,c2,c3] rfl c0 c1 c2 c3 rfl hb h6 tO htk hr r0 r1 r2 r3 hrv hro (fun fr' H' n7 n9 g1 g2 g3 g4=>?_);subst g2 g3 g4;have ho1:=(((how.setBox h6 (.box [zK (tkK (tok s a)),zK (skip s a),zK (tkE (skip s a) (tok s a)),.str (tkT (tok s a))])).push (ABlk.box zP)).setBox (c:=H1.length) (cs:=zP) (by have:=zB (H:=H1.set n6 (.box [zK (tkK (tok s a)),zK (skip s a),zK (tkE (skip s a) (tok s a)),.str (tkT (tok s a))])) (x:=ABlk.box zP);rw [zlP] at this;exact this) (.box rv)).push (ABlk.box (ndC zZ));have hO1:=(((hob.set (c:=n6) tO (.box [zK (tkK (tok s a)),zK (skip s a),zK (tkE (skip s a) (tok s a)),.str (tkT (tok s a))])).push [ABlk.box zP]).set (c:=H1.length) tO (.box rv)).push [ABlk.box (ndC zZ)];exact h fr' _ _ _ g1 rfl rfl hP (by have:=zB (H:=((H1.set n6 (.box [zK (tkK (tok s a)),zK (skip s a),zK (tkE (skip s a) (tok s a)),.str (tkT (tok s a))]))++[ABlk.box zP]).set H1.length (.box rv)) (x:=ABlk.box (ndC zZ));rw [show (((H1.set n6 (.box [zK (tkK (tok s a)),zK (skip s a),zK (tkE (skip s a) (tok s a)),.str (tkT (tok s a))]))++[ABlk.box zP]).set H1.length (.box rv)).length=H1.length+1 from by simp] at this;exact this) hP hP hP hP ho1 hO1
  have fin:∀ (m:Nd) (e2:Nat) (fr2:Fr) (H' H2:Heap) (n9:Nat),a<e2->e2<=s.length->AN C b s d t (ks++[m]) e2 RV RB->zT fr2 [6,0,4,5,9]=[(6,pR n6),(0,pR b),(4,pR n4),(5,pR n5),(9,pR n9)]->H0.length<=n9->n4≠n9->n5≠n9->n6≠n9->H'[n9]?=some (.box (ndC zZ))->H'[n6]?=some (.box [zK (tkK (tok s a)),zK (skip s a),zK (tkE (skip s a) (tok s a)),.str (tkT (tok s a))])->H'[b]?=some (rP s a (d+1))->H'[n4]?=some (.box (ndC zZ))->H'[n5]?=some (.box (zAj t v))->Owns H0 H' v 12 (ks.map ndV)->OldB H0 b (rP s a (d+1)) H' ->
      H2[b]?=some (rP s e2 (d+1))->H2[n9]?=some (.box (ndC m))->Kp H' H2 b n9->EW C GT caT K fr2 H2:=by
    intro m e2 fr2 H' H2 n9 ha2 he2 hAN g1 g9 d49 d59 d69 k9 k6 kb k4 k5 ko kO f1 f2 kp;have htk2:=fun H=>hT e2 H he2;rw [zHI] at htk2;have hend:=zB7 s e2;rcases hAN with ⟨e3,hk,hA⟩|⟨e3,hk,hv,hB⟩|⟨n44,n41,hv,hB⟩
    · rw [hk] at htk2 hend
      have hend:e2<e3/\e3<=s.length:=hend;exact zY0 K b n4 n5 n6 n9 s (d+1) t m ks v _ H0 H2 fr2 g1 (kp.old kO g9 f1) (kp.owns ko kb k9) tO (kp.1 _ _ k4 tO d49) (kp.1 _ _ k5 tO d59) _ _ _ _ (kp.1 _ _ k6 tO d69) f2 tO tO tO g9 tO tO tO e2 _ _ e3 _ htk2 rfl rfl rfl f1
        (fun fr' H' v' g1 g2 g3 g4 g5 g6 g7=>hcont m e3 fr' H' v' g1 g2 g3 g4 g5 g6 g7 tO hend.2 hA)
    · rw [hk] at htk2
      have hc:=fun H h=>hC1 b s e2 d e3 H h he2 hl hd hk;rw [<-hB] at hc;exact zXU K b n4 n5 n6 n9 s (d+1) t m ks v _ H0 H2 fr2 g1 (kp.old kO g9 f1) (kp.owns ko kb k9) tO (kp.1 _ _ k4 tO d49) (kp.1 _ _ k5 tO d59) _ _ _ _ (kp.1 _ _ k6 tO d69) f2 tO tO tO g9 tO tO tO e2 _ _ e3 _ htk2 rfl (fun h=>by cases h) rfl f1 RB hc
        (fun fr' H' v' g1 g2 g3 g4=>hret m fr' H' v' hv g1 g2 g3 g4)
    · have hc:=fun H h=>hC2 b s e2 d H h he2 hl hd n41
      rw [<-hB] at hc;by_cases h4:tkK (tok s e2)=4
      · have h44:tkT (tok s e2)≠[44]:=fun x=>by
          cases hk:tok s e2 <;> rw [hk] at h4 x <;> simp only [tkK,tkT] at h4 x
          all_goals first|omega|(subst x;exact n44 ⟨_,hk⟩)
        exact zXU K b n4 n5 n6 n9 s (d+1) t m ks v _ H0 H2 fr2 g1 (kp.old kO g9 f1) (kp.owns ko kb k9) tO (kp.1 _ _ k4 tO d49) (kp.1 _ _ k5 tO d59) _ _ _ _ (kp.1 _ _ k6 tO d69) f2 tO tO tO g9 tO tO tO e2 _ _ _ _ htk2 h4 h44 rfl f1 RB hc
          (fun fr' H' v' g1 g2 g3 g4=>hret m fr' H' v' hv g1 g2 g3 g4)
      · exact ze9 K b n4 n5 n6 n9 s (d+1) t m ks v _ H0 H2 fr2 g1 (kp.old kO g9 f1) (kp.owns ko kb k9) tO (kp.1 _ _ k4 tO d49) (kp.1 _ _ k5 tO d59) _ _ _ _ (kp.1 _ _ k6 tO d69) f2 tO tO tO g9 tO tO tO e2 _ _ _ _ htk2 h4 rfl f1 RB hc
          (fun fr' H' v' g1 g2 g3 g4=>hret m fr' H' v' hv g1 g2 g3 g4)
  have fbad:∀ (m:Nd) (a2:Nat) (w ee dd:Int) (fr2:Fr) (H' H2:Heap) (n9:Nat),ee≠0->a2<=s.length->RV=ndV (zA0 t (ks++[m]))->RB=clB s a2 w ee dd->zT fr2 [6,0,4,5,9]=[(6,pR n6),(0,pR b),(4,pR n4),(5,pR n5),(9,pR n9)]->H0.length<=n9->n4≠n9->n5≠n9->n6≠n9->H'[n9]?=some (.box (ndC zZ))->H'[n6]?=some (.box [zK (tkK (tok s a)),zK (skip s a),zK (tkE (skip s a) (tok s a)),.str (tkT (tok s a))])->H'[b]?=some (rP s a (d+1))->H'[n4]?=some (.box (ndC zZ))->H'[n5]?=some (.box (zAj t v))->Owns H0 H' v 12 (ks.map ndV)->OldB H0 b (rP s a (d+1)) H' ->
      H2[b]?=some (pB s a2 w ee dd)->H2[n9]?=some (.box (ndC m))->Kp H' H2 b n9->EW C GT caT K fr2 H2:=by
    intro m a2 w ee dd fr2 H' H2 n9 hee he2 hv hB g1 g9 d49 d59 d69 k9 k6 kb k4 k5 ko kO f1 f2 kp;have htk2:=fun H=>hT a2 H he2;rw [zHI] at htk2;have hc:=fun H h=>hC3 b s a2 w ee dd H h hee he2 hl;have hB':pB s (tkE (skip s a2) (tok s a2):Nat) w ee (IntKind.wrap .i64 (dd-1))=RB:=hB.symm;rw [hB'] at hc;exact zbn K b n4 n5 n6 n9 s (d+1) t m ks v _ H0 H2 fr2 g1 (kp.old kO g9 f1) (kp.owns ko kb k9) tO (kp.1 _ _ k4 tO d49) (kp.1 _ _ k5 tO d59) _ _ _ _ (kp.1 _ _ k6 tO d69) f2 tO tO tO g9 tO tO tO a2 _ _ _ _ htk2 w ee dd hee rfl f1 RB hc
      (fun fr' H' v' g1 g2 g3 g4=>hret m fr' H' v' hv g1 g2 g3 g4)
  have hD30:(d+1:Nat)=d+1:=rfl;have hRr:=fun H=>hR (tkT (tok s a)) H htl;have lo:zD1 s a=none->(∀ (fr':Fr) (H':Heap) (n9:Nat) (m:Nd) (B:ABlk),(∀ H,H[b]?=some (rP s a (d+1))->C zX [pR b,.int .i64 1] H (ndV m) (H.set b B))->(∀ fr2 H2,zT fr2 [6,0,4,5,9]=[(6,pR n6),(0,pR b),(4,pR n4),(5,pR n5),(9,pR n9)]->H2[b]?=some B->H2[n9]?=some (.box (ndC m))->Kp H' H2 b n9->EW C GT caT K fr2 H2)->True)->True:=fun _ _=>trivial;have outs:zD1 s a=none->∃ (m:Nd) (B:ABlk),(∀ H,H[b]?=some (rP s a (d+1))->C zX [pR b,.int .i64 1] H (ndV m) (H.set b B)) /\
      (∀ (fr2:Fr) (H' H2:Heap) (n9:Nat),zT fr2 [6,0,4,5,9]=[(6,pR n6),(0,pR b),(4,pR n4),(5,pR n5),(9,pR n9)]->H0.length<=n9->n4≠n9->n5≠n9->n6≠n9->H'[n9]?=some (.box (ndC zZ))->H'[n6]?=some (.box [zK (tkK (tok s a)),zK (skip s a),zK (tkE (skip s a) (tok s a)),.str (tkT (tok s a))])->H'[b]?=some (rP s a (d+1))->H'[n4]?=some (.box (ndC zZ))->H'[n5]?=some (.box (zAj t v))->Owns H0 H' v 12 (ks.map ndV)->OldB H0 b (rP s a (d+1)) H' ->
        H2[b]?=some B->H2[n9]?=some (.box (ndC m))->Kp H' H2 b n9->EW C GT caT K fr2 H2):=by
    intro hbn;cases hlr:(P s).loose 1 a (d+1) with
    | some x=>
      obtain ⟨m,e2⟩:=x;have hx:=(zDA s).loose 1 a (d+1) _ hal hlr;simp only at hx;have hps:zFk s (P s) a (d+1)=some (m,e2):=by unfold zFk;rw [hbn];exact hlr
      exact ⟨m,rP s e2 (d+1),(hLo a hea hal).1 m e2 hlr,fun fr2 H' H2 n9=>fin m e2 fr2 H' H2 n9 hx.1 hx.2 (hAR.ok hal hps)⟩
    | none=>
      obtain ⟨nw,W,hW,hlo,hv,hB⟩:=hAR.lw hal hbn hlr;exact ⟨nw,W.blk s,hlo,fun fr2 H' H2 n9=>fbad nw W.a W.w W.e W.d fr2 H' H2 n9 hW.1 hW.2 hv hB⟩
  clear lo;by_cases hbx:∃ e1 w1 r1,tok s a=.word e1 w1/\zFG w1=some r1/\s[e1]?=some 58
  · obtain ⟨e1,w1,r1,ht,hr1,h58⟩:=hbx
    have he1:=(zl_ h58);have hbi:=zkH ht hr1 h58;have hal2:e1+1<=s.length:=by omega
    have htk2:=fun H=>hT (e1+1) H hal2;rw [zHI] at htk2;have hel2:=zK5 hal2;have hends:=zB7 s (e1+1);have hend1:=zB7 s a;rw [ht] at hend1;have hend1:a<e1/\e1<=s.length:=hend1;have hRr2:=fun H=>hR (tkT (tok s (e1+1))) H (zWI hal2 hl);have hsk2:=zFt s (e1+1);have hem:e1<tkE (skip s (e1+1)) (tok s (e1+1)):=by
      cases hk:tok s (e1+1) <;> rw [hk] at hends <;> simp only [tkE,Tok.endsBy] at hends ⊢ <;> omega
    have hff:=fun H (h:H[b]?=some (rP s a (d+1)))=>hF b s a (d+1:Nat) (e1+1:Nat) 2 H h;rw [ht] at hRr;have hRr:∀ H,C zm [.str w1] H (zUj (zFG w1)) H:=hRr;rw [hr1] at hRr;refine p1 [zH r1.col,zH r1.row,.bool r1.fc,.bool r1.fr] true ⟨_,_,_,_,rfl⟩ rfl (fun H=>by rw [ht];exact hRr H) (fun fr' H' n7 n9 g1 g2 g3 k7 k9 k6 kb k4 k5 ko kO=>?_);have k6':H'[n6]?=some (.box [zK 1,zK (skip s a),zK e1,.str w1]):=by rw [k6,ht];rfl
    have q9:H0.length<=n9:=by omega
    by_cases hq:skip s (e1+1)=e1+1
    · by_cases hk1:tkK (tok s (e1+1))=1
      · cases hx2:zFG (tkT (tok s (e1+1))) with
        | some r2=>
          rw [hx2] at hRr2;have hps:zFk s (P s) a (d+1)=some (zA2 r1 r2,tkE (skip s (e1+1)) (tok s (e1+1))):=by unfold zFk;rw [hbi,zlF ⟨hq,hk1⟩,hx2];rfl
          have hAN:=hAR.ok hal hps;exact ze5 caT K b n4 n5 n6 n7 n9 true s a (d+1) 1 _ e1 w1 H' fr' g1 kb k6' k9 tO tO tO hend1.2 hl r1 r2 k7 tO tO _ _ _ _ htk2 hRr2 hq hk1 rfl rfl h58 _ rfl _ rfl
            (fun fr2 H2 z1 z2 z3 z4=>fin _ _ fr2 H' H2 n9 tO hel2 hAN z1 q9 tO tO tO k9 k6 kb k4 k5 ko kO z2 z3 z4)
        | none=>
          rw [hx2] at hRr2;have hbn:zD1 s a=some none:=by rw [hbi,zlF ⟨hq,hk1⟩,hx2];rfl
          obtain ⟨hv,hB⟩:=hAR.bx hal hbn ht hr1;rw [hx2] at hv;exact ze8 caT K b n4 n5 n6 n7 n9 true s a (d+1) 1 _ e1 w1 H' fr' g1 kb k6' k9 tO tO tO hend1.2 hl r1 noRef k7 tO tO _ _ _ _ htk2 hRr2 hq hk1 hff rfl rfl h58 _ rfl _ rfl
            (fun fr2 H2 z1 z2 z3 z4=>fbad _ _ _ 2 _ fr2 H' H2 n9 zD_ hel2 hv hB z1 q9 tO tO tO k9 k6 kb k4 k5 ko kO z2 z3 z4)
      · have hbn:zD1 s a=some none:=by rw [hbi,zlD (fun x=>hk1 x.2)]
        obtain ⟨hv,hB⟩:=hAR.bx hal hbn ht hr1;have hrr:∀ H,C zm [.str (tkT (tok s (e1+1)))] H (.tup [.agg [zH ((zFG (tkT (tok s (e1+1)))).getD noRef).col,zH ((zFG (tkT (tok s (e1+1)))).getD noRef).row,.bool ((zFG (tkT (tok s (e1+1)))).getD noRef).fc,.bool ((zFG (tkT (tok s (e1+1)))).getD noRef).fr],.bool (zFG (tkT (tok s (e1+1)))).isSome]) H:=fun H=>by
          have:=hRr2 H;cases hx2:zFG (tkT (tok s (e1+1))) with
          |some r2=>rw [hx2] at this;exact this
          |none=>rw [hx2] at this;exact this
        exact ze7 caT K b n4 n5 n6 n7 n9 true s a (d+1) 1 _ e1 w1 H' fr' g1 kb k6' k9 tO tO tO hend1.2 hl r1 _ k7 tO tO _ _ _ _ htk2 _ hrr hq hk1 hff rfl rfl h58 _ rfl _ rfl
          (fun fr2 H2 z1 z2 z3 z4=>fbad _ _ _ 2 _ fr2 H' H2 n9 zD_ hel2 hv hB z1 q9 tO tO tO k9 k6 kb k4 k5 ko kO z2 z3 z4)
    · have hbn:zD1 s a=some none:=by rw [hbi,zlD (fun x=>hq x.1)]
      obtain ⟨hv,hB⟩:=hAR.bx hal hbn ht hr1;have hrr:∀ H,C zm [.str (tkT (tok s (e1+1)))] H (.tup [.agg [zH ((zFG (tkT (tok s (e1+1)))).getD noRef).col,zH ((zFG (tkT (tok s (e1+1)))).getD noRef).row,.bool ((zFG (tkT (tok s (e1+1)))).getD noRef).fc,.bool ((zFG (tkT (tok s (e1+1)))).getD noRef).fr],.bool (zFG (tkT (tok s (e1+1)))).isSome]) H:=fun H=>by
        have:=hRr2 H;cases hx2:zFG (tkT (tok s (e1+1))) with
        |some r2=>rw [hx2] at this;exact this
        |none=>rw [hx2] at this;exact this
      exact ze6 caT K b n4 n5 n6 n7 n9 true s a (d+1) 1 _ e1 w1 H' fr' g1 kb k6' k9 tO tO tO hend1.2 hl r1 _ k7 tO tO _ _ _ _ htk2 _ hrr hq hff rfl rfl h58 _ rfl _ rfl
        (fun fr2 H2 z1 z2 z3 z4=>fbad _ _ _ 2 _ fr2 H' H2 n9 zD_ hel2 hv hB z1 q9 tO tO tO k9 k6 kb k4 k5 ko kO z2 z3 z4)
  · obtain ⟨m,B,hlo,hfin⟩:=outs (zWJ hbx)
    cases hx:zFG (tkT (tok s a)) with
    | none=>
      rw [hx] at hRr;refine p1 zP false ⟨_,_,_,_,rfl⟩ rfl hRr (fun fr' H' n7 n9 g1 g2 g3 k7 k9 k6 kb k4 k5 ko kO=>?_);have q9:H0.length<=n9:=by omega
      by_cases hk1:tkK (tok s a)=1
      · exact ziE caT K b n4 n5 n6 n7 n9 false s a (d+1) _ _ _ _ H' fr' g1 kb k6 k9 tO tO tO hel hl m B hlo hk1 rfl
          (fun fr2 H2 z1 z2 z3 z4=>hfin fr2 H' H2 n9 z1 q9 tO tO tO k9 k6 kb k4 k5 ko kO z2 z3 z4)
      · exact zbm caT K b n4 n5 n6 n7 n9 false s a (d+1) _ _ _ _ H' fr' g1 kb k6 k9 tO tO tO hel hl m B hlo hk1
          (fun fr2 H2 z1 z2 z3 z4=>hfin fr2 H' H2 n9 z1 q9 tO tO tO k9 k6 kb k4 k5 ko kO z2 z3 z4)
    | some r1=>
      rw [hx] at hRr;refine p1 [zH r1.col,zH r1.row,.bool r1.fc,.bool r1.fr] true ⟨_,_,_,_,rfl⟩ rfl hRr (fun fr' H' n7 n9 g1 g2 g3 k7 k9 k6 kb k4 k5 ko kO=>?_);have q9:H0.length<=n9:=by omega
      by_cases hk1:tkK (tok s a)=1
      · by_cases hle:s.length<=tkE (skip s a) (tok s a)
        · exact ziF caT K b n4 n5 n6 n7 n9 true s a (d+1) _ _ _ _ H' fr' g1 kb k6 k9 tO tO tO hel hl m B hlo hk1 rfl hle
            (fun fr2 H2 z1 z2 z3 z4=>hfin fr2 H' H2 n9 z1 q9 tO tO tO k9 k6 kb k4 k5 ko kO z2 z3 z4)
        · obtain ⟨c,hc⟩:∃ c,s[tkE (skip s a) (tok s a)]?=some c:=⟨_,zlI tO⟩
          have hc58:c.toNat≠58:=fun h=>by
            have h58:c=58:=zlc.1 h;subst h58;cases hk:tok s a <;> rw [hk] at hk1 hc hx <;> simp only [tkK,tkE,tkT] at hk1 hc hx
            all_goals first|omega|exact hbx ⟨_,_,_,hk,hx,hc⟩
          exact ziG caT K b n4 n5 n6 n7 n9 true s a (d+1) _ _ _ _ H' fr' g1 kb k6 k9 tO tO tO hel hl m B hlo hk1 rfl c hc hc58
            (fun fr2 H2 z1 z2 z3 z4=>hfin fr2 H' H2 n9 z1 q9 tO tO tO k9 k6 kb k4 k5 ko kO z2 z3 z4)
      · exact zbm caT K b n4 n5 n6 n7 n9 true s a (d+1) _ _ _ _ H' fr' g1 kb k6 k9 tO tO tO hel hl m B hlo hk1
          (fun fr2 H2 z1 z2 z3 z4=>hfin fr2 H' H2 n9 z1 q9 tO tO tO k9 k6 kb k4 k5 ko kO z2 z3 z4)
end
theorem AF'.shape {C:CSpec} {b:Nat} {s:Bs} {d:Nat} {ks:List Nd} {a:Nat} {L:List Nd} {RB:ABlk} (h:AF' C b s d ks a L RB):a<=s.length->∃ (a':Nat) (w e d':Int),e≠0/\a'<=s.length/\RB=pB s a' w e d':=by
  induction h with
  | box ks a e1 w1 r1 ht hr h58 hn=>
    intro ha;have h1:=zl_ h58;exact ⟨_,_,2,_,by decide,zK5 (zK5 tO),rfl⟩
  |lo ks a nw W hn hl hW h=>intro ha;exact ⟨_,_,_,_,hW.1,zK5 hW.2,rfl⟩
  | close ks a m e2 h h44 h41=>
    intro ha;have hx:=zIL (zDA s) a (d+1) _ ha h;exact ⟨_,_,2,_,by decide,zK5 hx.2,rfl⟩
  | later ks a m e2 e3 L RB h h44 k ih=>
    intro ha;have ht:=zB7 s e2;rw [h44] at ht;simp only [Tok.endsBy] at ht;exact ih tO
section
variable {C:CSpec} {GT:zG_}
theorem zfA (hT:∀ s a H,a<=s.length->s.length<=1000->C zY [.str s,zK a] H (tkV s a) H)
    (hR:∀ s H,s.length<=200->C zm [.str s] H (zUj (zFG s)) H)
    (hF:∀ b s p d a e H,H[b]?=some (pB s p 0 0 d)->C zc [pR b,zH a,zH e] H (.tup []) (H.set b (pB s p a e d)))
    (hC1:∀ b s p d e H,H[b]?=some (rP s p (d+1))->p<=s.length->s.length<=200->d<=1000->tok s p=.sign e [41]->C zb [pR b] H (.tup []) (H.set b (rP s e d)))
    (hC2:∀ b s p d H,H[b]?=some (rP s p (d+1))->p<=s.length->s.length<=200->d<=1000->(¬ ∃ e,tok s p=.sign e [41])->C zb [pR b] H (.tup []) (H.set b (pB s (tkE (skip s p) (tok s p):Nat) (skip s p:Nat) 2 d)))
    (hC3:∀ b s (p:Nat) w e d H,H[b]?=some (pB s p w e d)->e≠0->p<=s.length->s.length<=200->C zb [pR b] H (.tup []) (H.set b (pB s (tkE (skip s p) (tok s p):Nat) w e (IntKind.wrap .i64 (d-1)))))
    (b:Nat) (s t:Bs) (e d:Nat) (h40:s[e]?=some 40) (hl:s.length<=200) (hd:d<=1000)
    (hLo:∀ a,e<a->a<=s.length->CF C zX [pR b,.int .i64 1] b s a (d+1) ((P s).loose 1 a (d+1))) :
    (∀ n e2,zJY s t e (d+1)=some (n,e2)->∀ H,H[b]?=some (rP s e (d+1))->zCw C GT zBt [pR b,.str t] H b [] .undef (some (ndV n,rP s e2 d))) /\
    (zJY s t e (d+1)=none->∃ (n:Nd) (a:Nat) (w e' d':Int),e'≠0/\a<=s.length/\∀ H,H[b]?=some (rP s e (d+1))->zCw C GT zBt [pR b,.str t] H b [] .undef (some (ndV n,pB s a w e' d'))):=by
  have he:=zl_ h40;have htk:=fun H=>hT s (e+1) H tO tO;have main:(¬ ∃ e2,tok s (e+1)=.sign e2 [41])->∀ (RV:AV) (RB:ABlk),(∀ k,zHi k RB=true)->AR C b s d t [] (e+1) RV RB->∀ H,H[b]?=some (rP s e (d+1))->zCw C GT zBt [pR b,.str t] H b [] .undef (some (RV,RB)):=by
    intro hno RV RB hRB hAR H hb;have htk:=htk;rw [zHI] at htk;refine zAJ ?_;refine zbp caE _ b s t e (d+1) _ _ _ _ H hb tO (by exact_mod_cast htk) (fun fr' H' n4 n5 n6 e4 e5 e6 hfr hob hb1 h4 h5 h6=>?_);refine ziI (.seq (.block 0 [4,5] (.loop [6,0,4,5] zB1)) caE.rest.rest) _ b n4 n5 n6 _ _ _ _ H' fr' hfr h6 (fun hx=>?_) (fun fr2 hfr2=>?_)
    · cases hk:tok s (e+1) <;> rw [hk] at hx <;> simp only [tkK,tkT] at hx
      all_goals first|omega|(obtain ⟨_,rfl⟩:=hx;exact hno ⟨_,hk⟩)
    · exact zY1 hT hR hF hC1 hC2 hC3 _ b s t d e (e+1) n4 n5 n6 _ [] H H' fr2 hfr2 hl hd e4 e5 e6 hob hb1 h4 h5 ⟨_,_,_,_,h6⟩ (.inl ⟨rfl,rfl⟩) tO tO zS_ hLo RV RB hRB hAR
  by_cases h41:∃ e2,tok s (e+1)=.sign e2 [41]
  · obtain ⟨e2,h41⟩:=h41
    have hcs:zJY s t e (d+1)=some (zA0 t [],e2):=by unfold zJY;simp only [h41]
    rw [hcs];refine ⟨fun n e3 h H hb=>?_,fun h=>by cases h⟩;cases h;have htk:=htk;rw [zHI,h41] at htk;refine zAJ ?_;refine zbp caE _ b s t e (d+1) _ _ _ _ H hb tO (by exact_mod_cast htk) (fun fr' H' n4 n5 n6 e4 e5 e6 hfr hob hb1 h4 h5 h6=>?_);refine ziJ caE.rest _ b n4 n5 n6 _ _ _ t _ (rP s (e+1) (d+1)) (rP s e2 d) H H' fr' hfr h6 rfl rfl hob hb1 h4 h5 tO tO tO (fun H h=>hC1 b s (e+1) d e2 H h tO hl hd h41) (fun fr2 H2 g1 g2 g3=>?_);obtain ⟨H2',hz,hob2⟩:=zMk (H0:=H) (xs:=[]) t (.inl ⟨rfl,rfl⟩) rfl g3;exact zAH (o:=0) (.agg (zAj t (.lst (some true) 0 []))) rfl rfl rfl (by rw [g1];exact zI g2) rfl hz (zKB _ _ []) hob2 rfl
  · have hcs:zJY s t e (d+1)=(P s).args t [] (e+1) (d+1):=by
      unfold zJY;split
      · rename_i e2 hk;exact absurd ⟨e2,hk⟩ h41
      · rfl
    rw [hcs];refine ⟨fun n e2 h H hb=>main h41 _ _ (fun _=>rfl) (.inl ⟨n,e2,h,rfl,rfl⟩) H hb,fun h=>?_⟩;obtain ⟨L,RB,hL⟩:=zbo (C:=C) (t:=t) e hLo (s.length-(e+1)) [] (e+1) tO tO (zlK _) h;obtain ⟨a',w,ee,d',g1,g2,g3⟩:=hL.shape tO;exact ⟨zA0 t L,a',w,ee,d',g1,g2,fun H hb=>by rw [<-g3];exact main h41 _ _ (by rw [g3];exact fun _=>rfl) (.inr ⟨L,hL,rfl⟩) H hb⟩
end
end Go.AM
