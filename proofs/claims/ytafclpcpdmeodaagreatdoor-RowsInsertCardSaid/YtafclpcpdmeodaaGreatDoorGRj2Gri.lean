/- Several texts of mine in one (Rj2, Gri). Own work. -/
import Derived.Test.YtafclpcpdmeodaaGreatDoorGAm30Fp1
import Derived.Test.YtafclpcpdmeodaaGreatDoorGOweGpr
import Derived.Test.YtafclpcpdmeodaaGreatDoorXc
import Derived.Test.YtafclpcpdmeodaaGreatDoorGGqAm32
import Derived.Test.YtafclpcpdmeodaaGreatDoorGArfMg1
import Derived.Test.YtafclpcpdmeodaaGreatDoorGSf0Rt0
set_option linter.all false
set_option maxRecDepth 20000
namespace Go.AM
theorem sBlkR {id:Nat} {L:List Nat} {K:Post} {fr F:Fr} {H:Heap} (h:zT fr L=F) (k:K .normal F H):zKa id L K .normal fr H:=by
 show K .normal (zT fr L) H;rw [h];exact k
theorem chgL_keys {cf:Fil->Nat×Bool×Fil} {rw_:Bs->Nat×Bs} {l:List Fil} (hn:(l.map zLR).Nodup) (hi:∀ f∈l,∀ g∈l,(cf f).2.1=true->(cf g).2.1=true->zLR (cf f).2.2=zLR (cf g).2.2->zLR f=zLR g):((zMf cf rw_ l).map zLR).Nodup:=by
 unfold List.Nodup at hn ⊢;rw [List.pairwise_map] at hn ⊢;unfold zMf;rw [List.pairwise_filterMap];refine List.Pairwise.imp_of_mem (fun {a b} ha hb hab=>?_) hn;intro x hx y hy e;unfold chgF at hx hy;split at hx
 ·split at hy
  ·cases hx;cases hy;exact hab (hi a ha b hb (by assumption) (by assumption) e)
  ·cases hy
 ·cases hx
theorem zLO (l:List Fil) (h:zB6 l=0):l.length<=200/\(∀ f∈l,zBq f.text=0/\okC f.col f.row=true)/\(l.map zLR).Nodup:=by
 have hg:=goods_of h;refine ⟨hg.len,fun f hf=>?_,srtd_nodup hg.srt⟩;have:=(hg.each f hf).1;unfold mayN at this;by_cases e:okC f.col f.row=false
 ·rw [e] at this;cases this
 ·exact ⟨by simpa [e] using this,by simpa using e⟩
theorem ins_keys {l:List Fil} (hn:(l.map zLR).Nodup) {row:Bool} {at_ many:Int} (h0:0<=many) (rw_:Bs->Nat×Bs):((zMf (zEZ row at_ many) rw_ l).map zLR).Nodup:=by
 refine chgL_keys hn fun f _ g _ hf hg e=>?_;have hc:∀ f:Fil,(zEZ row at_ many f).2.2=zNR row at_ many f:=fun f=>by unfold zEZ;split <;> rfl
 rw [hc,hc] at e;obtain ⟨c,w,t⟩:=f;obtain ⟨c',w',t'⟩:=g;unfold zNR zLR at *;cases row <;> simp only [zQY,zQt,zQz] at e ⊢ <;> (split at e <;> split at e <;> simp only [zQd] at e ⊢ <;> omega)
theorem spanB_P {row:Bool} {a m:Int} (h:zNO row a m=true):spanP row a m:=by
 unfold zNO at h;have h:=zQ2 h;unfold spanP mostK;cases row <;> exact ⟨h.1,h.2.1,h.2.2.1,h.2.2.2⟩
section
variable {C:CSpec} {GT:Nat->Option AV}
set_option maxHeartbeats 8000000 in
theorem rinsert_ev (hG:∀ lv l H,view H 3 lv=some (l.map zl)->C zCa [lv] H (zK (zB6 l)) H) (hSp:∀ row a m H,C zFI [.bool row,zJ a,zJ m] H (.bool (zNO row a m)) H) (hI:InH C)
  (hSo:∀ (b0:Nat) (xs:List Fil) H,xs.length<=200->H[b0]?=some (.row 3 (xs.map zl))->C zCC [.sl (some true) b0 3 0 xs.length] H (lstF 3 ((zJJ xs).map zl)) H) (hS0:∀ H,C zCC [.lst (some true) 0 []] H (.lst (some true) 0 []) H)
  (lv:AV) (l:List Fil) (hlv:zDa lv 3 (l.map zl)) (row:Bool) (at_ many:Int) (hrw:spanP row at_ many->∀ t,zBq t=0->RwH C (ccV 2 row at_ many 0 0 ⟨0,0,0,0⟩) (zNP row at_ many) t) (H:Heap) :
  EFun C GT zIp [lv,.bool row,zJ at_,zJ many] H (.tup [zGU l row at_ many,zK (zGT l row at_ many)]) H:=by
 have g1:=fun H=>hG lv l H (hlv.view H);have s1:=fun H=>hSp row at_ many H;have hlm:(l.map zl).length=l.length:=zQW _;clear hG hSp;by_cases c0:zB6 l=0
 case neg=>
  have en:zGT l row at_ many=zB6 l:=by unfold zGT;rw [zQQ c0]
  have ev:zGU l row at_ many=.lst (some true) 0 []:=by unfold zGU;rw [en,zQN c0]
  rw [ev,en];have ex:(!((zB6 l:Int)==0))=true:=by simp;omega
  generalize zB6 l=n at *;clear hSo hS0 hI hrw;refine zI<|sX ?_
  exact sRv
 obtain ⟨hll,hgd,hnd⟩:=zLO l c0;rw [c0] at g1;cases e1:zNO row at_ many with
 |false=>
  have en:zGT l row at_ many=1:=by unfold zGT;rw [zQN (fun h=>h c0),e1,zQN (by decide)]
  have ev:zGU l row at_ many=.lst (some true) 0 []:=by unfold zGU;rw [en];rfl
  rw [ev,en];rw [e1] at s1;clear hSo hS0 hI hrw;refine zI<|sX ?_
  exact sRv
 |true=>
  have hsp:=spanB_P e1;have hrw:=hrw hsp;rw [e1] at s1;have en:zGT l row at_ many=zLS (zEZ row at_ many) (rewP (zNP row at_ many)) l:=by unfold zGT;rw [zQN (fun h=>h c0),zQQ e1]
  have ev:zGU l row at_ many=zMg (zEZ row at_ many) (rewP (zNP row at_ many)) l:=by unfold zGU zMg;rw [en]
  rw [en,ev];clear en ev;have hm:many<=99/\0<=many:=by
   obtain ⟨_,_,a,b⟩:=hsp;refine ⟨?_,a⟩;unfold mostK at b;split at b <;> omega
  obtain ⟨cf,hcf⟩:∃ cf,zEZ row at_ many=cf:=⟨_,rfl⟩;obtain ⟨rw_,hrwe⟩:∃ r,rewP (zNP row at_ many)=r:=⟨_,rfl⟩;rw [hcf,hrwe];refine zI<|sX ?_;refine zBB (fun z:Nat×AV=>[(13,zK z.1),(12,z.2),(3,zJ many),(2,zJ at_),(1,.bool row),(0,lv)]) (fun z H'=>Old H H'/\z.1<=l.length/\Owns H H' z.2 3 ((zMf cf rw_ (l.take z.1)).map zl)/\zLS cf rw_ (l.drop z.1)=zLS cf rw_ l) (fun z=>l.length-z.1) (0,.lst (some true) 0 []) rfl ⟨Old.refl H,by simp,.inl ⟨rfl,by simp [zMf]⟩,rfl⟩ (fun z H1 hi=>?_)
  obtain ⟨i,out⟩:=z;obtain ⟨ho0,hi,ho,hq⟩:=hi;dsimp only at hi ho hq ⊢;by_cases hlt:i<l.length
  ·obtain ⟨f,hf⟩:∃ f,l[i]?=some f:=⟨_,zQS hlt⟩;have hmem:=zQh hf;have hfm:(l.map zl)[i]?=some (zl f):=by rw [zQa,hf];rfl
   obtain ⟨htx,hok⟩:=hgd f hmem;have hol:((zMf cf rw_ (l.take i)).map zl).length<=200:=by
    rw [zQW];have:=zMh (cf:=cf) (rw_:=rw_) (l.take i);rw [zQk] at this;omega
   have hHl:=ho0.1;have hnb:out.blk≠some H1.length:=fun e=>by have:=(ho.lt e).2;omega
   have hdr:=chgN_drop (cf:=cf) (rw_:=rw_) hf;have htk:=chgL_take (cf:=cf) (rw_:=rw_) hf;rw [hdr] at hq;have hr:=hrw f.text htx;unfold RwH at hr;rw [hrwe] at hr;obtain ⟨⟨e2,t2⟩,h2⟩:∃ z,rw_ f.text=z:=⟨_,rfl⟩;rw [h2] at hr;simp only at hr;have hsh:∀ g:Fil,g.text=f.text->zNR row at_ many f=g->∀ (K:Post),(∀ e fr' H',e≠0->zLS cf rw_ l=e->zLQ fr' 8=.lst (some true) 0 []->zLQ fr' 9=zK e->Old H H'->K .ret fr' H') ->
     (∀ fr' H' out',zT fr' [12,3,2,1,0,13]=[(12,out'),(3,zJ many),(2,zJ at_),(1,.bool row),(0,lv),(13,zK i)]->Old H H'->Owns H H' out' 3 ((zMf cf rw_ (l.take (i+1))).map zl)->zLS cf rw_ (l.drop (i+1))=zLS cf rw_ l->K .normal fr' H') ->
     ∀ H2,H2[H1.length]?=some (.box (zl g).cells)->Old H H2->Owns H H2 out 3 ((zMf cf rw_ (l.take i)).map zl)->EW C GT insTailC K [(3,zJ many),(2,zJ at_),(1,.bool row),(0,lv),(13,zK i),(14,.ref H1.length 0 0 0),(12,out)] H2:=by
    intro g hgt hg K hret hnext H2 hb2 hO2 ho2;have hci:cf f=if okC g.col g.row=true then (0,true,g) else (4,false,g):=by rw [<-hcf];unfold zEZ;rw [hg]
    refine ins_tail hI g e2 t2 (by rw [hgt];exact hr) H1.length i lv out _ hb2 hO2 hHl ho2 hol (fun e fr' H' hd g8 g9 hO'=>?_) (fun fr' H' out' hg0 he2 hfr hO' ho'=>?_)
    ·have hch:chg1 cf rw_ f=e/\e≠0:=by
      unfold chg1;rw [hci];rcases hd with ⟨d1,rfl⟩|⟨d1,d2,rfl⟩
      ·rw [d1];simp
      ·rw [d1,h2];simp [d2]
     rw [hch.1,zQN hch.2] at hq;exact hret e fr' H' hch.2 hq.symm g8 g9 hO'
    ·have hch:chg1 cf rw_ f=0:=by
      unfold chg1;rw [hci,hg0,h2];simp [he2]
     have hcF:chgF cf rw_ f=some ⟨g.col,g.row,t2⟩:=by
      unfold chgF;rw [hci,hg0,h2];simp
     rw [hch,zQQ rfl] at hq;refine hnext fr' H' out' hfr hO' ?_ hq;rw [htk,hcF,zQ5];exact ho'
   clear hI hrw hSo hS0;have hbx0:((H1++[ABlk.box zV3]).set H1.length (.box (zl f).cells))[H1.length]?=some (.box (zl f).cells):=zV zB;have hO2:Old H ((H1++[ABlk.box zV3]).set H1.length (.box (zl f).cells)):=ho0.pushSet _ _;have ho2:Owns H ((H1++[ABlk.box zV3]).set H1.length (.box (zl f).cells)) out 3 ((zMf cf rw_ (l.take i)).map zl):=ho.pushSet _ _;obtain ⟨c,w,t⟩:=f;unfold okC at hok;simp only [zQP,zQf] at hok;obtain ⟨⟨⟨k1,k2⟩,k3⟩,k4⟩:=hok;have w1:IntKind.i64.wrap (c+many)=c+many:=by rw [IntKind.wrap_i64];omega
   have w2:IntKind.i64.wrap (w+many)=w+many:=by rw [IntKind.wrap_i64];omega
   refine sX ?_;refine sSA (zl ⟨c,w,t⟩) ?_;obtain ⟨H2,hH2⟩:∃ H2,(H1++[ABlk.box zV3]).set H1.length (.box (zl ⟨c,w,t⟩).cells)=H2:=⟨_,rfl⟩;rw [hH2] at hbx0 hO2 ho2 ⊢;cases row with
   |true=>
    by_cases hk:at_<=w
    ·have hb2:(H2.set H1.length (.box (zl ⟨c,(w+many),t⟩).cells))[H1.length]?=some (.box (zl ⟨c,(w+many),t⟩).cells):=zV hbx0;have c1:decide (w>=at_)=true:=zQj hk;have hsh:=hsh ⟨c,(w+many),t⟩ rfl (zQQ hk);refine sX ?_;refine zFR w2<|zL (zl ⟨c,(w+many),t⟩).cells hbx0 rfl rfl rfl rfl<|zG<|zG<|zG ?_;refine hsh _ (fun e fr' H' h0 he g8 g9 hO'=>?_) (fun fr' H' out' hfr hO' ho' hq'=>?_) _ hb2 (hO2.set hHl _) (ho2.set hnb _)
     ·have er:AV.tup [zMg cf rw_ l,zK (zLS cf rw_ l)]=.tup [.lst (some true) 0 [],zK e]:=by
       unfold zMg;rw [he,zQN h0]
      rw [er];exact sRet2G rfl rfl g8 g9 rfl rfl hO'
     ·refine sBlkR hfr<|zS (r:=i+1) rfl tO ?_
      exact zAP (i+1,out') rfl ⟨hO',by simp only;omega,ho',hq'⟩ (by simp only;omega)
    ·have c1:decide (w>=at_)=false:=zQs hk;have hsh:=hsh ⟨c,w,t⟩ rfl (zQN hk);refine zD<|zA (.int .i64 w) hbx0 rfl<|zD<|zk c1<|zG<|zG<|zG ?_;refine hsh _ (fun e fr' H' h0 he g8 g9 hO'=>?_) (fun fr' H' out' hfr hO' ho' hq'=>?_) _ hbx0 hO2 ho2
     ·have er:AV.tup [zMg cf rw_ l,zK (zLS cf rw_ l)]=.tup [.lst (some true) 0 [],zK e]:=by
       unfold zMg;rw [he,zQN h0]
      rw [er];exact sRet2G rfl rfl g8 g9 rfl rfl hO'
     ·refine sBlkR hfr<|zS (r:=i+1) rfl tO ?_
      exact zAP (i+1,out') rfl ⟨hO',by simp only;omega,ho',hq'⟩ (by simp only;omega)
   |false=>
    by_cases hk:at_<=c
    ·have hb2:(H2.set H1.length (.box (zl ⟨(c+many),w,t⟩).cells))[H1.length]?=some (.box (zl ⟨(c+many),w,t⟩).cells):=zV hbx0;have c1:decide (c>=at_)=true:=zQj hk;have hsh:=hsh ⟨(c+many),w,t⟩ rfl (zQQ hk);refine sX ?_;refine zFR w1<|zL (zl ⟨(c+many),w,t⟩).cells hbx0 rfl rfl rfl rfl ?_;refine hsh _ (fun e fr' H' h0 he g8 g9 hO'=>?_) (fun fr' H' out' hfr hO' ho' hq'=>?_) _ hb2 (hO2.set hHl _) (ho2.set hnb _)
     ·have er:AV.tup [zMg cf rw_ l,zK (zLS cf rw_ l)]=.tup [.lst (some true) 0 [],zK e]:=by
       unfold zMg;rw [he,zQN h0]
      rw [er];exact sRet2G rfl rfl g8 g9 rfl rfl hO'
     ·refine sBlkR hfr<|zS (r:=i+1) rfl tO ?_
      exact zAP (i+1,out') rfl ⟨hO',by simp only;omega,ho',hq'⟩ (by simp only;omega)
    ·have c1:decide (c>=at_)=false:=zQs hk;have hsh:=hsh ⟨c,w,t⟩ rfl (zQN hk);refine zG<|zG<|zG<|zD<|zA (.int .i64 c) hbx0 rfl<|zD<|zk c1 ?_;refine hsh _ (fun e fr' H' h0 he g8 g9 hO'=>?_) (fun fr' H' out' hfr hO' ho' hq'=>?_) _ hbx0 hO2 ho2
     ·have er:AV.tup [zMg cf rw_ l,zK (zLS cf rw_ l)]=.tup [.lst (some true) 0 [],zK e]:=by
       unfold zMg;rw [he,zQN h0]
      rw [er];exact sRet2G rfl rfl g8 g9 rfl rfl hO'
     ·refine sBlkR hfr<|zS (r:=i+1) rfl tO ?_
      exact zAP (i+1,out') rfl ⟨hO',by simp only;omega,ho',hq'⟩ (by simp only;omega)
  ·have he:l.take i=l:=zQ6 tO;rw [he] at ho;rw [zRD tO] at hq;have hq:zLS cf rw_ l=0:=hq.symm;have er:AV.tup [zMg cf rw_ l,zK (zLS cf rw_ l)]=.tup [lstF 3 ((zJJ (zMf cf rw_ l)).map zl),zK 0]:=by
    unfold zMg;rw [hq];rfl
   have hle:=zMh (cf:=cf) (rw_:=rw_) l;rw [er];generalize zMf cf rw_ l=xs at *;rcases ho with ⟨rfl,h0⟩|⟨bb,rfl,g1,g2,g3⟩
   ·have hl0:xs=[]:=by simpa using h0
    subst hl0;refine sX ?_;exact zAq rfl rfl rfl rfl ho0
   ·have hs:=hSo bb xs H1 tO g2;have hln:(xs.map zl).length=xs.length:=zQW _;rw [hln];clear hSo hS0;have hfz:∀ H:Heap,zEE H.length (.tup [lstF 3 ((zJJ xs).map zl),zK 0]) H1=some (.tup [lstF 3 ((zJJ xs).map zl),zK 0],H1):=fun H=>by
     generalize (zJJ xs).map zl=ys;cases ys <;> rfl
    refine sX ?_;exact zAq rfl rfl (hfz H) (by simp only [AV.bel,AV.belL,lstF_bel,zRt];rfl) ho0
theorem rowsInsert_ev (hR:∀ (lv:AV) (l:List Fil),zDa lv 3 (l.map zl)->∀ row x y H,C zEG [lv,.bool row,zJ x,zJ y] H (.tup [zGU l row x y,zK (zGT l row x y)]) H)
  (hP:∀ (lv:AV) (l:List Fil),zDa lv 3 (l.map zl)->∀ row x y H,C zFt [lv,.bool row,zJ x,zJ y] H (.tup [zGU l row x y,eV (zGT l row x y)]) H)
  (hM:∀ (v v':AV) (l:List Fil) (n:Nat) H,view H 3 v=some (l.map zl)->view H 3 v'=some (l.map zl)->l.length<=1000000->C zFH [v,eV n,v',zK n] H (.bool true) H)
  (lv:AV) (l:List Fil) (hlv:zDa lv 3 (l.map zl)) (row:Bool) (x y:Int) (H:Heap):EFun C GT zFm [lv,.bool row,zJ x,zJ y] H (.bool true) H:=by
 have h1:=hR lv l hlv row x y H;have h2:=hP lv l hlv row x y H;obtain ⟨o,ho,hol⟩:∃ o:List Fil,(∀ H,view H 3 (zGU l row x y)=some (o.map zl))/\o.length<=1000000:=by
  unfold zGU;by_cases e:zGT l row x y=0
  ·rw [zQQ e];refine ⟨_,fun H=>(lstF_of _ _).view H, ?_⟩;have c0:zB6 l=0:=Classical.byContradiction fun h=>by unfold zGT at e;rw [zQQ h] at e;exact h e
   have:=(zLO l c0).1;rw [(zJx _).length_eq];have:=zMh (cf:=zEZ row x y) (rw_:=rewP (zNP row x y)) l;omega
  ·rw [zQN e];exact ⟨[],fun H=>by simp [view],by simp⟩
 have h3:=hM (zGU l row x y) (zGU l row x y) o (zGT l row x y) H (ho H) (ho H) hol;generalize zGU l row x y=v at *;generalize zGT l row x y=n at *;clear hR hP hM;refine zI<|sX ?_
 exact sRv
end
end Go.AM
set_option maxRecDepth 100000
namespace Go.Proofs.YtafclpcpdmeodaaGreatDoor
open Go.AM
open Go.AM Go.RowKit
theorem fl_filsq {x:AV} (h:Fits (.sl true shFil) x):∃ l:List Fil,∃ q,x=.lst (some q) 3 (l.map zl)/\(q=true->l=[]):=by
 obtain ⟨q,xs,e,hq,_⟩:=fl_sl h;obtain ⟨l,q',e',_⟩:=fl_fils h;rw [e] at e';simp only [AV.lst.injEq,zQT] at e';obtain ⟨rfl,_,rfl⟩:=e';exact ⟨l,q,e,fun h=>zSR.1 (hq h)⟩
section
variable {m:Int} {ev:Value} (hev:∃ te pe,ev=.iface te pe)
theorem g_sheets (v w:AV) (l:List Fil) (H:Heap) (hv:view H 3 v=some (l.map zl)) (hw:view H 3 w=some (l.map zl)) (hl:l.length<=1000000):GQ m ev zEI [v,w] H (.bool true) H:=
 zE mixed zOF (ssheets_ev v w l H hv hw hl)
include hev in
theorem g_made (v w:AV) (l:List Fil) (n:Nat) (H:Heap) (hv:view H 3 v=some (l.map zl)) (hw:view H 3 w=some (l.map zl)) (hl:l.length<=1000000):GQ m ev zFH [v,eV n,w,zK n] H (.bool true) H:=
 zE mixed k_scclaw3_made (made_ev (fun n H=>g_errN n H) g_sheets v w l n H hv hw hl) (hn:=by unfold eV;by_cases h:n=0 <;> simp only [h,zQz,zQt] <;> exact Go.AM.zHa (by assumption))
theorem g_along (b:Nat) (row:Bool) (cs:List AV) (H:Heap) (hb:H[b]?=some (.box cs)):GQ m ev zGn [.ref b 0 0 0,.bool row] H (.ref b 0 0 (offV row)) H:=zE mixed k_rows_along (along_ev b row cs H hb)
theorem g_sorted (b:Nat) (xs:List Fil) (H:Heap) (hb:H[b]?=some (.row 3 (xs.map zl))) (hne:xs≠[]) (hl:xs.length<=1000) (hn:(xs.map zLR).Nodup):GQ m ev zDq [.sl (some true) b 3 0 xs.length] H (.sl (some true) b 3 0 xs.length) (H.set b (.row 3 ((zJJ xs).map zl))):=
 zE mixed zL9 (sorted_ev (fun b xs H h1 h2 h3 h4=>good_sort b xs H h1 h2 h3 h4) b xs H hb hne hl hn)
theorem g_sorted0 (H:Heap):GQ m ev zDq [.lst (some true) 0 []] H (.lst (some true) 0 []) H:=zE mixed zL9 (sorted0_ev (fun H=>good_sort0 H) H)
theorem g_span (row:Bool) (a b:Int) (H:Heap):GQ m ev zFC [.bool row,zJ a,zJ b] H (.bool (zNO row a b)) H:=zE mixed k_refs_Span (span_ev row a b H)
theorem g_rspan (row:Bool) (a b:Int) (H:Heap):GQ m ev zFI [.bool row,zJ a,zJ b] H (.bool (zNO row a b)) H:=zE mixed k_sccref2_Span (rspan_ev row a b H)
theorem g_rsorted (b0:Nat) (xs:List Fil) (H:Heap) (hx:xs.length<=200) (hb:H[b0]?=some (.row 3 (xs.map zl))):GQ m ev zCC [.sl (some true) b0 3 0 xs.length] H (lstF 3 ((zJJ xs).map zl)) H:=zE mixed zIz (rsorted_ev (q_ahead refK2) b0 xs H hx hb)
theorem g_rsorted0 (H:Heap):GQ m ev zCC [.lst (some true) 0 []] H (.lst (some true) 0 []) H:=zE mixed zIz (rsorted0_ev H)
theorem g_ralong:AlH (GQ m ev):=fun b row cs H hb=>zE mixed k_refs_along (ralong_ev b row cs H hb)
theorem g_acheck':ACk (GQ m ev):=fun c r H=>g_acheck c r H
theorem ins_isSome (row:Bool) (at_ many:Int) (r:RefP):∀ x,(zNP row at_ many).ref r=some x->insP row at_ many r=x:=fun x h=>by
 have h:(if okRB (insP row at_ many r)=true then some (insP row at_ many r) else none)=some x:=h;split at h
 ·exact zQl h
 ·cases h
theorem g_insRef {row:Bool} {at_ many:Int} (hs:spanP row at_ many) (n1 n2 n3:Nat) (l:List (Nat×ABlk)) (h1:(n1,.box [.bool row])∈l) (h2:(n2,.box [zJ at_])∈l) (h3:(n3,.box [zJ many])∈l):RefQ (GQ m ev) zDR [bR n1,bR n2,bR n3] l (zNP row at_ many).ref:=fun r hr=>
 ⟨insP row at_ many r,fun H hh=>zE mixed zMA (inserted1_ev g_ralong g_acheck' r hr row at_ many hs n1 n2 n3 H (hh _ h1) (hh _ h2) (hh _ h3)),ins_isSome row at_ many r⟩
include hev in
theorem g_inserted {t:Bs} {n:Nd} (hp:zAi t=some n) {row:Bool} {at_ many:Int} (hs:zNO row at_ many=true) (H:Heap):GQ m ev zEj [ndV n,.bool row,zJ at_,zJ many] H (.tup [ndV (onN (zNP row at_ many) n),.nili]) H:=
 zE mixed zPe (inserted_ev g_each g_each1 g_span n row at_ many hs (g_on hp) (g_fcheck hev hp) (fun n1 n2 n3 l a b c=>g_insRef (spanB_P hs) n1 n2 n3 l a b c) H)
include hev in
theorem g_rowsInsert' (lv:AV) (l:List Fil) (hlv:zDa lv 3 (l.map zl)) (row:Bool) (x y:Int) (H:Heap):GQ m ev zFt [lv,.bool row,zJ x,zJ y] H (.tup [zGU l row x y,eV (zGT l row x y)]) H:=
 zE mixed k_rows_Insert (insert_ev (fun lv l H hv=>g_check hev lv l H hv) g_span lv l hlv row x y (fun h0 hs n1 n2 n3 H h1 h2 h3=>by
  obtain ⟨hl,hg,hnd⟩:=zLO l h0;have hsp:=spanB_P hs;have h1b:=(zg h1).1;refine zE mixed k_rows_change (change2_ev zEH zDF [bR n1,bR n2,bR n3] [bR n1,bR n2,bR n3] [(n1,.box [.bool row]),(n2,.box [zJ x]),(n3,.box [zJ y])] lv l ?_ ?_ ?_ ?_ g_sorted g_sorted0 hlv hl (fun _=>ins_keys hnd hsp.2.2.1 _) H (holds3 h1 h2 h3)) (hn:=by obtain ⟨q,k,rfl,_⟩:=hlv;rfl)
  ·intro f hf b H hb hh hlt;exact zE mixed zOD (insertc1_ev g_along g_acheck' f (hg f hf).2 row x y hsp b n1 n2 n3 H hb (hh (n1,_) (by simp)) (hh (n2,_) (by simp)) (hh (n3,_) (by simp)) (hlt (n1,.box [.bool row]) (by simp)) (hlt (n2,.box [zJ x]) (by simp)) (hlt (n3,.box [zJ y]) (by simp)))
  ·intro f _ h;unfold zEZ at h ⊢;split
   ·rename_i h2;rw [zQQ h2] at h;exact absurd rfl h
   ·rfl
  ·intro f _;have ht:(zNR row x y f).text=f.text:=by unfold zNR;split <;> (split <;> rfl)
   unfold zEZ;split <;> exact ht
  ·intro f hf H hh;exact g_rew hev zDF [bR n1,bR n2,bR n3] [(n1,.box [.bool row]),(n2,.box [zJ x]),(n3,.box [zJ y])] (zNP row x y) (insC_ok row x y) f.text (hg f hf).1 (fun n hn H hh=>zE mixed zOE (insertc2_ev n row x y (fun H=>g_inserted hev hn hs H) n1 n2 n3 H (hh (n1,_) (by simp)) (hh (n2,_) (by simp)) (hh (n3,_) (by simp)))) H hh) H) (hn:=by obtain ⟨q,k,rfl,_⟩:=hlv;rfl)
theorem g_rinsRef {row:Bool} {at_ many cols rows:Int} {bx:Bx} (hs:spanP row at_ many):RRef (GQ m ev) (ccV 2 row at_ many cols rows bx) (zNP row at_ many).ref:=fun r hr=>
 ⟨insP row at_ many r,fun H=>zE mixed zOH (rins_ref g_rin r hr hs H),ins_isSome row at_ many r⟩
theorem g_rinsBox {row:Bool} {at_ many cols rows:Int} {bx:Bx} (hs:spanP row at_ many):RBox (GQ m ev) (ccV 2 row at_ many cols rows bx) (zNP row at_ many).box:=fun a b ha hb=>by
 obtain ⟨a',b',h1,h2⟩:=rbox_each (C:=GQ m ev) (GT:=gtQ m ev) (k0:=2) (row:=row) (at_:=at_) (many:=many) (cols:=cols) (rows:=rows) (bx:=bx) _ rfl rfl (g_rinsRef hs) a b ha hb;exact ⟨a',b',fun H=>zE mixed zOI (h1 H),h2⟩
theorem g_rinsert (lv:AV) (l:List Fil) (hlv:zDa lv 3 (l.map zl)) (row:Bool) (x y:Int) (H:Heap):GQ m ev zEG [lv,.bool row,zJ x,zJ y] H (.tup [zGU l row x y,zK (zGT l row x y)]) H:=
 zE mixed zOC (rinsert_ev g_rcheck g_rspan g_rin g_rsorted g_rsorted0 lv l hlv row x y (fun hs t ht=>g_rrew (zNP row x y) (insC_ok row x y) (g_rinsRef hs) (g_rinsBox hs) t ht) H) (hn:=by obtain ⟨q,k,rfl,_⟩:=hlv;rfl)
include hev in
theorem g_rowsInsert {x0:AV} (h0:Fits (.sl true shFil) x0) (row:Bool) (x y:Int) (H:Heap):GQ m ev zFl [x0,.bool row,zJ x,zJ y] H (.bool true) H:=by
 obtain ⟨l,q,rfl,_⟩:=fl_filsq h0;exact zE mixed zKS (rowsInsert_ev g_rinsert (g_rowsInsert' hev) (g_made hev) _ l ⟨_,_,rfl,.inl rfl⟩ row x y H)
end
end Go.Proofs.YtafclpcpdmeodaaGreatDoor
