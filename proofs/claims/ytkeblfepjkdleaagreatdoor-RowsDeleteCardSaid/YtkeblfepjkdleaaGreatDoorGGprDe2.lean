/- Several texts of mine in one (Gpr, Rsg, Grb, De1, De2). Own work. -/
import Derived.Test.YtkeblfepjkdleaaGreatDoorGGqAm32
import Derived.Test.YtkeblfepjkdleaaGreatDoorGOn0Pr3
import Derived.Test.YtkeblfepjkdleaaGreatDoorGBu6Bu3
import Derived.Test.YtkeblfepjkdleaaGreatDoorGRq4On6
import Derived.Test.YtkeblfepjkdleaaGreatDoorGCh1Bg3
import Derived.Test.YtkeblfepjkdleaaGreatDoorAc
import Derived.Test.YtkeblfepjkdleaaGreatDoorGArfMg1
import Derived.Test.YtkeblfepjkdleaaGreatDoorGSf0Rt0
import Derived.Test.YtkeblfepjkdleaaGreatDoorGAm30Fp1
set_option maxHeartbeats 8000000
set_option maxRecDepth 100000
set_option linter.all false
namespace Go.AM
section
variable {C:CSpec} {GT:zG_}
theorem zi2 (b:Bool) (H:Heap):EFun C GT zME [.bool b] H (v3 3 (if b=true then 1 else 0)) H:=by
 cases b
 ·refine zJ ?_;refine zG ?_;refine zx (v:=zV5) rfl ?_;refine zL (v:=AV.agg zV5) (AV.cells (.agg zV5)) zB rfl rfl rfl rfl ?_;exact zAa (o:=0) rfl rfl (zI hP) rfl rfl rfl (((Old.refl _).push _).set (by first|assumption|exact zlK _|simp|omega) _)
 ·refine zJ ?_;refine zE ?_;refine zx (v:=zV7) rfl ?_;refine zL (v:=AV.agg zV7) (AV.cells (.agg zV7)) zB rfl rfl rfl rfl ?_;exact zAa (o:=0) rfl rfl (zI hP) rfl rfl rfl (((Old.refl _).push _).set (by first|assumption|exact zlK _|simp|omega) _)
end
end Go.AM
namespace Go.Proofs.YtkeblfepjkdleaaGreatDoor
open Go.AM
open Go.AM Go.RowKit
theorem zZc {t:Bs} {n:Nd} (h:zAn t=some n):t.head?=some 61:=by
 by_cases h6:t.head?=some 61
 ·exact h6
 ·rw [zNo h6] at h;cases h
theorem zQg {t:Bs} {n:Nd} (h:zAn t=some n):t.length<=200:=by
 unfold zAn at h;split at h
 ·rename_i h0;exact h0.1
 ·cases h
section
variable {m:Int} {ev:Value} (hev:∃ te pe,ev=.iface te pe)
theorem zFY {t:Bs} {n:Nd} (hp:zAn t=some n):Wf false n/\need n<=30/\(txt n).length<=199:=by
 obtain ⟨h1,h2,h3⟩:=zfq hp;have hl:=zQg hp;exact ⟨h1,h2,by omega⟩
theorem zkw {t:Bs} {n:Nd} (hp:zAn t=some n) {c:Chg} (hc:c.ok):Wf false (onN c n)/\need (onN c n)<=30/\(txt (onN c n)).length<=1000/\cnt (onN c n)<=200:=by
 obtain ⟨h1,h2,h3⟩:=zFY hp;have h:=zko hc h1;exact ⟨h.wf,by rw [h.need];exact h2,by have:=h.len;omega,by rw [h.cnt];have:=h.le;omega⟩
theorem zdO {t:Bs} {n:Nd} (hp:zAn t=some n):cnt n<=200:=by
 obtain ⟨h1,h2,h3⟩:=zFY hp;have h:=(zko (zio true 1 0) h1).le;omega
theorem zkx:CkB (GQ m ev):=fun b a v H h1 h2 h3=>zZR b a v H h1 h2 h3
theorem g_wb:WbH (GQ m ev):=fun H0 b u c H hB hO hl=>by
 obtain ⟨v,H',⟨rfl,hT⟩,hg⟩:=zIs mixed (show zt Tryz.prog zk zcL=true from zFi) (zfZ zkx H0 b u c H hB hO hl);exact ⟨H',hg,hT⟩
theorem g_wt:WtH (GQ m ev):=fun H0 b u t H hB hO hl=>by
 obtain ⟨v,H',⟨rfl,hT⟩,hg⟩:=zIs mixed (show zt Tryz.prog za zcM=true from zFF) (zfa zkx H0 b u t H hB hO hl);exact ⟨H',hg,hT⟩
theorem zky:ShowH (GQ m ev) where
 num m H:=zF mixed zVs (zia m H)
 snum k h H:=zF mixed zJ4 (zfW zU9 k h H)
 rep t h H:=zTR t h H
 is x H:=p_is parK x H
 stru x H:=zF mixed zJ4 (zfX x H)
 wrong k H:=zax parK k H
 sbad k h H:=zF mixed zJ4 (zfY rfl k h H)
 ref r h H:=zF mixed zRG (zZL zU9 zkX r h H)
 tight n h H:=zF mixed zQF (zcI n h H)
 sign k h H:=zF mixed zOo (zcK k h H)
theorem zi3 {x:Bool} {n:Nd} (h:Wf x n) (hl:(txt n).length<=1000000):WrH (GQ m ev) n:=
 zch (GT:=gtQ m ev) zky g_wt g_wb (fun n h H0 b u H hB hO hb hl=>by
  obtain ⟨v,H',⟨rfl,hT⟩,hg⟩:=zIs mixed (show zt Tryz.prog zCj zGd=true from zQC) (h H0 b u H hB hO hb hl);exact ⟨H',hg,hT⟩) (fun n h x H0 b u H hB hO hb hl=>by
  obtain ⟨v,H',⟨rfl,hT⟩,hg⟩:=zIs mixed (show zt Tryz.prog zBf zNk=true from zMW) (h x H0 b u H hB hO hb hl);exact ⟨H',hg,hT⟩) h hl
theorem zi4 {x:Bool} {n:Nd} (h:Wf x n) (hl:(txt n).length<=1000):CtH (GQ m ev) n:=
 zco (GT:=gtQ m ev) (fun n h c l H hc h1 h2=>(zAs mixed zQB (h c l H hc h1 h2)).1 _ _ rfl) h hl
theorem zi5:FcH (GQ m ev):=fun n k c H hc=>zF mixed zNb (zci n k c H hc)
theorem zkz {x:Bool} {n:Nd} (h:Wf x n) (hl:(txt n).length<=1000):FmH (GQ m ev) x n:=
 zf6 (GT:=gtQ m ev) (fun x n h H=>zF mixed zRE (h H)) zi5 (fun c r h H=>by have:=zXa (GT:=gtQ m ev) c r H;rwa [h,zlF rfl] at this) (fun t ht H=>zS3 parK t H ht) h hl
include hev in
theorem zdP {n:Nd} (hw:Wf false n) (hd:need n<=30) (hc:cnt n<=200) (hl:(txt n).length<=1000) (H:Heap):GQ m ev zCg [ndV n] H (.tup [.str (zDd n),eV (zCB n)]) H:=
 zF mixed zP8 (zf3 n hw hd hc tO (zi4 hw hl) (zkz hw hl) g_wb (zi3 hw tO) (fun H0 b u H h1 h2 h3=>zZS H0 b u H h1 h2 h3) (fun H0 b u H h1=>zZT H0 b u H h1) (fun H=>zWC zb0 (parG hev) _ H) H)
include hev in
theorem zgN {t:Bs} {n:Nd} (hp:zAn t=some n):NkH (GQ m ev) n:=fun H=>by
 obtain ⟨h1,h2,h3⟩:=zFY hp;exact zF mixed zP4 (zdG n h3 (fun H=>zdP hev h1 h2 (zdO hp) tO H) H)
theorem zk0 {x:Bool} {n:Nd} (h:Wf x n) (hl:(txt n).length<=1000) (k:Nd) (H:Heap):GQ m ev zAk [ndV n,ndV k] H (.bool (eqN n k)) H:=
 zc9 (C:=GQ m ev) (fun n m b h H=>zF mixed zVr (zgB n m b h H)) (fun xv yv ks ls h1 h2 h3 h4 H=>zF mixed zBX (zc8 xv yv ks ls h1 h2 h3 h4 H) (hn:=by obtain ⟨q,k,rfl,_⟩:=h1;obtain ⟨q',k',rfl,_⟩:=h2;rfl)) h hl k H
theorem g_cn:CnH (GQ m ev):=fun H=>zF mixed (show zt Tryz.prog zw zO6=true from zB2) (zZX H)
theorem g_ck:CkH (GQ m ev):=fun n H hne hl=>by
 obtain ⟨a,b,c,d,f,ks⟩:=n;cases ks with
 |nil=>exact absurd rfl hne
 |cons k0 ks=>
  have h:=zF mixed (show zt Tryz.prog zw zO6=true from zB2) (zdF (C:=GQ m ev) (GT:=gtQ m ev) 12 (k0::ks) H (.inl rfl) hl);rw [show zGw (Nd.mk a b c d f (k0::ks))=.lst (some false) 12 ((k0::ks).map ndV) from zlR (AV.lst (some false) 12) (zKO (k0::ks))];exact h
theorem g_on {t:Bs} {n:Nd} (hp:zAn t=some n) {c:Chg}:OnH (GQ m ev) c n:=fun fr fb cr cb l H hR hB hh=>by
 obtain ⟨h1,h2,h3⟩:=zFY hp;exact zkt (GT:=gtQ m ev) fr fb cr cb l hR hB g_cn g_ck (fun n h H hh=>zF mixed zNX (h H hh)) h1 tO H hh
include hev in
theorem g_rew (f:Nat) (cr:List AV) (l:List (Nat×ABlk)) (c:Chg) (hc:c.ok) (t:Bs) (ht:zBu t=0) (hN:∀ n,zAn t=some n->∀ H,Holds l H->GQ m ev f (ndV n::cr) H (.tup [ndV (onN c n),.nili]) H) (H:Heap) (hh:Holds l H) :
  GQ m ev zDK [.str t,.fn f [] cr] H (.tup [.str (zQl c t).2,eV (zQl c t).1]) H:=
 zF mixed zOd (ziy (zWB zb0) (zWC zb0 (parG hev)) f cr l c t ht hN (fun n hp H=>zk0 (zFY hp).1 (by have:=(zFY hp).2.2;omega) _ H) (fun n hp H=>by
  obtain ⟨h1,h2,h3,h4⟩:=zkw hp hc;exact zdP hev h1 h2 h4 h3 H) H hh)
theorem zk1 (av:AV) (m':Nat) (H:Heap) (ha:Mag av m') (hm:m'≠0) (hl:(wds m').length<=100000):GQ m ev zDC [av] H (.lst (some false) 1 ((wds m').map zBY)) H:=zF mixed zLS (zi1 av m' H ha hm hl)
theorem zgO (av:AV) (a d:Nat) (H:Heap) (ha:Mag av a) (hl:(wds a).length<=100000) (hd0:0<d) (hd:d<4294967296):GQ m ev zCc [av,zBY d] H (.tup [zFV (a/d),zBY (a%d)]) H:=
 zF mixed zKm (zgL zUl av a d _ H ha rfl hl hd0 hd)
theorem zdQ (b:Nat) (v:Int) (H:Heap) (hb:H[b]?=some (.box (zGG v))) (hv:v.natAbs<10000000000000000000000) (hl:(wds v.natAbs).length<=100):GQ m ev zBA [.ref b 0 0 0,zH 10] H (.str (zZH v)) H:=
 zF mixed zIB (zgM zk1 zgO b v H hb hv hl)
theorem zVK:DgH (GQ m ev):=fun n hn H=>by
 have hT:∀ b v H,H[b]?=some (.box (zGG v))->v.natAbs<10000000000000000000000->(wds v.natAbs).length<=100->GQ m ev zBA [.ref b 0 0 0,zH 10] H (.str (zZH v)) H:=fun b v H h1 h2 h3=>zdQ b v H h1 h2 h3;have h:=zF mixed zOl (zZb (C:=GQ m ev) (GT:=gtQ m ev) (fun v H hv=>zXZ v H hv) (fun b v H h1 h2 h3=>zF mixed zGs (zZa hT b v H h1 h2 h3)) (n:Int) H ⟨by omega,by omega⟩)
 rwa [zgy] at h
theorem g_rsh:RshH (GQ m ev) where
 dig:=zVK
 tru x H:=zF mixed zSg (zi2 x H)
 stru x H:=zF mixed zK0 (zcy x H)
 bad k H:=zkJ zjS k H
 sbad k h H:=zF mixed zK0 (zcz (zTF zjS) k h H)
 ref r h H:=by
  obtain ⟨c,w,fc,fr⟩:=r;obtain ⟨h1,h2,h3,h4⟩:=h;simp only at h1 h2 h3 h4;obtain ⟨c,rfl⟩:∃ k:Nat,c=(k:Int):=⟨c.toNat,by omega⟩;obtain ⟨w,rfl⟩:∃ k:Nat,w=(k:Int):=⟨w.toNat,by omega⟩;cases fc <;> cases fr
  ·exact zF mixed zD0 (zKp zVK c w tO tO H)
  ·exact zF mixed zD0 (zLd zVK c w tO tO H)
  ·exact zF mixed zD0 (zLc zVK c w tO tO H)
  ·exact zF mixed zD0 (zMu zVK c w tO tO H)
 inn s b h H:=zF mixed zUP (ziw s b h H)
 tightn n h H:=zF mixed zQA (zZV (fun op H h=>zWK zjS op H h) n h H)
 tight op H h:=zWK zjS op H h
 sign k h H:=zF mixed zMS (zWc k h H)
theorem g_rin:InH (GQ m ev):=fun c r H=>q_in zb1 c r H
theorem zgP {n:Nd} (hw:Wf false n) (hd:need n<=30) (hc:cnt n<=200) (hl:(txt n).length<=1000) (H:Heap):GQ m ev zEo [ndV n] H (.tup [.str (zDd n),zK (zCB n)]) H:=
 zF mixed zP3 (zdC n hw hd hc tO
  (zXn (P:=RcH (GQ m ev)) (fun n hk h l H h1 h2=>zF mixed zP6 (zcp n h hk l H h1 h2)) hw hl)
  (zdB (GT:=gtQ m ev) (fun x n h H=>zF mixed zOg (h H)) g_rin (fun t ht H=>zXV zjS t H ht) hw hl)
  (zdA (GT:=gtQ m ev) g_rsh (fun n h H=>zF mixed zRB (h H)) hw tO) (fun hp H=>(zWO zb1 bigG _ (zQg hp) rfl).1 n hp H) H)
theorem zi6 {x:Bool} {n:Nd} (h:Wf x n) (hl:(txt n).length<=1000) (k:Nd) (H:Heap):GQ m ev zCS [ndV n,ndV k] H (.bool (eqN n k)) H:=
 zXn (P:=fun n=>∀ k H,GQ m ev zCS [ndV n,ndV k] H (.bool (eqN n k)) H) (fun n hk h k H=>zF mixed zRA (zgC n k hk h H)) h hl k H
theorem zk2 {k0:Int} {row:Bool} {at_ many cols rows:Int} {bx:Bx} (c:Chg) (hc:c.ok) (hR:RRef (GQ m ev) (ccV k0 row at_ many cols rows bx) c.ref) (hB:RBox (GQ m ev) (ccV k0 row at_ many cols rows bx) c.box) (t:Bs) (ht:zBu t=0):RwH (GQ m ev) (ccV k0 row at_ many cols rows bx) c t:=fun H=>
 zF mixed zLP (ziz c t ht (fun n hp H=>(zWO zb1 bigG t (zQg hp) (zZc hp)).1 n hp H) (fun n hp H=>zix (GT:=gtQ m ev) hR hB (fun n h H=>zF mixed zP2 (h H)) (zFY hp).1 (by have:=(zFY hp).2.2;omega) H)
  (fun n hp H=>zi6 (zFY hp).1 (by have:=(zFY hp).2.2;omega) _ H) (fun n hp H=>by
  obtain ⟨h1,h2,h3,h4⟩:=zkw hp hc;exact zgP h1 h2 h4 h3 H) H)
end
end Go.Proofs.YtkeblfepjkdleaaGreatDoor
namespace Go.AM
section
variable {C:CSpec} {GT:zG_}
theorem sBlkR {id:Nat} {L:List Nat} {K:Post} {fr F:Fr} {H:Heap} (h:zT fr L=F) (k:K .normal F H):zJi id L K .normal fr H:=by
 show K .normal (zT fr L) H;rw [h];exact k
theorem zdR {cf:Fil->Nat×Bool×Fil} {rw_:Bs->Nat×Bs} {l:List Fil} (hn:(l.map zLh).Nodup) (hi:∀ f∈l,∀ g∈l,(cf f).2.1=true->(cf g).2.1=true->zLh (cf f).2.2=zLh (cf g).2.2->zLh f=zLh g):((zNp cf rw_ l).map zLh).Nodup:=by
 unfold List.Nodup at hn ⊢;rw [List.pairwise_map] at hn ⊢;unfold zNp;rw [List.pairwise_filterMap];refine List.Pairwise.imp_of_mem (fun {a b} ha hb hab=>?_) hn;intro x hx y hy e;unfold zgI at hx hy;split at hx
 ·split at hy
  ·cases hx;cases hy;exact hab (hi a ha b hb (by assumption) (by assumption) e)
  ·cases hy
 ·cases hx
theorem zLe (l:List Fil) (h:zCA l=0):l.length<=200/\(∀ f∈l,zBu f.text=0/\okC f.col f.row=true)/\(l.map zLh).Nodup:=by
 have hg:=zfO h;refine ⟨hg.len,fun f hf=>?_,zZC hg.srt⟩;have:=(hg.each f hf).1;unfold zjT at this;by_cases e:okC f.col f.row=false
 ·rw [e] at this;cases this
 ·exact ⟨by simpa [e] using this,by simpa using e⟩
theorem zTW {row:Bool} {a m:Int} (h:zNm row a m=true):zGE row a m:=by
 unfold zNm at h;have h:=zlr h;unfold zGE zWb;cases row <;> exact ⟨h.1,h.2.1,h.2.2.1,h.2.2.2⟩
end
end Go.AM
namespace Go.Proofs.YtkeblfepjkdleaaGreatDoor
open Go.AM
open Go.AM Go.RowKit
theorem zgQ {x:AV} (h:Fits (.sl true zfN) x):∃ l:List Fil,∃ q,x=.lst (some q) 3 (l.map zl)/\(q=true->l=[]):=by
 obtain ⟨q,xs,e,hq,_⟩:=zkc h;obtain ⟨l,q',e',_⟩:=zb7 h;rw [e] at e';simp only [AV.lst.injEq,zlJ] at e';obtain ⟨rfl,_,rfl⟩:=e';exact ⟨l,q,e,fun h=>znG.1 (hq h)⟩
section
variable {m:Int} {ev:Value} (hev:∃ te pe,ev=.iface te pe)
theorem zgR (v w:AV) (l:List Fil) (H:Heap) (hv:view H 3 v=some (l.map zl)) (hw:view H 3 w=some (l.map zl)) (hl:l.length<=1000000):GQ m ev zEQ [v,w] H (.bool true) H:=
 zF mixed zOc (zY7 v w l H hv hw hl)
include hev in
theorem zk3 (v w:AV) (l:List Fil) (n:Nat) (H:Heap) (hv:view H 3 v=some (l.map zl)) (hw:view H 3 w=some (l.map zl)) (hl:l.length<=1000000):GQ m ev zFQ [v,eV n,w,zK n] H (.bool true) H:=
 zF mixed zQ6 (ziY (fun n H=>zka n H) zgR v w l n H hv hw hl) (hn:=by unfold eV;by_cases h:n=0 <;> simp only [h,zlp,zlj] <;> exact Go.AM.zHp (by assumption))
theorem zi7 (b:Nat) (row:Bool) (cs:List AV) (H:Heap) (hb:H[b]?=some (.box cs)):GQ m ev zG1 [.ref b 0 0 0,.bool row] H (.ref b 0 0 (zWZ row)) H:=zF mixed zUK (zfs b row cs H hb)
theorem zgS (b:Nat) (xs:List Fil) (H:Heap) (hb:H[b]?=some (.row 3 (xs.map zl))) (hne:xs≠[]) (hl:xs.length<=1000) (hn:(xs.map zLh).Nodup):GQ m ev zDw [.sl (some true) b 3 0 xs.length] H (.sl (some true) b 3 0 xs.length) (H.set b (.row 3 ((zJa xs).map zl))):=
 zF mixed zMP (zcd (fun b xs H h1 h2 h3 h4=>zcF b xs H h1 h2 h3 h4) b xs H hb hne hl hn)
theorem zdS (H:Heap):GQ m ev zDw [.lst (some true) 0 []] H (.lst (some true) 0 []) H:=zF mixed zMP (zZO (fun H=>zZG H) H)
theorem zg3 (row:Bool) (a b:Int) (H:Heap):GQ m ev zFI [.bool row,zH a,zH b] H (.bool (zNm row a b)) H:=zF mixed zVp (zii row a b H)
theorem zi8 (row:Bool) (a b:Int) (H:Heap):GQ m ev zFR [.bool row,zH a,zH b] H (.bool (zNm row a b)) H:=zF mixed zQ7 (zft row a b H)
theorem zdT (b0:Nat) (xs:List Fil) (H:Heap) (hx:xs.length<=200) (hb:H[b0]?=some (.row 3 (xs.map zl))):GQ m ev zCG [.sl (some true) b0 3 0 xs.length] H (zQi 3 ((zJa xs).map zl)) H:=zF mixed zJF (zZZ (zby zb1) b0 xs H hx hb)
theorem zZd (H:Heap):GQ m ev zCG [.lst (some true) 0 []] H (.lst (some true) 0 []) H:=zF mixed zJF (zWf H)
theorem zXs:AlH (GQ m ev):=fun b row cs H hb=>zF mixed zUO (zdD b row cs H hb)
end
end Go.Proofs.YtkeblfepjkdleaaGreatDoor
namespace Go.AM
theorem pK (row:Bool) (u:RefP):part (rV u).cells (zWZ row) 1 false=some (zH (zAK row u)):=by cases row <;> rfl
theorem sK (row:Bool) (u:RefP) (x:Int):splice (rV u).cells (zWZ row) (zH x).cells=(rV (zDq row u x)).cells:=by cases row <;> rfl
theorem bK (row:Bool) (u:RefP):Nat.ble (zWZ row+1) (rV u).cells.length=true:=by cases row <;> rfl
theorem zdU (row:Bool) (u:RefP):zDq row u (zAK row u)=u:=by cases row <;> rfl
theorem zQh (row:Bool) (u:RefP) (x y:Int):zDq row (zDq row u x) y=zDq row u y:=by cases row <;> rfl
theorem zNq {row:Bool} {u:RefP} (h:okR u):1<=zAK row u/\zAK row u<=99:=by
 have:=zFB (row:=row) h;unfold okK zWb at this;refine ⟨this.1, ?_⟩;split at this <;> omega
theorem zLf {row:Bool} {a m:Int} (h:zGE row a m):1<=a/\a<=99/\0<=m/\m<=99:=by
 unfold zGE zWb at h;split at h <;> omega
def zWg (row:Bool) (at_ many:Int) (r:RefP):RefP:=if gone at_ many (zAK row r)=true then r else zDq row r (back at_ many (zAK row r))
section
variable {C:CSpec} {GT:zG_} {row:Bool} {at_ many:Int} (hs:zGE row at_ many)
include hs
theorem zi9 (k:Int) (hk:-1000<=k/\k<=1000) (n2 n3:Nat) (H:Heap) (h2:H[n2]?=some (.box [zH at_])) (h3:H[n3]?=some (.box [zH many])) :
  EFun C GT zHu [zH k,bR n2,bR n3] H (.bool (gone at_ many k)) H:=by
 have hb:=zLf hs;have w:IntKind.i64.wrap (at_+many)=at_+many:=by rw [IntKind.wrap_i64];omega
 refine zJ ?_;by_cases g1:at_<=k
 ·by_cases g2:k<at_+many
  ·have e:gone at_ many k=true:=zlY ⟨g1,g2⟩;rw [e];refine sX ?_;refine zDh w<|sX ?_
   exact zHO (v0:=.bool (decide (k<at_+many))) (by rw [zlY g2]) rfl rfl rfl rfl hO
  ·have e:gone at_ many k=false:=zlf fun h=>g2 h.2;rw [e];refine sX ?_;refine zDh w<|sX ?_
   exact zHO (v0:=.bool (decide (k<at_+many))) (by rw [zlf g2]) rfl rfl rfl rfl hO
 ·have e:gone at_ many k=false:=zlf fun h=>g1 h.1;rw [e];refine sX ?_;exact sRv
theorem zgT (u:RefP) (hk:-1000<=zAK row u/\zAK row u<=1000) (b n2 n3:Nat) (H:Heap) (hb:H[b]?=some (.box (rV u).cells)) (h2:H[n2]?=some (.box [zH at_])) (h3:H[n3]?=some (.box [zH many])) :
  EFun C GT zHv [.ref b 0 0 (zWZ row),bR n2,bR n3] H (.tup []) (H.set b (.box (rV (zDq row u (back at_ many (zAK row u)))).cells)):=by
 have hb4:=zLf hs;have w:IntKind.i64.wrap (at_+many)=at_+many:=by rw [IntKind.wrap_i64];omega
 have w2:IntKind.i64.wrap (zAK row u-many)=zAK row u-many:=by rw [IntKind.wrap_i64];omega
 refine zJ ?_;by_cases g:at_+many<=zAK row u
 ·have e:back at_ many (zAK row u)=zAK row u-many:=zlF g;rw [e];refine zA (zH (zAK row u)) hb (pK row u)<|sX ?_;refine zDh w<|sX ?_;refine zA (zH (zAK row u)) hb (pK row u)<|sX ?_;refine zDh w2<|zL (v:=zH (zAK row u-many)) (rV (zDq row u (zAK row u-many))).cells hb rfl rfl (bK row u) (sK row u _) ?_
  exact zTA rfl rfl rfl rfl rfl rfl
 ·have e:back at_ many (zAK row u)=zAK row u:=zlD g;rw [e,zdU,zMf hb];refine zA (zH (zAK row u)) hb (pK row u)<|sX ?_;refine zDh w<|sX ?_
  exact sRv
omit hs
abbrev GnH (C:CSpec) (at_ many:Int):Prop:=∀ (k:Int) (n2 n3:Nat) H,-1000<=k/\k<=1000->H[n2]?=some (.box [zH at_])->H[n3]?=some (.box [zH many])->C z6 [zH k,bR n2,bR n3] H (.bool (gone at_ many k)) H
abbrev BkH (C:CSpec) (row:Bool) (at_ many:Int):Prop:=∀ (u:RefP) (b n2 n3:Nat) H,-1000<=zAK row u/\zAK row u<=1000->H[b]?=some (.box (rV u).cells)->H[n2]?=some (.box [zH at_])->H[n3]?=some (.box [zH many])->C zu [.ref b 0 0 (zWZ row),bR n2,bR n3] H (.tup []) (H.set b (.box (rV (zDq row u (back at_ many (zAK row u)))).cells))
theorem zdV (hAl:AlH C) (hG:GnH C at_ many) (hB:BkH C row at_ many) (r:RefP) (h:okR r) (n1 n2 n3 n4 n5:Nat) (H:Heap) (h1:H[n1]?=some (.box [.bool row])) (h2:H[n2]?=some (.box [zH at_])) (h3:H[n3]?=some (.box [zH many]))
  (h4:H[n4]?=some (.box [.fn z6 [] [bR n2,bR n3]])) (h5:H[n5]?=some (.box [.fn zu [] [bR n2,bR n3]])) :
  EFun C GT zHw [rV r,bR n1,bR n4,bR n5] H (.tup [rV (zWg row at_ many r),.bool (zVC row at_ many r).isSome]) H:=by
 have l1:=(zl_ h1);have l2:=(zl_ h2);have l3:=(zl_ h3);have l4:=(zl_ h4);have l5:=(zl_ h5);have hk:=zNq (row:=row) h;have hg:=fun H=>hG (zAK row r) n2 n3 H tO;have ha:=hAl H.length row (rV r).cells;clear hAl hG;refine zJ<|sX ?_
 cases e:gone at_ many (zAK row r) with
 |true=>
  have e1:zWg row at_ many r=r:=zlF e;have e2:(zVC row at_ many r).isSome=false:=by unfold zVC;rw [e];rfl
  rw [e1,e2];rw [e] at hg;refine sX ?_;refine zA (zH (zAK row r)) hP (pK row r)<|sX ?_;refine sSA (rV r) ?_
  exact zr (o:=0) rfl rfl (zI (zU zB)) rfl rfl rfl rfl hO
 |false=>
  have e1:zWg row at_ many r=zDq row r (back at_ many (zAK row r)):=zlD (by rw [e];decide);have e2:(zVC row at_ many r).isSome=true:=by unfold zVC;rw [e];rfl
  rw [e1,e2];rw [e] at hg;have hb:=fun H1=>hB r H.length n2 n3 H1 tO;generalize zDq row r (back at_ many (zAK row r))=r' at hb ⊢;refine sX ?_;refine zA (zH (zAK row r)) hP (pK row r)<|zM (hg _ hP hP)<|zG<|zA (.fn zu [] [bR n2,bR n3]) hP rfl<|zCI (hb _ hP hP hP) (fun h=>nomatch h)<|zA (rV r') (zU (zD zB)) rfl<|sSA (rV r') ?_
  exact zr (o:=0) rfl rfl (zI (zU (zC tA zB))) rfl rfl rfl rfl hO
end
section
variable {C:CSpec} {GT:zG_} {row:Bool} {at_ many:Int}
theorem zTX {H H1:Heap} {n7 n8 n9 n10:Nat} (x y:RefP) (hO:Old H H1) (h7:H1[n7]?=some (.box (rV x).cells)) (h8:H1[n8]?=some (.box (rV y).cells)) (h9:H1[n9]?=some (.box zP)) (h10:H1[n10]?=some (.box zP)) (l9:H.length<=n9) (d7:n7<n9) (d9:n8<n9) (d10:n9<n10) :
  EW C GT (zFK.behind 8) (zaO zDx H (.tup [rV x,rV y,.bool true]) H) [(9,bR n9),(10,bR n10),(8,bR n8),(7,bR n7)] H1:=by
 have n9l:=(zl_ h9);have n10l:=(zl_ h10);refine sX ?_;refine zHN ?_ ?_
 ·refine sX ?_;refine sSA (rV x) ?_;refine sSA (rV y) ?_;exact zK7 (o:=0) (o':=0) rfl rfl (zI hP) rfl (zI hP) rfl rfl rfl rfl ((hO.set l9 _).set tO _)
 ·refine sSA (rV x) ?_;refine sX ?_;refine sSA (rV y) ?_;exact zK7 (o:=0) (o':=0) rfl rfl (zI hP) rfl (zI hP) rfl rfl rfl rfl ((hO.set l9 _).set tO _)
theorem zVL {H H1:Heap} {n7 n8 n9 n10 p q n3 n4 n5 n6:Nat} (hG:GnH C at_ many) (hB:BkH C row at_ many) (hs:zGE row at_ many) (a b u v a' b':RefP) (hu:okR u) (hv:okR v)
  (hO:Old H H1) (h7:H1[n7]?=some (.box (rV a).cells)) (h8:H1[n8]?=some (.box (rV b).cells)) (h9:H1[n9]?=some (.box zP)) (h10:H1[n10]?=some (.box zP)) (l9:H.length<=n9) (d7:n7<n9) (d9:n8<n9) (d10:n9<n10)
  (hp:H1[p]?=some (.box (rV u).cells)) (hq:H1[q]?=some (.box (rV v).cells)) (hpq:p≠q) (lp:H.length<=p) (lq:H.length<=q) (p9:p<n9) (q9:q<n9) (hn3:n3<H.length) (hn4:n4<H.length) (hn5:n5<H.length) (hn6:n6<H.length)
  (h3:H1[n3]?=some (.box [.fn z6 [] [bR n4,bR n5]])) (h4:H1[n4]?=some (.box [zH at_])) (h5:H1[n5]?=some (.box [zH many])) (h6:H1[n6]?=some (.box [.fn zu [] [bR n4,bR n5]]))
  (hno:gone at_ many (zAK row u)=true->gone at_ many (zAK row v)=true->zGe row at_ many a b=none)
  (hyes:¬ (gone at_ many (zAK row u)=true/\gone at_ many (zAK row v)=true)->(zGe row at_ many a b).isSome=true/\∀ H2:Heap,H2[p]?=some (.box (rV (zDq row u (zTT at_ many (zAK row u)))).cells)->H2[q]?=some (.box (rV (zDq row v (zHf at_ many (zAK row v)))).cells)->H2[n7]?=some (.box (rV a').cells)/\H2[n8]?=some (.box (rV b').cells)) :
  EW C GT (zFK.behind 3) (zaO zDx H (.tup [rV (if (zGe row at_ many a b).isSome=true then a' else a),rV (if (zGe row at_ many a b).isSome=true then b' else b),.bool (zGe row at_ many a b).isSome]) H)
   [(9,bR n9),(10,bR n10),(8,bR n8),(7,bR n7),(13,.ref q 0 0 (zWZ row)),(6,bR n6),(12,.ref p 0 0 (zWZ row)),(4,bR n4),(3,bR n3),(5,bR n5)] H1:=by
 have hk:=zNq (row:=row) hu;have hk2:=zNq (row:=row) hv;have hsp:=zLf hs;have w:IntKind.i64.wrap (at_+many)=at_+many:=by rw [IntKind.wrap_i64];omega
 have w2:IntKind.i64.wrap (at_-1)=at_-1:=by rw [IntKind.wrap_i64];omega
 have gu:=fun H=>hG (zAK row u) n4 n5 H tO;have gv:=fun H=>hG (zAK row v) n4 n5 H tO;have ll:=hO.1;have pl:=(zl_ hp);have ql:=(zl_ hq);have n9l:=(zl_ h9);have n10l:=(zl_ h10);clear hG;cases eu:gone at_ many (zAK row u) with
 |true=>
  rw [eu] at gu hno hyes;cases ev:gone at_ many (zAK row v) with
  |true=>
   rw [ev] at gv;rw [hno rfl ev];clear hno hyes hB;refine sX ?_;refine zA (zH (zAK row u)) hp (pK row u)<|sX ?_;refine zA (zH (zAK row v)) hq (pK row v)<|sX ?_;refine zHN ?_ ?_
   ·refine sX ?_;refine sSA (rV a) ?_;refine sSA (rV b) ?_;exact zK7 (o:=0) (o':=0) rfl rfl (zI hP) rfl (zI hP) rfl rfl rfl rfl ((hO.set l9 _).set tO _)
   ·refine sSA (rV a) ?_;refine sX ?_;refine sSA (rV b) ?_;exact zK7 (o:=0) (o':=0) rfl rfl (zI hP) rfl (zI hP) rfl rfl rfl rfl ((hO.set l9 _).set tO _)
  |false=>
   rw [ev] at gv;obtain ⟨hs1,hy⟩:=hyes (fun h=>by rw [ev] at h;exact absurd h.2 zD_);rw [zlF hs1,zlF hs1,hs1];have eh:zHf at_ many (zAK row v)=back at_ many (zAK row v):=by unfold zHf;rw [ev];rfl
   have el:zTT at_ many (zAK row u)=back at_ many (at_+many):=by unfold zTT;rw [eu];rfl
   rw [eh,el] at hy;have b1:=fun H1=>hB (zDq row u (at_+many)) p n4 n5 H1 (by rw [zKI];omega);have b2:=fun H1=>hB v q n4 n5 H1 tO;rw [zKI,zQh] at b1;have fin:=fun H2 g1 g3 g4 g9 g10=>zTX (C:=C) (GT:=GT) (H:=H) (H1:=H2) (n7:=n7) (n8:=n8) (n9:=n9) (n10:=n10) a' b' g1 (hy H2 g3 g4).1 (hy H2 g3 g4).2 g9 g10 l9 d7 d9 d10;generalize zDq row u (back at_ many (at_+many))=u' at b1 fin;generalize zDq row v (back at_ many (zAK row v))=v' at b2 fin;clear hno hyes hB hy;refine sX ?_;refine zA (zH (zAK row u)) hp (pK row u)<|sX ?_;refine zA (zH (zAK row v)) hP (pK row v)<|sX ?_;refine zA (zH (zAK row u)) hp (pK row u)<|sX ?_;refine zDh w<|zL (v:=zH (at_+many)) (rV (zDq row u (at_+many))).cells hP rfl rfl (bK row u) (sK row u _)<|sX ?_;refine zA (zH (zAK row v)) hP (pK row v)<|sX ?_;refine zFM rfl (fin _ (((hO.set lp _).set lp _).set lq _) hP hP hP hP) ?_
   rfl
 |false=>
  rw [eu] at gu hyes;obtain ⟨hs1,hy⟩:=hyes (fun h=>absurd h.1 zD_);rw [zlF hs1,zlF hs1,hs1];have el:zTT at_ many (zAK row u)=back at_ many (zAK row u):=by unfold zTT;rw [eu];rfl
  rw [el] at hy;have b1:=fun H1=>hB u p n4 n5 H1 tO;cases ev:gone at_ many (zAK row v) with
  |true=>
   rw [ev] at gv;have eh:zHf at_ many (zAK row v)=back at_ many (at_-1):=by unfold zHf;rw [ev];rfl
   rw [eh] at hy;have b2:=fun H1=>hB (zDq row v (at_-1)) q n4 n5 H1 (by rw [zKI];omega);rw [zKI,zQh] at b2;have fin:=fun H2 g1 g3 g4 g9 g10=>zTX (C:=C) (GT:=GT) (H:=H) (H1:=H2) (n7:=n7) (n8:=n8) (n9:=n9) (n10:=n10) a' b' g1 (hy H2 g3 g4).1 (hy H2 g3 g4).2 g9 g10 l9 d7 d9 d10;generalize zDq row u (back at_ many (zAK row u))=u' at b1 fin;generalize zDq row v (back at_ many (at_-1))=v' at b2 fin;clear hno hyes hB hy;refine sX ?_;refine zA (zH (zAK row u)) hp (pK row u)<|sX ?_;refine zA (zH (zAK row u)) hp (pK row u)<|sX ?_;refine zA (zH (zAK row v)) hP (pK row v)<|sX ?_;refine zDh w2<|zL (v:=zH (at_-1)) (rV (zDq row v (at_-1))).cells hP rfl rfl (bK row v) (sK row v _)<|sX ?_;refine zFM rfl (fin _ (((hO.set lq _).set lp _).set lq _) hP hP hP hP) ?_
   rfl
  |false=>
   rw [ev] at gv;have eh:zHf at_ many (zAK row v)=back at_ many (zAK row v):=by unfold zHf;rw [ev];rfl
   rw [eh] at hy;have b2:=fun H1=>hB v q n4 n5 H1 tO;have fin:=fun H2 g1 g3 g4 g9 g10=>zTX (C:=C) (GT:=GT) (H:=H) (H1:=H2) (n7:=n7) (n8:=n8) (n9:=n9) (n10:=n10) a' b' g1 (hy H2 g3 g4).1 (hy H2 g3 g4).2 g9 g10 l9 d7 d9 d10;generalize zDq row u (back at_ many (zAK row u))=u' at b1 fin;generalize zDq row v (back at_ many (zAK row v))=v' at b2 fin;clear hno hyes hB hy;refine sX ?_;refine zA (zH (zAK row u)) hp (pK row u)<|sX ?_;refine zA (zH (zAK row u)) hp (pK row u)<|sX ?_;refine zA (zH (zAK row v)) hP (pK row v)<|sX ?_;refine zFM rfl (fin _ ((hO.set lp _).set lq _) hP hP hP hP) ?_
   rfl
theorem zdW (hAl:AlH C) (hG:GnH C at_ many) (hB:BkH C row at_ many) (hs:zGE row at_ many) (a b:RefP) (ha:okR a) (hb:okR b) (n1 n2 n3 n4 n5:Nat) (H:Heap) (h1:H[n1]?=some (.box [.bool row])) (h2:H[n2]?=some (.box [zH at_])) (h3:H[n3]?=some (.box [zH many]))
  (h4:H[n4]?=some (.box [.fn z6 [] [bR n2,bR n3]])) (h5:H[n5]?=some (.box [.fn zu [] [bR n2,bR n3]])) :
  EFun C GT zDx [rV a,rV b,bR n1,bR n4,bR n2,bR n3,bR n5] H (.tup [rV ((zGe row at_ many a b).getD (a,b)).1,rV ((zGe row at_ many a b).getD (a,b)).2,.bool (zGe row at_ many a b).isSome]) H:=by
 have l1:=(zl_ h1);have l2:=(zl_ h2);have l3:=(zl_ h3);have l4:=(zl_ h4);have l5:=(zl_ h5);have al1:=hAl H.length row (rV a).cells;have al2:=hAl (H++[ABlk.box (rV a).cells]).length row (rV b).cells;clear hAl;have e1:((((H++[ABlk.box (rV a).cells])++[ABlk.box (rV b).cells])++[ABlk.box zP])++[ABlk.box zP])[H.length]?=some (.box (rV a).cells):=by simp
 have e2:((((H++[ABlk.box (rV a).cells])++[ABlk.box (rV b).cells])++[ABlk.box zP])++[ABlk.box zP])[(H++[ABlk.box (rV a).cells]).length]?=some (.box (rV b).cells):=zD (zD zB);have e9:((((H++[ABlk.box (rV a).cells])++[ABlk.box (rV b).cells])++[ABlk.box zP])++[ABlk.box zP])[((H++[ABlk.box (rV a).cells])++[ABlk.box (rV b).cells]).length]?=some (.box zP):=zD zB;have e10:((((H++[ABlk.box (rV a).cells])++[ABlk.box (rV b).cells])++[ABlk.box zP])++[ABlk.box zP])[(((H++[ABlk.box (rV a).cells])++[ABlk.box (rV b).cells])++[ABlk.box zP]).length]?=some (.box zP):=zB;have hO:Old H ((((H++[ABlk.box (rV a).cells])++[ABlk.box (rV b).cells])++[ABlk.box zP])++[ABlk.box zP]):=((((Old.refl H).push _).push _).push _).push _;have m7:H.length<(H++[ABlk.box (rV a).cells]).length:=by simp
 have m8:(H++[ABlk.box (rV a).cells]).length<((H++[ABlk.box (rV a).cells])++[ABlk.box (rV b).cells]).length:=by simp
 have m9:((H++[ABlk.box (rV a).cells])++[ABlk.box (rV b).cells]).length<(((H++[ABlk.box (rV a).cells])++[ABlk.box (rV b).cells])++[ABlk.box zP]).length:=by simp
 by_cases hlt:zAK row b<zAK row a
 ·have hy:¬ (gone at_ many (zAK row b)=true/\gone at_ many (zAK row a)=true)->zGe row at_ many a b=some (zDq row a (zHf at_ many (zAK row a)),zDq row b (zTT at_ many (zAK row b))):=fun h=>by
   unfold zGe;rw [zlD fun x=>h ⟨x.2,x.1⟩,zlF hlt]
  have hn:gone at_ many (zAK row b)=true->gone at_ many (zAK row a)=true->zGe row at_ many a b=none:=fun x y=>by unfold zGe;exact zlF ⟨y,x⟩
  have key:=zVL (C:=C) (GT:=GT) hG hB hs a b b a (zDq row a (zHf at_ many (zAK row a))) (zDq row b (zTT at_ many (zAK row b))) hb ha hO e1 e2 e9 e10 tO tO m8 m9 e2 e1 tO tO tO m8 tO l4 l2 l3 l5 hP hP hP hP hn (fun h=>⟨by rw [hy h];rfl,fun H2 x y=>⟨y,x⟩⟩);have er:AV.tup [rV ((zGe row at_ many a b).getD (a,b)).1,rV ((zGe row at_ many a b).getD (a,b)).2,.bool (zGe row at_ many a b).isSome]=.tup [rV (if (zGe row at_ many a b).isSome=true then zDq row a (zHf at_ many (zAK row a)) else a),rV (if (zGe row at_ many a b).isSome=true then zDq row b (zTT at_ many (zAK row b)) else b),.bool (zGe row at_ many a b).isSome]:=by
   by_cases h:gone at_ many (zAK row b)=true/\gone at_ many (zAK row a)=true
   ·rw [hn h.1 h.2];rfl
   ·rw [hy h];rfl
  rw [er];clear hB hG hy hn e1 e2 e9 e10 hO;refine zJ<|sX ?_;refine zA (zH (zAK row a)) hP (pK row a)<|zA (zH (zAK row b)) hP (pK row b)<|zn tT<|zFM rfl key ?_
  rfl
 ·have hy:¬ (gone at_ many (zAK row a)=true/\gone at_ many (zAK row b)=true)->zGe row at_ many a b=some (zDq row a (zTT at_ many (zAK row a)),zDq row b (zHf at_ many (zAK row b))):=fun h=>by
   unfold zGe;rw [zlD h,zlD hlt]
  have hn:gone at_ many (zAK row a)=true->gone at_ many (zAK row b)=true->zGe row at_ many a b=none:=fun x y=>by unfold zGe;exact zlF ⟨x,y⟩
  have key:=zVL (C:=C) (GT:=GT) hG hB hs a b a b (zDq row a (zTT at_ many (zAK row a))) (zDq row b (zHf at_ many (zAK row b))) ha hb hO e1 e2 e9 e10 tO tO m8 m9 e1 e2 tO tO tO tO m8 l4 l2 l3 l5 hP hP hP hP hn (fun h=>⟨by rw [hy h];rfl,fun H2 x y=>⟨x,y⟩⟩);have er:AV.tup [rV ((zGe row at_ many a b).getD (a,b)).1,rV ((zGe row at_ many a b).getD (a,b)).2,.bool (zGe row at_ many a b).isSome]=.tup [rV (if (zGe row at_ many a b).isSome=true then zDq row a (zTT at_ many (zAK row a)) else a),rV (if (zGe row at_ many a b).isSome=true then zDq row b (zHf at_ many (zAK row b)) else b),.bool (zGe row at_ many a b).isSome]:=by
   by_cases h:gone at_ many (zAK row a)=true/\gone at_ many (zAK row b)=true
   ·rw [hn h.1 h.2];rfl
   ·rw [hy h];rfl
  rw [er];clear hB hG hy hn e1 e2 e9 e10 hO;refine zJ<|sX ?_;refine zA (zH (zAK row a)) hP (pK row a)<|zA (zH (zAK row b)) hP (pK row b)<|zi tF<|zFM rfl key ?_
  rfl
end
end Go.AM
