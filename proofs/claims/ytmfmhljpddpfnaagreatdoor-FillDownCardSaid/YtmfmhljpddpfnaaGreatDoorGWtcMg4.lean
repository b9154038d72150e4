/- Texts of mine in one. Own work. -/
import Derived.Test.YtmfmhljpddpfnaaGreatDoorGRq5Alq
import Derived.Test.YtmfmhljpddpfnaaGreatDoorGGprWt3
import Derived.Test.YtmfmhljpddpfnaaGreatDoorGRfdGq
set_option maxHeartbeats 8000000
set_option maxRecDepth 1000000
set_option linter.all false
namespace Go.AM
theorem zWT {H:Heap} {b:Nat} (hb:b<H.length) (X Y:ABlk):zWc H ((H.set b .dead++[X]).set H.length Y)/\H.set b .dead=((H.set b .dead++[X]).set H.length Y).take H.length:=by
 have e:(H.set b .dead++[X]).set H.length Y=H.set b .dead++[Y]:=by
  rw [List.set_append,zWl zS_];simp
 rw [e];refine ⟨fun c hc=>?_,(zn8 zS_).symm⟩;by_cases h:c=b
 ·subst h;exact .inr ⟨.dead,by rw [zof (by simpa using hc),zl3 hc],rfl⟩
 ·exact .inl (by rw [zof (by simpa using hc),zo7 (fun e=>h e.symm)])
section
variable {C:CSpec} {GT:zG_}
theorem zRl (b b':Nat) (l:List Fil) (f:Fil) (H:Heap) (hb:H[b]?=some (.row 3 (l.map zf))) (hb':H[b']?=some (.row 3 [zf f])) (hn:b≠b') (hl:l.length<=3000) :
  EFun C GT zAd [.sl (some false) b 3 0 l.length,zL l.length,.sl (some false) b' 3 0 1] H (.lst (some false) 3 ((l++[f]).map zf)) (H.set b .dead):=by
 have hlm:(l.map zf).length=l.length:=zoU _;have hblt:=(zl_ hb);have hs:zCm (some 3) (.sl (some false) b 3 0 l.length) (some (zL l.length)) none=some (.sl (some false) b 3 l.length 0):=by
  have hq:zE9 l.length (some (zL l.length)) none=some (l.length,l.length):=by simp [zE9,aHi,aLo,zL]
  simp only [zCm];rw [zoQ trivial,hq];simp [zi1]
 have hv:view H 3 (.sl (some false) b' 3 0 1)=some [zf f]:=by simp [view,hb']
 have ha:astep (.append 3 32) [.sl (some false) b 3 0 l.length,.sl (some false) b' 3 0 1] H=some (.sl (some false) H.length 3 0 (l.length+1),H.set b .dead++[.row 3 ((l++[f]).map zf)]):=by
  simp only [astep,hv,hb];rw [zoQ ⟨trivial,trivial,by omega,by simp;omega,by simp;omega⟩];simp [zox (Nat.le_of_eq hlm)]
 refine zH ?_;refine za hs<|zIU<|zc (tN zD_)<|zIU<|zt (tE rfl)<|zMj ha ?_
 have hr:(H.set b .dead++[ABlk.row 3 ((l++[f]).map zf)])[H.length]?=some (.row 3 ((l++[f]).map zf)):=by
  rw [zoy zS_];simp
 exact sRetW rfl rfl (zU1 (zoR _) hr zS_) rfl (zWT hblt _ _).1 (zWT hblt _ _).2
theorem zRm (b':Nat) (f:Fil) (H:Heap) (hb':H[b']?=some (.row 3 [zf f])) :
  EFun C GT zAd [.lst (some true) 0 [],zL 0,.sl (some false) b' 3 0 1] H (.lst (some false) 3 [zf f]) H:=by
 have hv:view H 3 (.sl (some false) b' 3 0 1)=some [zf f]:=by simp [view,hb']
 have ha:astep (.append 3 32) [.lst (some true) 0 [],.sl (some false) b' 3 0 1] H=some (.sl (some true) H.length 3 0 1,H++[.row 3 [zf f]]):=by
  simp only [astep,hv];rw [zoQ ⟨by simp,by simp⟩];rfl
 refine zH ?_;refine za rfl<|zIU<|zc (tN zD_)<|zPC<|zt (tE rfl)<|zMj ha ?_
 have hz:zDm H.length (.sl (some true) H.length 3 0 1) (H++[ABlk.row 3 [zf f]])=some (.lst (some false) 3 [zf f],(H++[ABlk.row 3 [zf f]]).set H.length (.frz 3 [zf f])):=by
  simp only [zDm];rw [zWl tO,zB];simp [zTb]
 exact zIw rfl rfl hz rfl (((Old.refl H).push _).set (zoR _) _)
end
open Go Go.Lib Go.Proofs
def AtC (w:World) (g o:Nat) (vs:List Value):Prop:=∀ j v,vs[j]?=some v->w.cell? ⟨g,o+j,none⟩=some v
theorem AtC.app {w:World} {g o:Nat} {a b:List Value} (h:AtC w g o a) (k:AtC w g (o+a.length) b):AtC w g o (a++b):=by
 intro j v hj;by_cases e:j<a.length
 ·rw [zof e] at hj;exact h j v hj
 ·rw [zoy tO] at hj;have:=k _ v hj
  rwa [show o+a.length+(j-a.length)=o+j by omega] at this
theorem AtC.take {w:World} {g o:Nat} {a:List Value} (n:Nat) (h:AtC w g o a):AtC w g o (a.take n):=fun j v hj=>by
 rw [zo5] at hj;split at hj
 ·exact h j v hj
 ·cases hj
theorem AtC.out {w:World} {g o:Nat} {a:List Value} (h:AtC w g o a) (p:Nat) (vs:List Value) (hd:o+a.length<=p\/p+vs.length<=o):AtC (w.setCells g p vs) g o a:=fun j v hj=>by
 have hjl:=(zl_ hj);rw [World.cell?_setCells_out g _ _ _ _ (fun _ _=>by show o+j<p\/p+vs.length<=o+j;omega)];exact h j v hj
theorem AtC.drew {w:World} {g o:Nat} {a:List Value} (h:AtC w g o a):AtC w.drew g o a:=h
theorem AtC.set {w:World} {g p:Nat} {vs:List Value} (hs:∀ j,j<vs.length->(w.cell? ⟨g,p+j,none⟩).isSome=true):AtC (w.setCells g p vs) g p vs:=fun j v hj=>by
 obtain ⟨hl,rfl⟩:=zg hj;exact World.cell?_setCells_in g vs p w hs j hl
theorem zWU {w:World} {g p:Nat} {vs:List Value} {x:Nat} (hs:∀ j,j<vs.length->(w.cell? ⟨g,p+j,none⟩).isSome=true) (h:(w.cell? ⟨g,x,none⟩).isSome=true):((w.setCells g p vs).cell? ⟨g,x,none⟩).isSome=true:=
 Go.Proofs.isSome_setCells g vs p w hs _ h
theorem SameBut.new {w w':World} (h:SameBut w.heap.size w w') (g:Nat):SameBut g w w':=⟨h.os,h.tape,h.out,h.size,fun j hj _=>h.other j hj tO,h.shape⟩
theorem zcY {w:World} {M:AMap} {I:Nat->Prop} {n b len g o:Nat} {v:Value} (h:Rel w M I n (.sl (some false) b 3 0 len) v) (hM:M b=some (g,o)) (hl:0<len) :
  ∃ cap,v=.slice (some ⟨g,o,none⟩) len cap/\len<=cap/\cap<=maxLen/\∃ e sz,w.shape? g=some (e,sz)/\o+cap*3<=sz:=by
 cases h with
 |sln _ _ _ _ _ hm=>omega
 |sl _ _ _ _ _ g1 o1 p cap hb hm hc hm2 hq ha=>
  rw [hM] at hm;cases hm;obtain ⟨rfl,e,sz,h1,h2⟩:=ha tO;exact ⟨cap,by simp,hc,hm2,e,sz,h1,by simpa using h2⟩
theorem zU2 {w:World} {M:AMap} {I:Nat->Prop} {n k:Nat} {v:Value} (h:Rel w M I n (zL k) v):v=.int .i64 k:=by
 unfold zL at h;cases h;rfl
theorem zgO {w:World} {M:AMap} {I:Nat->Prop} {n:Nat} {x y z:AV} {vs:List Value} (h:zED w M I n [x,y,z] vs):∃ v u t,vs=[v,u,t]/\Rel w M I n x v/\Rel w M I n y u/\Rel w M I n z t:=by
 obtain ⟨hl,h⟩:=h
 match vs,hl with
 |[v,u,t],_=>exact ⟨v,u,t,rfl,h 0 x v rfl rfl,h 1 y u rfl rfl,h 2 z t rfl rfl⟩
end Go.AM
namespace Go.Proofs.YtmfmhljpddpfnaaGreatDoor
open Go.AM Go.Shelf Go.RowKit Go.Lib Go.Proofs
theorem zU3 {GT:zG_} (k:Nat) (H:Heap):Go.AM.Good Tryz.prog GT zi [.lst (some true) k []] H (.lst (some true) 0 []) H:=
 zF zO0 (by kernel_rfl:zCU Tryz.prog zi zRk=true) (zcX k H)
theorem zYP {GT:zG_} (k:Nat) (l:List Fil) (H:Heap) (hk:k=3\/l=[]) (hl:l.length<=3000):Go.AM.Good Tryz.prog GT zi [.lst (some false) k (l.map zf)] H (.sl (some false) (H.length+1) 3 0 l.length) ((H++[ABlk.row 3 []]).set H.length .dead++[.row 3 (l.map zf)]):=
 zF zO0 (by kernel_rfl:zCU Tryz.prog zi zRk=true) (zfg k l hk hl H)
theorem zU4 {GT:zG_} (b i:Nat) (l:List Fil) (H:Heap) (hb:H[b]?=some (.row 3 (l.map zf))) (hi:i<l.length) (hl:l.length<=3000) :
  Go.AM.Good Tryz.prog GT zAG [.sl (some false) b 3 0 l.length,zL i,zL (i+1)] H (.lst (some false) 3 ((l.eraseIdx i).map zf)) (H.set b .dead):=by
 refine zFN Tryz.func54 (by kernel_rfl) (by kernel_rfl) rfl fun w M I cargs hS hA=>?_;obtain ⟨v1,v2,v3,rfl,r1,r2,r3⟩:=zgO hA;have hne:l≠[]:=by rintro rfl;simp at hi
 obtain ⟨g,o,e,sz,hM,hg,hsh,hfit,hcs,hsome,hfz⟩:=zRf hS hb hne;obtain ⟨cap,rfl,hc,hm,e2,sz2,hsh2,hfit2⟩:=zcY r1 hM tO;rw [hsh] at hsh2;cases hsh2;obtain rfl:=zU2 r2;obtain rfl:=zU2 r3;refine Calls.mono (zcU g o l.length cap i l w rfl hi hc (by unfold maxLen at hm;omega) hcs (fun j hj=>hfz _ tO)) ?_;rintro e' w' ⟨rfl,rfl⟩;refine ⟨.slice (some ⟨g,o,none⟩) (l.length-1) cap,rfl, ?_⟩;have hel:(l.eraseIdx i).length=l.length-1:=by rw [List.length_eraseIdx,zoQ hi]
 rw [<-hel];have hsb:SameBut g w ((w.drew.setCells g (o+i*3) ((zBk l).drop ((i+1)*3))).setCells g (o+(l.eraseIdx i).length*3) zF3):=((SameBut.drew w).trans (SameBut.setCells g _ _ _)).trans (SameBut.setCells g _ _ _);refine zJY (k:=0) hS hb hM hsb (.inl rfl) (zo3 hg hsb.size) tO hm ?_;have hcl:=zE1 l;have hcs':AtC w.drew g o (zBk l):=hcs;have hsm:∀ j,j<sz->(w.drew.cell? ⟨g,j,none⟩).isSome=true:=hsome;have e1:zBk (l.eraseIdx i)=(zBk l).take (i*3)++(zBk l).drop ((i+1)*3):=by
  rw [zn5,zLs,zJs l i tO,zQU l (i+1) tO]
 rw [e1];have l1:((zBk l).take (i*3)).length=i*3:=by rw [zon];omega
 have l2:((zBk l).drop ((i+1)*3)).length=(l.length-1-i)*3:=by rw [zok];omega
 refine AtC.app (((hcs'.take _).out _ _ (.inl tO)).out _ _ (.inl tO)) ?_;rw [l1];exact (AtC.set (fun j hj=>hsm _ tO)).out _ _ (.inl tO)
theorem zTT {GT:zG_} (b':Nat) (f:Fil) (H:Heap) (hb':H[b']?=some (.row 3 [zf f])) :
  Go.AM.Good Tryz.prog GT zW [.lst (some true) 0 [],zL 0,.sl (some false) b' 3 0 1] H (.lst (some false) 3 [zf f]) H:=
 zF zO0 (kA 43) (zRm b' f H hb')
theorem zU5 {GT:zG_} (b b' i:Nat) (l:List Fil) (f:Fil) (H:Heap) (hb:H[b]?=some (.row 3 (l.map zf))) (hb':H[b']?=some (.row 3 [zf f])) (hn:b≠b') (hi:i<=l.length) (hl:l.length<=3000) :
  Go.AM.Good Tryz.prog GT zW [.sl (some false) b 3 0 l.length,zL i,.sl (some false) b' 3 0 1] H (.lst (some false) 3 ((l.take i++f::l.drop i).map zf)) (H.set b .dead):=by
 by_cases e:i=l.length
 ·subst e;rw [zmg,znd];exact zF zO0 (kA 43) (zRl b b' l f H hb hb' hn hl)
 have hi:i<l.length:=by omega
 refine zFN Tryz.func55 (by kernel_rfl) (by kernel_rfl) rfl fun w M I cargs hS hA=>?_;obtain ⟨v1,v2,v3,rfl,r1,r2,r3⟩:=zgO hA;have hne:l≠[]:=by rintro rfl;simp at hi
 obtain ⟨g,o,e,sz,hM,hg,hsh,hfit,hcs,hsome,hfz⟩:=zRf hS hb hne;obtain ⟨g',o',e3,sz',hM',hg',hsh',hfit',hcs',hsome',hfz'⟩:=zRf (l:=[f]) hS hb' zS_;obtain ⟨cap,rfl,hc,hm,e2,sz2,hsh2,hfit2⟩:=zcY r1 hM tO;obtain ⟨cap',rfl,hc',hm',_,_,_,_⟩:=zcY r3 hM' tO;rw [hsh] at hsh2;cases hsh2;obtain rfl:=zU2 r2;have hgg:g'≠g:=fun h=>hn (by subst h;exact hS.inj b b' _ _ g' o o' hb rfl hb' rfl hM hM');have hcl:=zE1 l;have l0:(zK0 f).length=3:=rfl;have l1:((zBk l).take (i*3)).length=i*3:=by rw [zon];omega
 have l2:((zBk l).drop (i*3)).length=(l.length-i)*3:=by rw [zok];omega
 have e1:zBk (l.take i++f::l.drop i)=(zBk l).take (i*3)++(zK0 f++(zBk l).drop (i*3)):=by
  rw [zLs,zJs l i tO,<-zQU l i tO];rfl
 have hil:(l.take i++f::l.drop i).length=l.length+1:=by simp;omega
 have hv:∀ j v,(zK0 f)[j]?=some v->w.cell? ⟨g',o'+j,none⟩=some v:=fun j v hj=>hcs' j v (by simpa [zBk] using hj);have hm63:cap<=9223372036854775807:=by unfold maxLen at hm;omega
 have hsz1:o'+3<=sz':=by simpa using hfit'
 by_cases hroom:l.length+1<=cap
 ·refine Calls.mono (zcV g o l.length cap i g' o' cap' l f w rfl hi hroom hm63 hgg hcs (fun j hj=>hsome _ tO) (fun j hj=>hfz _ tO) hv e3 e sz' sz hsh' hsh tO (hfz' _ tO) (hfz' _ tO)) ?_;rintro e' w' ⟨rfl,rfl⟩;refine ⟨.slice (some ⟨g,o,none⟩) (l.length+1) cap,rfl, ?_⟩;rw [<-hil];have hsb:SameBut g w ((w.drew.setCells g (o+(i+1)*3) ((zBk l).drop (i*3))).setCells g (o+i*3) (zK0 f)):=((SameBut.drew w).trans (SameBut.setCells g _ _ _)).trans (SameBut.setCells g _ _ _);refine zJY (k:=0) hS hb hM hsb (.inl rfl) (zo3 hg hsb.size) tO hm ?_;have hcs2:AtC w.drew g o (zBk l):=hcs;have hsm:∀ j,j<sz->(w.drew.cell? ⟨g,j,none⟩).isSome=true:=hsome;rw [e1];refine AtC.app (((hcs2.take _).out _ _ (.inl tO)).out _ _ (.inl tO)) (AtC.app ?_ ?_)
  ·rw [l1];exact AtC.set (fun j hj=>zWU (fun j hj=>hsm _ tO) (hsm _ tO))
  ·rw [l1,l0,show o+i*3+3=o+(i+1)*3 by omega];exact (AtC.set (fun j hj=>hsm _ tO)).out _ _ (.inr tO)
 ·refine Calls.mono (zfe g o l.length cap i g' o' cap' l f w rfl hi hc tO hl hcs hv) ?_;rintro e' w' ⟨ROW,G,rfl,hG1,hG2,hpre,hsz,rfl⟩;refine ⟨.slice (some ⟨w.heap.size,0,none⟩) (l.length+1) G,rfl, ?_⟩;rw [<-hil];obtain ⟨W1,hW1⟩:∃ W1,W1=(w.alloc (.cells ROW 49)).drew:=⟨_,rfl⟩;have hsb:SameBut g w ((((w.alloc (.cells ROW 49)).drew.setCells w.heap.size (i*3) (zK0 f)).drew).setCells w.heap.size ((i+1)*3) ((zBk l).drop (i*3))):=
   (((((SameBut.alloc w.heap.size w (.cells ROW 49)).trans (SameBut.drew _)).trans (SameBut.setCells _ _ _ _)).trans (SameBut.drew _)).trans (SameBut.setCells _ _ _ _)).new g
  have hsz2:(w.alloc (.cells ROW 49)).heap.size=w.heap.size+1:=by
   show (w.heap.push _).size=_;simp
  have hsz3:=((((SameBut.drew (w.alloc (.cells ROW 49))).trans (SameBut.setCells w.heap.size (zK0 f) (i*3) _)).trans (SameBut.drew _)).trans (SameBut.setCells w.heap.size ((zBk l).drop (i*3)) ((i+1)*3) _)).size;refine zJY (k:=0) hS hb hM hsb (.inr (zoR _)) tO tO hG2 ?_;rw [<-hW1];have hrow:∀ j v,ROW[j]?=some v->W1.cell? ⟨w.heap.size,j,none⟩=some v:=fun j v hj=>by
   rw [hW1];show (w.alloc (.cells ROW 49)).cell? ⟨w.heap.size,j,none⟩=some v;rw [World.cell?_alloc_at ROW _ w.heap.size j rfl,hj]
  have hsm:∀ j,j<ROW.size->(W1.cell? ⟨w.heap.size,j,none⟩).isSome=true:=fun j hj=>by rw [hrow j _ (zm4 hj)];rfl
  have htk:AtC W1 w.heap.size 0 ((zBk l).take (i*3)):=fun j v hj=>by
   rw [zl7];rw [<-zJs l i tO] at hj;refine hrow j v ?_;obtain ⟨tl,htl⟩:=hpre;rw [<-Array.getElem?_toList,<-htl,zof (zl_ hj)];exact hj
  rw [e1];refine AtC.app ((htk.out (i*3) (zK0 f) (.inl tO)).drew.out _ _ (.inl tO)) (AtC.app ?_ ?_)
  ·rw [l1,zl7];exact (AtC.set (fun j hj=>hsm _ tO)).drew.out _ _ (.inl tO)
  ·rw [l1,l0,show 0+i*3+3=(i+1)*3 by omega];exact AtC.set (fun j hj=>zWU (w:=W1) (fun j hj=>hsm _ tO) (hsm _ tO))
end Go.Proofs.YtmfmhljpddpfnaaGreatDoor
namespace Go.AM
def zNM (l:List Fil) (c r:Int):Bool:=l.any fun f=>!aheadC c r f
def zJa (l:List Fil) (c r:Int) (t:Bs):List Fil:=l.filter (aheadC c r)++(if t≠[]/\zNM l c r=true then [⟨c,r,t⟩] else [])++l.filter (zBW c r)
theorem zTU (l:List Fil) (f:Fil) (c r:Int):zNM (l++[f]) c r=(zNM l c r||!aheadC c r f):=by unfold zNM;simp
theorem zRn {l:List Fil} {c r:Int} (h:zNM l c r=false):l.filter (zBW c r)=[]:=by
 refine znE.2 fun f hf=>?_;unfold zNM at h;rw [List.any_eq_false] at h;have:=h f hf;simp only [zmD,aheadC,zl4] at this;simp only [zBW,zoY];omega
theorem zcZ (l:List Fil) (f:Fil) (c r:Int) (t:Bs):(aheadC c r f=true->zNM l c r=false->zJa (l++[f]) c r t=zJa l c r t++[f]) /\
  (isC c r f=true->zNM l c r=false->zJa (l++[f]) c r t=zJa l c r t++(if t≠[] then [⟨c,r,t⟩] else []))/\(isC c r f=true->zNM l c r=true->zJa (l++[f]) c r t=zJa l c r t) /\
  (zBW c r f=true->zNM l c r=false->zJa (l++[f]) c r t=zJa l c r t++(if t≠[] then [⟨c,r,t⟩] else [])++[f])/\(zBW c r f=true->zNM l c r=true->zJa (l++[f]) c r t=zJa l c r t++[f]):=by
 have ex:∀ g:Fil,(isC c r g=true->aheadC c r g=false/\zBW c r g=false)/\(zBW c r g=true->aheadC c r g=false)/\(aheadC c r g=true->zBW c r g=false):=fun g=>by
  simp only [isC,aheadC,zBW,zoY,zl4];refine ⟨fun h=>⟨by omega,by omega⟩,fun h=>by omega,fun h=>by omega⟩
 have ff:∀ (p:Fil->Bool),(l++[f]).filter p=l.filter p++(if p f=true then [f] else []):=fun p=>by
  rw [List.filter_append];cases hp:p f <;> simp [hp]
 unfold zJa;rw [zTU,ff,ff];refine ⟨fun h1 h2=>?_,fun h1 h2=>?_,fun h1 h2=>?_,fun h1 h2=>?_,fun h1 h2=>?_⟩
 ·have:=(ex f).2.2 h1;rw [zRn h2,h1,h2,this];simp
 ·obtain ⟨a,b⟩:=(ex f).1 h1;rw [zRn h2,a,h2,b];by_cases ht:t=[] <;> simp [ht]
 ·obtain ⟨a,b⟩:=(ex f).1 h1;rw [a,h2,b];simp
 ·have a:=(ex f).2.1 h1;rw [zRn h2,a,h2,h1];by_cases ht:t=[] <;> simp [ht]
 ·have a:=(ex f).2.1 h1;rw [a,h2,h1];simp
theorem zYQ {l:List Fil} (c r:Int) (t:Bs):zEc l c r t=if t≠[]/\zNM l c r=false then zJa l c r t++[⟨c,r,t⟩] else zJa l c r t:=by
 unfold zEc zJa;by_cases ht:t=[]
 ·simp [ht]
 ·cases h:zNM l c r with
  |true=>simp [ht]
  |false=>simp [ht,zRn h]
theorem zfi (l:List Fil) (c r:Int) (t:Bs):(zJa l c r t).length<=2*l.length+1:=by
 unfold zJa;have h1:=zn4 (aheadC c r) l;have h2:=zn4 (zBW c r) l;simp only [zoP];split
 ·simp only [zoN,zoT];omega
 ·simp only [zoT];omega
theorem zTV {l:List Fil} (hs:Srtd l) {i:Nat} {f:Fil} (hf:l[i]?=some f) {c r:Int} (ha:aheadC c r f=true):zNM (l.take i) c r=false:=by
 unfold zNM;rw [List.any_eq_false];intro g hg;obtain ⟨k,hk⟩:=zo6 hg;have hki:=(zl_ hk);rw [zon] at hki;rw [List.getElem?_take_of_lt tO] at hk;obtain ⟨h1,rfl⟩:=zg hk;obtain ⟨h2,rfl⟩:=zg hf;have:=List.pairwise_iff_getElem.1 hs k i h1 h2 tO;simp only [aheadC,zoY] at ha;simp only [zmD,aheadC,zl4];omega
structure RwS where
 i:Nat
 v:AV
section
variable {C:CSpec} {GT:zG_}
theorem zca (hA:∀ a b H,C zBw [ze a.col a.row,ze b.col b.row] H (.bool (zEb a b)) H) (lv:AV) (l:List Fil) (hl:l.length<=3000) (hs:Srtd l) (c r:Int) (t:Bs) (H:Heap) (hlv:zCS lv 3 (l.map zf)) :
  EFun C GT zKD [lv,ze c r,.str t] H (zJ7 3 ((zEc l c r t).map zf)) H:=by
 have hlm:(l.map zf).length=l.length:=zoU _;have hv:=hlv.view H;have hah:∀ f H,C zBw [ze f.col f.row,ze c r] H (.bool (aheadC c r f)) H:=fun f H=>by
  have:=hA f ⟨c,r,[]⟩ H;have e:zEb f ⟨c,r,[]⟩=aheadC c r f:=by unfold zEb;exact zQa c r f
  rwa [e] at this
 clear hA;refine zH<|zAV (x:=ze c r) rfl ?_;refine zAr (fun x:RwS=>[(9,zL x.i),(0,lv),(4,pR H.length),(2,.str t),(7,x.v),(8,.bool ((t==([]:Bs))||zNM (l.take x.i) c r))]) (fun x H'=>Old (H++[ABlk.box (ze c r).cells]) H'/\x.i<=l.length/\Owns (H++[ABlk.box (ze c r).cells]) H' x.v 3 ((zJa (l.take x.i) c r t).map zf)) (fun x=>l.length-x.i) ⟨0,.lst (some true) 0 []⟩ (by simp only [List.take_zero,zNM,List.any_nil,znf] <;> rfl) ⟨Old.refl _,zmB _,.inl ⟨rfl,by simp [zJa,zNM]⟩⟩ (fun ⟨i,v⟩ H1 ⟨hO,hi,ho⟩=>?_)
 dsimp only at hi ho ⊢;have hO0:Old H H1:=((Old.refl H).push _).trans hO;have hb4:H1[H.length]?=some (.box (ze c r).cells):=by rw [hO.2 _ zS_];exact zB
 have hv1:=zHx hO0 hv;have hol:=zfi (l.take i) c r t;have htl:(l.take i).length<=3000:=by rw [zon];omega
 by_cases hlt:i<l.length
 case neg=>
  have he:l.take i=l:=zox tO;rw [he] at ho hol ⊢;have hw:=zYQ (l:=l) c r t;cases hp:((t==([]:Bs))||zNM l c r) with
  |true=>
   have hw2:zEc l c r t=zJa l c r t:=by
    rw [hw,zWl];rintro ⟨a,b⟩;rw [b,znf] at hp;exact a (zol.1 hp)
   rw [<-hw2] at ho;refine zDU hv1<|zc (tF)<|zC ?_
   obtain ⟨H3,hz,hO3,_⟩:=(ho.weaken (H0:=H) zS_).frz hO0;exact zIw rfl rfl hz (by generalize (zEc l c r t).map zf=xs;cases xs <;> rfl) hO3
  |false=>
   rw [zoD] at hp;have hw2:zEc l c r t=zJa l c r t++[⟨c,r,t⟩]:=by rw [hw,zoQ ⟨fun h=>by rw [h] at hp;exact absurd hp.1 zD_,hp.2⟩]
   refine zDU hv1<|zc (tF)<|zD<|zA (ze c r) hb4 rfl<|za (v:=[zK c,zK r,.str t]) rfl<|zAA (vs':=[.agg [zK c,zK r,.str t]]) rfl rfl ?_;refine zA0 (H0:=H++[ABlk.box (ze c r).cells]) (ys:=[.agg [zK c,zK r,.str t]]) (ho.push _) (hO.push _) zAR zD_ (by simp only [zoU,zoN,zoT];omega) zS_ (fun v' H' ho' hO' _ _=>?_)
   have ho':Owns (H++[ABlk.box (ze c r).cells]) H' v' 3 ((zEc l c r t).map zf):=by rw [hw2,zov];exact ho'
   have hO0':Old H H':=((Old.refl H).push _).trans hO';obtain ⟨H3,hz,hO3,_⟩:=(ho'.weaken (H0:=H) zS_).frz hO0';exact zIw rfl rfl hz (by generalize (zEc l c r t).map zf=xs;cases xs <;> rfl) hO3
 obtain ⟨f,hf⟩:∃ f,l[i]?=some f:=⟨_,zoO hlt⟩;have hfm:(l.map zf)[i]?=some (zf f):=by rw [zoX,hf];rfl
 have htk:l.take (i+1)=l.take i++[f]:=by rw [znw,hf];rfl
 obtain ⟨q1,q2,q3,q4,q5⟩:=zcZ (l.take i) f c r t;have qa:=zTU (l.take i) f c r;rw [<-htk] at q1 q2 q3 q4 q5 qa;have hab:=fun h=>zTV hs hf (c:=c) (r:=r) h;have hfa:=hah f;clear hah;have three:(aheadC c r f=true/\(f.col==c&&(f.row==r&&true))=false)\/(aheadC c r f=false/\isC c r f=true/\f.col=c/\f.row=r)\/(aheadC c r f=false/\zBW c r f=true/\(f.col==c&&(f.row==r&&true))=false):=by
  simp only [aheadC,isC,zBW,zoY,zl4,zm1,znH,zoE];omega
 generalize hps:((t==([]:Bs))||zNM (l.take i) c r)=ps at *;rcases three with ⟨ta,tc⟩|⟨ta,ti,tc,tr⟩|⟨ta,tb,tc⟩
 ·have hno:=hab ta;rw [ta] at qa hfa;rw [hno,znf] at hps;have hpn:ps=((t==([]:Bs))||zNM (l.take (i+1)) c r):=by rw [qa,hno,hps];simp
  have hoo:zJa (l.take (i+1)) c r t=zJa (l.take i) c r t++[f]:=q1 ta hno;cases ps with
  |true=>
   refine zDU hv1<|zt (tT)<|zC<|zC<|zC<|zBg i (zf f) hlv rfl hfm<|z8 (ze f.col f.row) rfl<|zA (ze c r) hb4 rfl<|za rfl<|zt (show zL9 true (f.col==c&&(f.row==r&&true))=true from by rw [tc];rfl)<|zBg i (zf f) hlv rfl hfm<|z8 (zf f) rfl<|zAA (vs':=[zf f]) rfl rfl ?_;refine zA0 (H0:=H++[ABlk.box (ze c r).cells]) (ys:=[zf f]) (ho.push _) (hO.push _) zAR zD_ (by simp only [zoU,zoP,zoN,zoT];omega) zS_ (fun v' H' ho' hO' _ _=>?_)
   have ho':Owns (H++[ABlk.box (ze c r).cells]) H' v' 3 ((zJa (l.take (i+1)) c r t).map zf):=by rw [hoo,zov];exact ho'
   refine zQ (r:=i+1) rfl tO ?_;refine zAJ (RwS.mk (i+1) v') (by rw [<-hpn] <;> rfl) ⟨hO',by simp only;omega,ho'⟩ (by simp only;omega)
  |false=>
   refine zDU hv1<|zt (tT)<|zD<|zBg i (zf f) hlv rfl hfm<|z8 (ze f.col f.row) rfl<|zA (ze c r) hb4 rfl<|zI (hfa _)<|zD<|zC<|zBg i (zf f) hlv rfl hfm<|z8 (ze f.col f.row) rfl<|zA (ze c r) hb4 rfl<|za rfl<|zt (show zL9 true (f.col==c&&(f.row==r&&true))=true from by rw [tc];rfl)<|zBg i (zf f) hlv rfl hfm<|z8 (zf f) rfl<|zAA (vs':=[zf f]) rfl rfl ?_;refine zA0 (H0:=H++[ABlk.box (ze c r).cells]) (ys:=[zf f]) (ho.push _) (hO.push _) zAR zD_ (by simp only [zoU,zoP,zoN,zoT];omega) zS_ (fun v' H' ho' hO' _ _=>?_)
   have ho':Owns (H++[ABlk.box (ze c r).cells]) H' v' 3 ((zJa (l.take (i+1)) c r t).map zf):=by rw [hoo,zov];exact ho'
   refine zQ (r:=i+1) rfl tO ?_;refine zAJ (RwS.mk (i+1) v') (by rw [<-hpn] <;> rfl) ⟨hO',by simp only;omega,ho'⟩ (by simp only;omega)
 ·rw [ta] at qa hfa;have hpn:true=((t==([]:Bs))||zNM (l.take (i+1)) c r):=by rw [qa];simp
  cases ps with
  |true=>
   have hoo:zJa (l.take (i+1)) c r t=zJa (l.take i) c r t:=by
    cases ha:zNM (l.take i) c r with
    |true=>exact q3 ti ha
    |false=>
     rw [ha,znf] at hps;rw [q2 ti ha,zol.1 hps];simp
   refine zDU hv1<|zt (tT)<|zC<|zC<|zC<|zBg i (zf f) hlv rfl hfm<|z8 (ze f.col f.row) rfl<|zA (ze c r) hb4 rfl<|za rfl<|zc (show zL9 true (f.col==c&&(f.row==r&&true))=false from by rw [tE tc,tE tr];rfl)<|zQ (r:=i+1) rfl tO ?_;refine zAJ (RwS.mk (i+1) v) (by rw [<-hpn] <;> rfl) ⟨hO,by simp only;omega,by rw [hoo];exact ho⟩ (by simp only;omega)
  |false=>
   rw [zoD] at hps;have hne:t≠[]:=fun h=>by rw [h] at hps;exact absurd hps.1 zD_
   have hoo:zJa (l.take (i+1)) c r t=zJa (l.take i) c r t++[⟨c,r,t⟩]:=by rw [q2 ti hps.2,zoQ hne]
   refine zDU hv1<|zt (tT)<|zD<|zBg i (zf f) hlv rfl hfm<|z8 (ze f.col f.row) rfl<|zA (ze c r) hb4 rfl<|zI (hfa _)<|zD<|zD<|zA (ze c r) hb4 rfl<|za (v:=[zK c,zK r,.str t]) rfl<|zAA (vs':=[.agg [zK c,zK r,.str t]]) rfl rfl ?_;refine zA0 (H0:=H++[ABlk.box (ze c r).cells]) (ys:=[.agg [zK c,zK r,.str t]]) (ho.push _) (hO.push _) zAR zD_ (by simp only [zoU,zoP,zoN,zoT];omega) zS_ (fun v' H' ho' hO' _ _=>?_)
   have ho':Owns (H++[ABlk.box (ze c r).cells]) H' v' 3 ((zJa (l.take (i+1)) c r t).map zf):=by rw [hoo,zov];exact ho'
   have hv2:=zHx (((Old.refl H).push _).trans hO') hv;have hb5:H'[H.length]?=some (.box (ze c r).cells):=by rw [hO'.2 _ zS_];exact zB
   refine zBg i (zf f) hlv rfl hfm<|z8 (ze f.col f.row) rfl<|zA (ze c r) hb5 rfl<|za rfl<|zc (show zL9 true (f.col==c&&(f.row==r&&true))=false from by rw [tE tc,tE tr];rfl)<|zQ (r:=i+1) rfl tO ?_;refine zAJ (RwS.mk (i+1) v') (by rw [<-hpn] <;> rfl) ⟨hO',by simp only;omega,ho'⟩ (by simp only;omega)
 ·rw [ta] at qa hfa;have hpn:true=((t==([]:Bs))||zNM (l.take (i+1)) c r):=by rw [qa];simp
  cases ps with
  |true=>
   have hoo:zJa (l.take (i+1)) c r t=zJa (l.take i) c r t++[f]:=by
    cases ha:zNM (l.take i) c r with
    |true=>exact q5 tb ha
    |false=>
     rw [ha,znf] at hps;rw [q4 tb ha,zol.1 hps];simp
   refine zDU hv1<|zt (tT)<|zC<|zC<|zC<|zBg i (zf f) hlv rfl hfm<|z8 (ze f.col f.row) rfl<|zA (ze c r) hb4 rfl<|za rfl<|zt (show zL9 true (f.col==c&&(f.row==r&&true))=true from by rw [tc];rfl)<|zBg i (zf f) hlv rfl hfm<|z8 (zf f) rfl<|zAA (vs':=[zf f]) rfl rfl ?_;refine zA0 (H0:=H++[ABlk.box (ze c r).cells]) (ys:=[zf f]) (ho.push _) (hO.push _) zAR zD_ (by simp only [zoU,zoP,zoN,zoT];omega) zS_ (fun v' H' ho' hO' _ _=>?_)
   have ho':Owns (H++[ABlk.box (ze c r).cells]) H' v' 3 ((zJa (l.take (i+1)) c r t).map zf):=by rw [hoo,zov];exact ho'
   refine zQ (r:=i+1) rfl tO ?_;refine zAJ (RwS.mk (i+1) v') (by rw [<-hpn] <;> rfl) ⟨hO',by simp only;omega,ho'⟩ (by simp only;omega)
  |false=>
   rw [zoD] at hps;have hne:t≠[]:=fun h=>by rw [h] at hps;exact absurd hps.1 zD_
   have hoo:zJa (l.take (i+1)) c r t=zJa (l.take i) c r t++[⟨c,r,t⟩]++[f]:=by rw [q4 tb hps.2,zoQ hne]
   refine zDU hv1<|zt (tT)<|zD<|zBg i (zf f) hlv rfl hfm<|z8 (ze f.col f.row) rfl<|zA (ze c r) hb4 rfl<|zI (hfa _)<|zD<|zD<|zA (ze c r) hb4 rfl<|za (v:=[zK c,zK r,.str t]) rfl<|zAA (vs':=[.agg [zK c,zK r,.str t]]) rfl rfl ?_;refine zA0 (H0:=H++[ABlk.box (ze c r).cells]) (ys:=[.agg [zK c,zK r,.str t]]) (ho.push _) (hO.push _) zAR zD_ (by simp only [zoU,zoP,zoN,zoT];omega) zS_ (fun v' H' ho' hO' _ _=>?_)
   have hv2:=zHx (((Old.refl H).push _).trans hO') hv;have hb5:H'[H.length]?=some (.box (ze c r).cells):=by rw [hO'.2 _ zS_];exact zB
   refine zBg i (zf f) hlv rfl hfm<|z8 (ze f.col f.row) rfl<|zA (ze c r) hb5 rfl<|za rfl<|zt (show zL9 true (f.col==c&&(f.row==r&&true))=true from by rw [tc];rfl)<|zBg i (zf f) hlv rfl hfm<|z8 (zf f) rfl<|zAA (vs':=[zf f]) rfl rfl ?_;refine zA0 (H0:=H++[ABlk.box (ze c r).cells]) (ys:=[zf f]) (ho'.push _) (hO'.push _) zAR zD_ (by simp only [zoU,zoP,zoN,zoT];omega) zS_ (fun v'' H'' ho'' hO'' _ _=>?_)
   have ho'':Owns (H++[ABlk.box (ze c r).cells]) H'' v'' 3 ((zJa (l.take (i+1)) c r t).map zf):=by rw [hoo,zov,zov];exact ho''
   refine zQ (r:=i+1) rfl tO ?_;refine zAJ (RwS.mk (i+1) v'') (by rw [<-hpn] <;> rfl) ⟨hO'',by simp only;omega,ho''⟩ (by simp only;omega)
end
theorem zcb (c r:Int):zEc [] c r []=[]:=by simp [zEc]
def opV (q:Bool) (l:List Fil):AV:=.lst (some q) (if q=true then 0 else 3) (l.map zf)
theorem zfj (q:Bool) (l:List Fil) (hq:q=true->l=[]) (c r:Int) (t:Bs):(if q=true/\t=[] then AV.lst (some true) 0 [] else .lst (some false) 3 ((zEc l c r t).map zf))=opV (q&&decide (t=[])) (zEc l c r t):=by
 by_cases h:q=true/\t=[]
 ·obtain ⟨rfl,rfl⟩:=h;rw [hq rfl,zcb];rfl
 ·rw [zWl h];have:(q&&decide (t=[]))=false:=by
   cases q
   ·rfl
   ·simp only [true_and] at h;simp [h]
  rw [this];rfl
def zk1 (w a b:List Fil) (p:Int×Int):Prop:=zCA a p≠zCA w p/\zCA b p≠zCA w p/\zCA a p≠zCA b p
instance (w a b:List Fil) (p:Int×Int):Decidable (zk1 w a b p):=by unfold zk1;infer_instance
def cV (p:Int×Int):AV:=ze p.1 p.2
end Go.AM
