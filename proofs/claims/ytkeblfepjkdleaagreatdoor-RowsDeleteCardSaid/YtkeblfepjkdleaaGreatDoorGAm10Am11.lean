/- Several texts of mine in one (Am10, Am11). Own work. -/
import Derived.Test.YtkeblfepjkdleaaGreatDoorGAm5Am9
import Derived.Laws.Tables
set_option linter.all false
namespace Go.AM
section
variable {P:Program} {GT:zG_} {w:World} {M:AMap} {I:Nat->Prop} {H:Heap}
theorem zZq (hS:Sim GT w M I H) {s:Bool} {x:AV} {v:Value} {t ty:TypeId} {n:Nat} (hx:Rel w M I H.length x v) (h:aLen s x=some n) (ht:if s then zK8 P t=true else ∃ e,P.underlying t=some (.slice e)) :
  zAM P GT w M I H (Builtin.len_ #[t] ty #[v]) (.int .i64 n) H:=by
 unfold aLen at h;split at h
 ·obtain ⟨e,ht⟩:=ht;cases h;refine zAM.pure hS (v':=.int .i64 _) ?_ (.int _ _);cases hx <;> simp [Builtin.len_,run_underlying ht,goInt]
 ·obtain ⟨e,ht⟩:=ht;cases h;refine zAM.pure hS (v':=.int .i64 _) ?_ (.int _ _);cases hx <;> simp [Builtin.len_,run_underlying ht,goInt]
 ·have ht:=zOv ht;cases h;refine zAM.pure hS (v':=.int .i64 _) ?_ (.int _ _);cases hx;simp [Builtin.len_,run_underlying ht,goInt,zRV]
 ·cases h
theorem zNt:∀ {xs:List AV} {s:List UInt8},zHK xs=some s->∃ ns:List Int,xs=ns.map (.int .u8)/\s=ns.map fun n=>UInt8.ofNat n.toNat
 |[],s,h=>by simp [zHK] at h;subst h;exact ⟨[],rfl,rfl⟩
 |x::xs,s,h=>by
  cases x with
  |int k n=>
   cases k <;> simp only [zHK,reduceCtorEq] at h
   obtain ⟨r,hr,rfl⟩:=zlN.1 h;obtain ⟨ns,rfl,rfl⟩:=zNt hr;exact ⟨n::ns,rfl,rfl⟩
  |_=>simp [zHK] at h
theorem zX1 (ns:List Int):∀ l:List UInt8,ns.foldl (fun (r:ByteArray) n=>r.push (UInt8.ofNat n.toNat)) ⟨l.toArray⟩=⟨(l++ns.map fun n=>UInt8.ofNat n.toNat).toArray⟩:=by
 induction ns with
 |nil=>intro l;simp
 |cons n ns ih=>
  intro l;simp only [znf,zlU];rw [show (⟨l.toArray⟩:ByteArray).push (UInt8.ofNat n.toNat)=⟨(l++[UInt8.ofNat n.toNat]).toArray⟩ by apply ByteArray.ext;simp [ByteArray.push],ih];simp
theorem zVW (hS:Sim GT w M I H) {s d:TypeId} {x:AV} {v:Value} {xs:List AV} {r:List UInt8} (hs:zXx P s=true) (hd:zK8 P d=true) (hx:Rel w M I H.length x v) (hv:view H 1 x=some xs) (hb:zHK xs=some r) :
  zAM P GT w M I H (convert s d v) (.str r) H:=by
 obtain ⟨e,h1,h2⟩:=zWn hs;have h3:=zOv hd;obtain ⟨ns,rfl,rfl⟩:=zNt hb;obtain ⟨he,⟨rfl|⟨a,rfl⟩,hnil⟩|⟨g,p,cap,rfl,hc,hm,hrow⟩⟩:=zRW hS hx hv
 ·simp only [znG] at hnil;subst hnil;refine zAM.pure hS (v':=.string ⟨[].toArray⟩) ?_ (.str _);rw [run_convert_bytes_string w s d e none 0 0 h1 h2 h3];simp [Conv.bytesToString];rfl
 ·simp only [znG] at hnil;subst hnil;refine zAM.pure hS (v':=.string ⟨[].toArray⟩) ?_ (.str _);rw [run_convert_bytes_string w s d e (some a) 0 0 h1 h2 h3];simp [Conv.bytesToString,loadCells,loadCellsFrom];rfl
 ·refine zAM.pure hS (v':=.string ⟨(ns.map fun n=>UInt8.ofNat n.toNat).toArray⟩) ?_ (.str _);rw [run_convert_bytes_string w s d e _ _ cap h1 h2 h3];have hl:=run_loadCells_list (P:=P) w ⟨g,p,none⟩ (ns.map (Value.int .u8)) (fun j u hu=>by
   rw [Addr.add_lit];simp only [zlQ,zlN] at hu;obtain ⟨m,hm,rfl⟩:=hu;obtain ⟨u',a,b⟩:=hrow j 0 (.int .u8 m) (.int .u8 m) (by simp [hm]) rfl;cases b;rw [<-a];congr 2;omega)
  rw [zlM] at hl ⊢;rw [run_bytesToString w _ _ cap ns hl];have:=zX1 ns [];simp only [zl2] at this
  congr 2
theorem zPG (s:List UInt8):Elems 1 (s.map zo):=fun x hx=>by
 obtain ⟨c,_,rfl⟩:=zmn.1 hx;rfl
theorem zSH (hS:Sim GT w M I H) {s d:TypeId} {l:List UInt8} (hs:(P.underlying s).isSome=true) (hd:zXx P d=true) (hl:l.length<=140737488355328) :
  zAM P GT w M I H (convert s d (.string ⟨l.toArray⟩)) (.sl (some false) H.length 1 0 l.length) (H++[.row 1 (l.map zo)]):=by
 obtain ⟨e,h1,h2⟩:=zWn hd;obtain ⟨u,hu⟩:=zmH.1 hs;have hr:=Lib.run_convert_string_bytes (P:=P) w s d e ⟨l.toArray⟩ hu h1 h2;have hge:=grownCap_ge w l.length 0 e;have hcm:=grownCap_le_maxLen w l.length 0 e (by simp only [maxLen];omega);have hnew:=Lib.bytesWorld_at_new w e ⟨l.toArray⟩;have hsize:(Lib.bytesCells w e ⟨l.toArray⟩).size=grownCap w l.length 0 e:=by
  simp only [Lib.bytesCells,zno,Array.size_map,Array.size_replicate,zRV];simp;omega
 have hheap:(Lib.bytesWorld w e ⟨l.toArray⟩).heap=w.heap.push (.cells (Lib.bytesCells w e ⟨l.toArray⟩) e ((Lib.bytesCells w e ⟨l.toArray⟩).size,(Lib.bytesCells w e ⟨l.toArray⟩).size+1)):=by
  apply zmo;intro k;rw [zl9];split
  ·rename_i hk;rw [hk];exact hnew
  ·rename_i hk;by_cases hlt:k<w.heap.size
   ·exact Lib.bytesWorld_at_old w e _ k hlt
   ·rw [zmy (xs:=w.heap) tO,zmy (by rw [Lib.bytesWorld_size];omega)]
 have hos:(Lib.bytesWorld w e ⟨l.toArray⟩).os=w.os/\(Lib.bytesWorld w e ⟨l.toArray⟩).tape=w.tape/\(Lib.bytesWorld w e ⟨l.toArray⟩).output=w.output:=by
  exact ⟨rfl,rfl,rfl⟩
 obtain ⟨G,S⟩:=hS.push (blk:=.row 1 (l.map zo)) hheap hos.1 hos.2.1 hos.2.2 (zHm (cells:=l.map fun c=>.int .u8 c.toNat) (o:=0) (zPG l) zAY ⟨e,_,hnew,fun j hj h=>by omega⟩
  (fun h=>absurd (hS.idom _ h) (znH _)) (by rw [hsize];simpa using hge) (fun j hj=>by
   simp only [zlM,znY] at hj;rw [zlx,Lib.bytesCells,zmY (by simpa using hj)];simp) zS_ (fun i j x c hi hj=>by
   simp only [zlQ,zlN] at hi;obtain ⟨b,hb,rfl⟩:=hi;cases j with
   |zero=>simp [zo,AV.cells] at hj;subst hj;exact ⟨.int .u8 b.toNat,by simp [hb],.int _ _⟩
   |succ j=>simp [zo,AV.cells] at hj))
 refine ⟨_,_,_,I,hr,G,S, ?_⟩;rw [zRV];exact .sl _ _ _ _ _ w.heap.size 0 0 _ zS_ zAY hge hcm zS_ (fun _=>⟨by simp,e,_,by simp [World.shape?,hnew];rfl,by rw [hsize];simp⟩)
theorem zM5 (hS:Sim GT w M I H) {e:TypeId} {vs:Array Value} {cs:List AV} (hr:zEV w M I H.length cs vs.toList) :
  Grow w M I H (w.alloc (.cells vs e)) (more M H.length (some (w.heap.size,0))) I (H++[.box cs])/\Sim GT (w.alloc (.cells vs e)) (more M H.length (some (w.heap.size,0))) I (H++[.box cs]):=by
 have hheap:(w.alloc (.cells vs e)).heap=w.heap.push (.cells vs e):=rfl;refine hS.push hheap rfl rfl rfl ⟨w.heap.size,0,vs,zAY,⟨e,(0,0),by rw [hheap,zl9,zlF rfl],fun j _ h=>absurd h.2 (zmP _)⟩,fun h=>absurd (hS.idom _ h) (znH _),by have:=hr.1;simp at this;omega,fun j c hj=>?_⟩;obtain ⟨v,hv,hrv⟩:=zDg hr hj;refine ⟨v,by rw [zlx,<-hv];simp, ?_⟩;have:=(Sim.push (blk:=.dead) hS hheap rfl rfl rfl trivial).1.rel hS hrv;simpa using this
theorem zVX (hS:Sim GT w M I H) {e:TypeId} {vs:Array Value} {cs:List AV} (hr:zEV w M I H.length cs vs.toList) :
  Grow w M I H (w.alloc (.cells vs e)) (more (more M H.length (some (w.heap.size,0))) (H++[ABlk.box cs]).length none) I (H++[.box cs]++[.shp H.length e cs.length]) /\
   Sim GT (w.alloc (.cells vs e)) (more (more M H.length (some (w.heap.size,0))) (H++[ABlk.box cs]).length none) I (H++[.box cs]++[.shp H.length e cs.length]):=by
 obtain ⟨G,S⟩:=zM5 (e:=e) hS hr;have hl:H.length<(H++[ABlk.box cs]).length:=by simp
 obtain ⟨G2,S2⟩:=S.pushAny (blk:=.shp H.length e cs.length) ⟨hl,w.heap.size,by rw [zIR hl];exact zAY,by
  have hh:(w.alloc (.cells vs e)).heap[w.heap.size]?=some (.cells vs e (0,0)):=by
   show (w.heap.push (.cells vs e))[w.heap.size]?=_;rw [zl9,zlF rfl]
  simp only [World.shape?,hh];have:=hr.1;rw [this];simp⟩
 exact ⟨G.trans G2,S2⟩
theorem zZr {s:Sem Value} {v:AV} {H0:Heap} {t:Nat} {Q:World->AMap->Prop} (h:zPF P GT w M I H s v H0 Q) (hq:∀ w' M',Q w' M'->∃ g c,M' H.length=some (g,0)/\w'.shape? g=some (t,c)) (hl:H.length<H0.length) :
  zAM P GT w M I H s v (H0++[.ty H.length t]):=by
 obtain ⟨v',w',M',I',a,G,S,R,q⟩:=h;obtain ⟨g,c,e1,e2⟩:=hq _ _ q;obtain ⟨G2,S2⟩:=S.pushAny (blk:=.ty H.length t) ⟨hl,g,c,by rw [zIR hl];exact e1,e2⟩;exact ⟨v',w',_,I',a,G.trans G2,S2,G2.rel S R⟩
theorem zX2 (hS:Sim GT w M I H) {t e:TypeId} {i:TypeInfo} {zv:Value} {z:AV} {k bytes:Nat} {kl kc:IntKind} {l c:Int} (ht:P.underlying t=some (.slice e)) (hi:P.info? e=some i) (hk:i.size=k) (hb:i.bytes=bytes) (hz:i.zero=some zv)
  (hzk:zv.cells.size=k) (hzz:zPC zv z=true) (hk0:0<k) (h0:0<=l) (hlc:l<=c) (hbytes:(bytes:Int)*c<=281474976710656) (hc:c<=9223372036854775807) (hel:z.elem k=true) :
  zAM P GT w M I H (Instr.makeSlice t (.int kl l) (.int kc c)) (.sl (some false) H.length k 0 l.toNat) (H++[.row k (List.replicate l.toNat z)]):=by
 subst hk hb;have hr:=run_make (P:=P) w t e i zv ht hi hz kl kc l c h0 hlc hbytes hc;have hheap:(w.alloc (.cells (madeCells zv.cells (c.toNat*i.size)) e)).heap=w.heap.push (.cells (madeCells zv.cells (c.toNat*i.size)) e):=rfl;have hzr:=zJd (zTf (w:=w) (M:=M) (I:=I) (n:=H.length) hzz) (zTi (zmE.2 (AV.elem_iff.1 hel).2.2));have hlc':l.toNat<=c.toNat:=by omega
 obtain ⟨G,S⟩:=hS.push (blk:=.row i.size (List.replicate l.toNat z)) hheap rfl rfl rfl (zHm (cells:=(madeCells zv.cells (l.toNat*i.size)).toList) (o:=0) (fun x hx=>by obtain ⟨_,rfl⟩:=List.mem_replicate.1 hx;exact hel) zAY
  ⟨e,(0,0),by rw [hheap,zl9,zlF rfl],fun j _ h=>absurd h.2 (zmP _)⟩
  (fun h=>absurd (hS.idom _ h) (znH _)) (by rw [size_madeCells];simpa using zl1 _ hlc') (fun j hj=>by
   simp only [List.length_replicate] at hj;have:l.toNat*i.size<=c.toNat*i.size:=zl1 _ hlc';simp [madeCells,hj,show j<c.toNat*i.size by omega]) (by simp [size_madeCells]) (fun a j x c' hx hj=>by
   rw [znm] at hx;split at hx
   case isFalse=>cases hx
   rename_i hal;obtain rfl:=zlb hx;obtain ⟨u,hu,hru⟩:=zDg hzr hj;have hjl:=(zl_ hj);rw [(AV.elem_iff.1 hel).1] at hjl;have hlt:a*i.size+j<l.toNat*i.size:=by
    have:(a+1)*i.size<=l.toNat*i.size:=zl1 _ hal;rw [zmA] at this;omega
   refine ⟨u, ?_, ?_⟩
   ·simp only [madeCells,Array.toList_map,Array.toList_range,zlQ,zmc hlt,zlW,hzk];rw [show (a*i.size+j)%i.size=j by rw [znD,Nat.add_mul_mod_self_right,znW hjl]];have hu':zv.cells[j]?=some u:=by simpa using hu
    simp [getElem!_def,hu']
   ·have:=(Sim.push (blk:=.dead) hS hheap rfl rfl rfl trivial).1.rel hS hru;simpa using this))
 refine ⟨_,_,_,I,hr,G,S, ?_⟩;exact .sl _ _ _ _ _ w.heap.size 0 0 _ zS_ zAY hlc' (by simp only [maxLen];omega) zS_ (fun _=>⟨by simp,e,_,by simp [World.shape?,hheap];rfl,by rw [size_madeCells];simp⟩)
def zJf (cs:List Value) (o:Nat) (vs:List Value):List Value:=cs.take o++vs++cs.drop (o+vs.length)
theorem zPH (off:Nat):∀ (l:List Value) (a:Nat) (cs:Array Value),off+a+l.length<=cs.size ->
  ((l.zipIdx a).foldl (fun (cs:Array Value) (p:Value×Nat)=>cs.setIfInBounds (off+p.2) p.1) cs).toList=zJf cs.toList (off+a) l
 |[],a,cs,h=>by simp [zJf]
 |v::l,a,cs,h=>by
  simp only [zlE] at h;simp only [List.zipIdx_cons,znf];rw [zPH off l (a+1) _ (by simp;omega)];apply znA;intro j;have hl:(cs.toList.take (off+(a+1))).length=off+(a+1):=by simp;omega
  simp only [zJf,Array.toList_setIfInBounds,zlk,zlE];by_cases h1:j<off+a
  ·rw [zlS (by simp;omega),zlS (by simp;omega),zlt,zlt,zlF tO,zlF h1,zlm tO]
  ·rw [zld (l₁:=List.take (off+a) cs.toList) (by simp;omega)];have hl2:(List.take (off+a) cs.toList).length=off+a:=by simp;omega
   rw [hl2];by_cases h2:j=off+a
   ·subst h2;rw [zlS (by simp;omega),zlt,zlF tO,zli (by simp;omega)];simp
   ·have hl3:(List.take (off+(a+1)) (cs.toList.set (off+a) v)).length=off+(a+1):=by simp;omega
    rw [zld (by rw [hl3];omega),hl3];rw [show j-(off+a)=(j-(off+(a+1)))+1 by omega,zl5,zm6];by_cases h3:j-(off+(a+1))<l.length
    ·rw [zlS h3,zlS h3]
    ·rw [zld tO,zld tO,zlu,zlu,zlm tO]
     congr 1;omega
theorem zX3 {n:Nat} {cs vs:List AV} {us ws:List Value} (h1:zEV w M I n cs us) (h2:zEV w M I n vs ws) {o:Nat} (hle:o+vs.length<=cs.length):zEV w M I n (splice cs o vs) (zJf us o ws):=by
 have l1:=h1.1;have l2:=h2.1;refine ⟨by simp [splice,zJf];omega,fun i c v hc hv=>?_⟩;rw [zM4 hle] at hc;have hv':(zJf us o ws)[i]?=if o<=i/\i<o+ws.length then ws[i-o]? else us[i]?:=by
  unfold zJf;have ho:(us.take o).length=o:=by simp;omega
  rw [zlk,znV,ho];split
  ·rw [zlD tO,zlt,zlF ‹_›]
  ·rw [znV];split
   ·rw [zlF tO]
   ·rw [zlD tO,zlu]
    congr 1;omega
 rw [hv'] at hv;split at hc
 ·rw [zlF tO] at hv;exact h2.2 _ c v hc hv
 ·rw [zlD tO] at hv;exact h1.2 _ c v hc hv
theorem zM6 {n:Nat} (place:Nat->Option (Nat×Nat)):∀ (ps:List (Nat×Value)) (pl:List (Nat×Nat)) (vs:List AV) (cells:Array Value) (cs cs':List AV),ps.map (fun p=>place p.1)=pl.map some->zEV w M I n vs (ps.map (·.2)) ->
  zEV w M I n cs cells.toList->zD6 cs pl vs=some cs'->∃ cells',Instr.fill place cells ps=some cells'/\zEV w M I n cs' cells'.toList
 |[],[],[],cells,cs,cs',_,_,hc,hf=>by
  simp only [zD6,zlJ] at hf;subst hf;exact ⟨cells,rfl,hc⟩
 |[],[],_::_,_,_,_,_,hv,_,_=>by have:=hv.1;simp at this
 |[],_::_,_,_,_,_,hp,_,_,_=>by simp at hp
 |_::_,[],_,_,_,_,hp,_,_,_=>by simp at hp
 |_::_,_::_,[],_,_,_,_,hv,_,_=>by have:=hv.1;simp at this
 |(i,u)::ps,(o,s)::pl,v::vs,cells,cs,cs',hp,hv,hc,hf=>by
  simp only [zlU,zmU] at hp;simp only [zD6] at hf;split at hf
  ·rename_i hcond;obtain ⟨hs,hle,hone⟩:=hcond;have hvu:Rel w M I n v u:=hv.2 0 v u rfl rfl;have hvs:zEV w M I n vs (ps.map (·.2)):=⟨by have:=hv.1;simpa using this,fun j c x h1 h2=>hv.2 (j+1) c x (by simpa using h1) (by simpa using h2)⟩;have hcu:=zJd hvu (zTi hone);have hul:u.cells.size=s:=by have:=hcu.1;simp at this;omega
   have hcl:cells.size=cs.length:=by have:=hc.1;simp at this;omega
   have hfold:(u.cells.zipIdx.foldl (fun (cs:Array Value) (p:Value×Nat)=>cs.setIfInBounds (o+p.2) p.1) cells).toList=zJf cells.toList o u.cells.toList:=by
    rw [<-Array.foldl_toList,Array.toList_zipIdx];have:=zPH o u.cells.toList 0 cells (by simp;omega);simpa using this
   obtain ⟨cells',r1,r2⟩:=zM6 place ps pl vs _ (splice cs o v.cells) cs' hp.2 hvs (by rw [hfold];exact zX3 hc hcu tO) hf;refine ⟨cells', ?_,r2⟩;simp only [Instr.fill,hp.1];rw [zlD (by simp;omega)];exact r1
  ·cases hf
theorem zVY (hS:Sim GT w M I H) {t:TypeId} {parts:Array (Nat×Value)} {z cs:List AV} {pl:List (Nat×Nat)} {vs:List AV} (hz:zPE P t z=true) (hso:zVT P t=true) (hpl:zFP P t (parts.toList.map (·.1))=some pl)
  (hv:zEV w M I H.length vs (parts.toList.map (·.2))) (h:zD6 z pl vs=some cs):zAM P GT w M I H (Instr.build t parts) (.agg cs) H:=by
 unfold zPE at hz;split at hz
 ·rename_i it hit;split at hz
  ·rename_i zv hzv;have hzr:=zHk (w:=w) (M:=M) (I:=I) (n:=H.length) hz;have main:∀ place,(parts.toList.map (fun p=>place p.1)=pl.map some)->(∀ cells',Instr.fill place zv.cells parts.toList=some cells'->P.built t parts.toList=some cells')->zAM P GT w M I H (Instr.build t parts) (.agg cs) H:=fun place hp hb=>by
    obtain ⟨cells',r1,r2⟩:=zM6 place parts.toList pl vs zv.cells z cs hp hv hzr h;refine zAM.pure hS (v':=.agg cells') (run_build w t parts cells' (hb _ r1)) ?_;have:=Rel.agg (w:=w) (M:=M) (I:=I) (n:=H.length) cs cells'.toList r2.1 r2.2;simpa using this
   unfold zVT at hso;split at hso
   ·rename_i fs hu;have hm:∃ places,fs.toList.mapM (fun (f:Field)=>(P.info? f.type).map fun i=>(f.offset,i.size))=some places/\∀ j:Nat,places[j]?=(fs.toList[j]?).bind fun (f:Field)=>(zFZ P f.type).map fun s=>(f.offset,s):=by
     revert hso;generalize fs.toList=l;intro hso;induction l with
     |nil=>exact ⟨[],rfl,by simp⟩
     |cons f l ih=>
      simp only [zmq,zlG] at hso;obtain ⟨pl',e1,e2⟩:=ih hso.2;obtain ⟨s,hs⟩:=zmH.1 hso.1;have hs':=hs;unfold zFZ at hs';obtain ⟨i,hi,hsz⟩:=zlN.1 hs';refine ⟨(f.offset,i.size)::pl',by simp [znl,hi,e1],fun j=>?_⟩;cases j with
      |zero=>simp [hs,hsz]
      |succ j=>simpa using e2 j
    obtain ⟨places,m1,m2⟩:=hm;refine main (places.toArray[·]?) ?_ (fun cells' hc=>by simp only [Program.built,hit,hu,hzv,m1];exact hc);have:∀ (is:List Nat) (pl:List (Nat×Nat)),zFP P t is=some pl->is.map (fun i=>places.toArray[i]?)=pl.map some:=by
     intro is;induction is with
     |nil=>intro pl h;simp [zFP] at h;subst h;rfl
     |cons i is ih=>
      intro pl h;simp only [zFP,hu] at h;split at h
      ·rename_i f hf;split at h
       ·rename_i s pl' h1 h2;cases h;have hf':fs.toList[i]?=some f:=by simpa using hf
        rw [zlU,zlU,ih _ h2]
        congr 1
        rw [List.getElem?_toArray,m2,hf'];simp [h1]
       ·cases h
      ·cases h
    have:=this _ _ hpl;simpa [zm5,znp] using this
   ·rename_i m e hu;obtain ⟨s,hs⟩:=zmH.1 hso;have hs':=hs;unfold zFZ at hs';obtain ⟨ie,hie,hsz⟩:=zlN.1 hs';refine main (fun i=>some (i*ie.size,ie.size)) ?_ (fun cells' hc=>by simp only [Program.built,hit,hu,hzv,hie];exact hc);have:∀ (is:List Nat) (pl:List (Nat×Nat)),zFP P t is=some pl->is.map (fun i=>some (i*ie.size,ie.size))=pl.map some:=by
     intro is;induction is with
     |nil=>intro pl h;simp [zFP] at h;subst h;rfl
     |cons i is ih=>
      intro pl h;simp only [zFP,hu,hs] at h;split at h
      ·rename_i s' pl' h1 h2;simp only [zlJ] at h h1;subst h h1;rw [zlU,zlU,ih _ h2];simp [hsz]
      ·cases h
    have:=this _ _ hpl;simpa [zm5,znp] using this
   ·cases hso
  ·cases hz
 ·cases hz
end
section
variable {P:Program} {GT:zG_} {w:World} {M:AMap} {I:Nat->Prop} {H:Heap}
theorem zPI (k:Nat):∀ (vs:List AV) (a:Nat) (pre:List AV),pre.length=a*k->(∀ v∈vs,v.elem k=true) ->
  zD6 (pre++List.replicate (vs.length*k) .undef) ((List.range' a vs.length).map fun i=>(i*k,k)) vs=some (pre++vs.flatMap AV.cells)
 |[],a,pre,_,_=>by simp [zD6]
 |v::vs,a,pre,hp,hv=>by
  obtain ⟨h1,h2,h3⟩:=AV.elem_iff.1 (hv v zS_);have hone:v.cells.all AV.one=true:=zmE.2 h3;simp only [zlE,List.range'_succ,zlU,zD6];rw [zlF ⟨h1,by simp [zmA];omega,hone⟩];have hs:splice (pre++List.replicate ((vs.length+1)*k) AV.undef) (a*k) v.cells=(pre++v.cells)++List.replicate (vs.length*k) AV.undef:=by
   unfold splice;rw [h1,<-hp,List.take_left',List.drop_append]
   ·simp [List.drop_replicate,zmA]
   ·rfl
  rw [hs,zPI k vs (a+1) (pre++v.cells) (by simp [h1,hp,zmA]) (fun x hx=>hv x (by simp [hx]))];simp
theorem zWo {k:Nat}:∀ {xs:List AV} {i j:Nat} {x c:AV},Elems k xs->xs[i]?=some x->x.cells[j]?=some c->(xs.flatMap AV.cells)[i*k+j]?=some c
 |[],_,_,_,_,_,h,_=>by simp at h
 |y::xs,i,j,x,c,he,hx,hj=>by
  have hy:=(AV.elem_iff.1 (he y zS_)).1;cases i with
  |zero=>
   simp at hx;subst hx;rw [List.flatMap_cons,znQ,zlx,zlS (zl_ hj)];exact hj
  |succ i=>
   rw [List.flatMap_cons,zld (by rw [hy,zmA];omega),hy];have:=zWo (xs:=xs) (fun z hz=>he z (by simp [hz])) (by simpa using hx) hj;rw [<-this];congr 1
   rw [zmA];omega
theorem zWp {k:Nat}:∀ {xs:List AV},Elems k xs->(xs.flatMap AV.cells).length=xs.length*k
 |[],_=>by simp
 |y::xs,he=>by
  have hy:=(AV.elem_iff.1 (he y zS_)).1;have:=zWp (xs:=xs) (k:=k) (fun z hz=>he z (by simp [hz]));simp [hy,this,zmA];omega
theorem zTj (hS:Sim GT w M I H) {t:TypeId} {len k:Nat} {parts:Array (Nat×Value)} {vs vs':List AV} {H1:Heap} (hsl:zEm P t k=true) (hz:(match P.underlying t with
   |some (.slice e)=>(match P.info? e with
    |some i=>i.zero.isSome
    |none=>false)
   |_=>false)=true) (hlim:len*k<=16777216) (hlim':len<=16777216) (hidx:parts.toList.map (·.1)=List.range len)
  (hv:zEV w M I H.length vs (parts.toList.map (·.2))) (hf:zLg 0 vs H=some (vs',H1)) (hel:vs'.all (fun v=>v.elem k)=true) :
  zAM P GT w M I H (Instr.buildSlice t len parts) (.sl (some false) H1.length k 0 vs'.length) (H1++[.row k vs']):=by
 obtain ⟨e,ht,hse⟩:=zNs hsl;rw [ht] at hz;simp only at hz;split at hz
 case h_2=>cases hz
 rename_i i hi;obtain ⟨zv,hzv⟩:=zmH.1 hz;have hagg:=Rel.agg (w:=w) (M:=M) (I:=I) (n:=H.length) vs (parts.toList.map (·.2)) hv.1 hv.2;obtain ⟨I',G1,S1,R1,hlen,_⟩:=zLk 0 (.agg vs) hS hagg (x':=.agg vs') (H':=H1) (by simp [zEM,hf]);have hr:zEV w M I' H1.length vs' (parts.toList.map (·.2)):=by
  generalize hus:parts.toList.map (·.2)=us at R1;cases R1 with
  |agg _ _ hl h=>exact ⟨hl,h⟩
 have hvl:vs'.length=len:=by have h1:=hr.1;have h2:=zlR List.length hidx;simp at h1 h2;omega
 have hE:Elems k vs':=fun x hx=>zmE.1 hel x hx;subst hvl;have hseq:=zPI k vs' 0 [] zS_ hE;simp only [zl2] at hseq
 let base:Array Value:=(Array.range (vs'.length*k)).map (fun j=>(if vs'.length*k=0 then (#[]:Array Value) else zv.cells)[j%(if vs'.length*k=0 then (#[]:Array Value) else zv.cells).size]!)
 have hbase:zEV w M I' H1.length (List.replicate (vs'.length*k) AV.undef) base.toList:=by
  refine ⟨by simp [base],fun a c v hc _=>?_⟩;rw [znm] at hc;split at hc
  ·rw [<-Option.some.inj hc];exact .undef _
  ·cases hc
 obtain ⟨cells',f1,f2⟩:=zM6 (w:=w) (M:=M) (I:=I') (n:=H1.length) (fun i=>some (i*k,k)) parts.toList _ vs' base _ _ (by
  have:parts.toList.map (fun p=>some (p.1*k,k))=(parts.toList.map (·.1)).map (fun i=>some (i*k,k)):=by simp
  rw [this,hidx,List.range_eq_range'];simp) hr hbase hseq
 have hcl:cells'.toList.length=vs'.length*k:=by rw [<-f2.1,zWp hE]
 have hrun:(Instr.buildSlice t vs'.length parts).run P w=.ok (.slice (some ⟨w.heap.size,0,none⟩) vs'.length vs'.length) (w.alloc (.cells cells' e)):=by
  have hno:¬ (vs'.length*k>2^24):=by omega
  have hzr:∀ w:World,(zeroValue e).run P w=.ok zv w:=fun w=>by simp [zeroValue,typeInfo,hi,hzv]
  have f1':Instr.fill (fun i=>some (i*k,k)) ((Array.range (vs'.length*k)).map (fun j=>(if vs'.length*k=0 then (#[]:Array Value) else zv.cells)[j%(if vs'.length*k=0 then (#[]:Array Value) else zv.cells).size]!)) parts.toList=some cells':=f1;unfold Instr.buildSlice;by_cases h0:vs'.length*k=0
  ·simp only [zlF h0] at f1';simp only [Sem.run_bind,run_underlying ht,Result.andThen_ok,zBN hse,zlD hno,zlF h0,Sem.run_pure,f1'];simp [newRow]
  ·simp only [zlD h0] at f1';simp only [Sem.run_bind,run_underlying ht,Result.andThen_ok,zBN hse,zlD hno,zlD h0,hzr,Sem.run_pure,f1'];simp [newRow]
 have hheap:(w.alloc (.cells cells' e)).heap=w.heap.push (.cells cells' e):=rfl;obtain ⟨G,S⟩:=S1.push (blk:=.row k vs') hheap rfl rfl rfl (zHm (cells:=cells'.toList) (o:=0) hE zAY ⟨e,(0,0),by rw [hheap,zl9,zlF rfl],fun j _ h=>absurd h.2 (zmP _)⟩
  (fun h=>absurd (S1.idom _ h) (znH _)) (by have:=hcl;simp at this;omega) (fun j hj=>by rw [zlx];simp) hcl (fun a j x c hx hj=>by
   obtain ⟨u,hu,hru⟩:=zDg f2 (zWo hE hx hj);refine ⟨u,hu, ?_⟩;have:=(Sim.push (blk:=.dead) S1 hheap rfl rfl rfl trivial).1.rel S1 hru;simpa using this))
 refine ⟨_,_,_,I',hrun,G1.trans G,S, ?_⟩;refine .sl _ _ _ _ _ w.heap.size 0 0 _ zS_ zAY (zlK _) ?_ zS_ (fun _=>⟨by simp,e,_,by simp [World.shape?,hheap];rfl,by have:=hcl;simp at this;simp;omega⟩);simp only [maxLen];omega
end
end Go.AM
