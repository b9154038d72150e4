/- Several texts of mine in one (Am7, Am8, Am9, Am10, Am11, Am34). Own work. -/
import Derived.Test.YtmfmhljpddpfnaaGreatDoorGAm1Am6
import Derived.Laws.Tables
import Derived.WideKeyRuns
set_option linter.all false
namespace Go.AM
section
variable {P:Program} {GT:zG_} {w:World} {M:AMap} {I:Nat->Prop} {H:Heap}
theorem Sim.regrow {w':World} (hS:Sim GT w M I H) {b g o o2:Nat} {x y:ABlk} (hx:H[b]?=some x) (hxm:x.mut=true) (hM:M b=some (g,o)) {cur cur':Array Value} {e:TypeId} {fz:Nat×Nat}
    (hg:w.heap[g]?=some (.cells cur e fz)) (hsz:cur'.size=cur.size) (hh:w'.heap=w.heap.setIfInBounds g (.cells cur' e fz)) (ho:w'.os=w.os) (ht:w'.tape=w.tape) (hq:w'.output=w.output)
    (hy:zNf w' (more M H.length (some (g,o2))) I (H.length+1) H.length y) :
    Grow w M I H w' (more M H.length (some (g,o2))) I (H.set b .dead++[y])/\Sim GT w' (more M H.length (some (g,o2))) I (H.set b .dead++[y]):=by
  obtain ⟨G,S⟩:=Sim.write (y:=.dead) hS hx hxm hM hg hsz hh ho ht hq trivial;have hlive:zIR H M g:=⟨b,x,o,hx,hxm,hM⟩;have hnI:¬ I g:=fun h=>hS.notLive h hlive;have hlen:(H.set b .dead).length=H.length:=by simp
  have hold:∀ c,c<H.length->more M H.length (some (g,o2)) c=M c:=fun c hc=>zHs hc;have hnone:¬ zIR (H.set b .dead) M g:=by
    rintro ⟨c,z,p,h1,h2,h3⟩;by_cases hc:b=c
    · subst hc
      have hbl:=(zl_ hx);rw [zl3 hbl] at h1;obtain rfl:=zoh h1;simp [ABlk.mut] at h2
    · rw [zo7 hc] at h1
      exact hc (hS.inj c b z x g p o h1 h2 hx hxm h3 hM).symm
  have hget:∀ c z,(H.set b .dead++[y])[c]?=some z->(c<H.length/\(H.set b .dead)[c]?=some z)\/(c=H.length/\z=y):=fun c z hz=>by
    by_cases hc:c<H.length
    · grind
    · grind
  refine ⟨⟨G.os,G.tape,G.output,G.size,hold,G.imm,G.imm',G.frame,fun k hk hl=>?_,G.shape,by simp⟩,⟨S.glob' hold,S.idom,fun c z hz=>?_,fun c c' z z' g' p p' h1 h2 h3 h4 h5 h6=>?_,S.shp⟩⟩
  · obtain ⟨c,z,p,h1,h2,h3⟩:=hl
    rcases hget c z h1 with ⟨hc,h1⟩|⟨rfl,rfl⟩
    · exact G.live k hk ⟨c,z,p,h1,h2,by rwa [hold c hc] at h3⟩
    · rw [zAX] at h3
      simp only [zoS,zob] at h3;obtain ⟨rfl,_⟩:=h3;exact hlive
  · rcases hget c z hz with ⟨hc,h1⟩|⟨rfl,rfl⟩
    · refine (S.blk c z h1).mono (by simpa using hc) (fun _ h=>h) (fun _ _=>rfl) (fun b hb=>hold b (by simpa using hb)) zS_ (fun _ _ h=>h) (fun _ _ _ _=>rfl) (fun _ _ _ _ h=>h)
    · simpa using hy
  · rcases hget c z h1 with ⟨hc,k1⟩|⟨rfl,rfl⟩
    · rw [hold c hc] at h5
      rcases hget c' z' h3 with ⟨hc',k3⟩|⟨rfl,rfl⟩
      · rw [hold c' hc'] at h6
        exact S.inj c c' z z' g' p p' k1 h2 k3 h4 h5 h6
      · rw [zAX] at h6
        simp only [zoS,zob] at h6;obtain ⟨rfl,_⟩:=h6;exact absurd ⟨c,z,p,k1,h2,h5⟩ hnone
    · rw [zAX] at h5
      simp only [zoS,zob] at h5;obtain ⟨rfl,_⟩:=h5;rcases hget c' z' h3 with ⟨hc',k3⟩|⟨rfl,rfl⟩
      · rw [hold c' hc'] at h6
        exact absurd ⟨c',z',p',k3,h4,h6⟩ hnone
      · rfl
theorem zK7 {k m:Nat} {yv:Value} {news:List Value} {w':World} (hw:∀ a,w'.cell? a=w.cell? a)
    (hy:((yv=.slice none 0 0\/∃ a,yv=.slice (some a) 0 0)/\m=0/\news=[])\/∃ g p cap,yv=.slice (some ⟨g,p,none⟩) m cap/\news.length=m*k/\∀ j u,news[j]?=some u->w.cell? ⟨g,p+j,none⟩=some u) :
    (Builtin.firstCells k m yv).run P w'=.ok news.toArray w'/\(Builtin.lenOf yv).run P w'=.ok m w':=by
  rcases hy with ⟨rfl|⟨a,rfl⟩,rfl,rfl⟩|⟨g,p,cap,rfl,hl,hc⟩
  · exact ⟨by simp [Builtin.firstCells],by simp [Builtin.lenOf]⟩
  · exact ⟨by simp [Builtin.firstCells,loadCells,loadCellsFrom],by simp [Builtin.lenOf]⟩
  · exact ⟨run_firstCells_some w' k m _ m cap news hl (fun j u hu=>by rw [hw,Addr.add_lit];exact hc j u hu),by simp [Builtin.lenOf]⟩
structure Src (P:Program) (w:World) (k m:Nat) (u:TypeId) (yv:Value) (news:List Value):Prop where
  ty:(∃ e,P.underlying u=some (.slice e))\/P.underlying u=some .string
  len:∀ w':World,(∀ a,w'.cell? a=w.cell? a)->(Builtin.lenOf yv).run P w'=.ok m w'
  first:∀ w':World,(∀ a,w'.cell? a=w.cell? a)->(Builtin.firstCells k m yv).run P w'=.ok news.toArray w'
theorem Src.of_slice {k m:Nat} {u e:TypeId} {yv:Value} {news:List Value} (hu:P.underlying u=some (.slice e))
    (hy:((yv=.slice none 0 0\/∃ a,yv=.slice (some a) 0 0)/\m=0/\news=[])\/∃ g p cap,yv=.slice (some ⟨g,p,none⟩) m cap/\news.length=m*k/\∀ j u,news[j]?=some u->w.cell? ⟨g,p+j,none⟩=some u) :
    Src P w k m u yv news:=by
  refine ⟨.inl ⟨e,hu⟩,fun w' hw=>(zK7 hw hy).2,fun w' hw=>(zK7 hw hy).1⟩
theorem Src.of_str {u:TypeId} (hu:P.underlying u=some .string) (s:List UInt8):Src P w 1 s.length u (.string ⟨s.toArray⟩) (s.map fun b=>.int .u8 b.toNat):=by
  have hz:(⟨s.toArray⟩:ByteArray).size=s.length:=by simp [ByteArray.size]
  refine ⟨.inr hu,fun w' _=>by simp [Builtin.lenOf,hz],fun w' _=>?_⟩;have he:(⟨s.toArray⟩:ByteArray).extract 0 s.length=⟨s.toArray⟩:=by
    rw [<-hz];exact ByteArray.extract_zero_size
  simp only [Builtin.firstCells,he,Sem.run_pure]
  congr 1
  simp
section
variable {t u ty e:TypeId} {i:TypeInfo}
include t u ty e i
theorem zK8 {z:Value} (ht:P.underlying t=some (.slice e)) (hi:P.info? e=some i) (hz:i.zero=some z) {m:Nat} {yv:Value} {news:List Value}
    (hs:Src P w i.size m u yv news) (h0:0<m) (h63:(m:Int)<=9223372036854775807) (h48:m*i.bytes<=281474976710656) :
    (Builtin.append_ #[t,u] ty #[.slice none 0 0,yv]).run P w =
      .ok (.slice (some ⟨w.heap.size,0,none⟩) m (grownCap w m 0 e)) (w.drew.alloc (.cells (news.toArray++Builtin.zeroCells z.cells (grownCap w m 0 e-m)) e)):=by
  have hn:m≠0:=by omega
  have h63':¬ (9223372036854775807<(m:Int)):=by omega
  have h48':¬ (281474976710656<Builtin.nextslicecap m 0*i.bytes):=by rw [nextslicecap_zero h0];omega
  have hl:=hs.len w (fun _=>rfl);have hf:=hs.first w.drew (fun _=>rfl);rcases hs.ty with ⟨e',hu⟩|hu
  · simp [Builtin.append_,run_underlying ht,run_underlying hu,sizeOf,typeInfo,zeroValue,hi,hz,hl,hn,h63',h48',Question.forced,run_firstCells_none,hf,newRow,grownCap]
  · simp [Builtin.append_,run_underlying ht,run_underlying hu,sizeOf,typeInfo,zeroValue,hi,hz,hl,hn,h63',h48',Question.forced,run_firstCells_none,hf,newRow,grownCap]
theorem zEN (ht:P.underlying t=some (.slice e)) (hi:P.info? e=some i) {yv:Value}
    (hs:Src P w i.size 0 u yv []):(Builtin.append_ #[t,u] ty #[.slice none 0 0,yv]).run P w=.ok (.slice none 0 0) w:=by
  have hl:=hs.len w (fun _=>rfl);have hf:=hs.first w (fun _=>rfl);rcases hs.ty with ⟨e',hu⟩|hu
  · simp [Builtin.append_,run_underlying ht,run_underlying hu,sizeOf,typeInfo,hi,hl,hf]
  · simp [Builtin.append_,run_underlying ht,run_underlying hu,sizeOf,typeInfo,hi,hl,hf]
theorem zJt (ht:P.underlying t=some (.slice e)) (hi:P.info? e=some i) {yv:Value} {a:Addr} {n c:Nat} (hc:n<=c)
    (hs:Src P w i.size 0 u yv []):(Builtin.append_ #[t,u] ty #[.slice (some a) n c,yv]).run P w=.ok (.slice (some a) n c) w:=by
  have hl:=hs.len w (fun _=>rfl);have hf:=hs.first w (fun _=>rfl);rcases hs.ty with ⟨e',hu⟩|hu
  · simp [Builtin.append_,run_underlying ht,run_underlying hu,sizeOf,typeInfo,hi,hl,hf,hc,storeCells]
  · simp [Builtin.append_,run_underlying ht,run_underlying hu,sizeOf,typeInfo,hi,hl,hf,hc,storeCells]
theorem zKX {z:Value} (ht:P.underlying t=some (.slice e)) (hi:P.info? e=some i) (hz:i.zero=some z)
    (b:Addr) (sLen sCap:Nat) (olds:List Value) (hlo:olds.length=sLen*i.size) (holds:∀ j v,olds[j]?=some v->w.cell? (b.add j)=some v)
    {n:Nat} {yv:Value} {news:List Value} (hs:Src P w i.size n u yv news)
    (hg:sCap<sLen+n) (h63:((sLen+n:Nat):Int)<=9223372036854775807) (hfit:Builtin.nextslicecap (sLen+n) sCap*i.bytes<=281474976710656) :
    (Builtin.append_ #[t,u] ty #[.slice (some b) sLen sCap,yv]).run P w =
      .ok (.slice (some ⟨w.heap.size,0,none⟩) (sLen+n) (grownCap w (sLen+n) sCap e))
        (w.drew.alloc (.cells (olds.toArray++news.toArray++Builtin.zeroCells z.cells (grownCap w (sLen+n) sCap e-(sLen+n))) e)):=by
  have hn:¬ (sLen+n<=sCap):=by omega
  have h63':¬ (9223372036854775807<((sLen:Int)+(n:Int))):=by omega
  have h48':¬ (281474976710656<Builtin.nextslicecap (sLen+n) sCap*i.bytes):=by omega
  have hl:=hs.len w (fun _=>rfl);have hf:=hs.first w.drew (fun _=>rfl);have hfo:=run_firstCells_some (P:=P) w.drew i.size sLen b sLen sCap olds hlo (by simpa using holds);rcases hs.ty with ⟨e',hu⟩|hu
  · simp [Builtin.append_,run_underlying ht,run_underlying hu,sizeOf,typeInfo,zeroValue,hi,hz,hl,hn,h63',h48',Question.forced,hf,hfo,newRow,grownCap]
    congr 2
    apply znt;simp [zou]
  · simp [Builtin.append_,run_underlying ht,run_underlying hu,sizeOf,typeInfo,zeroValue,hi,hz,hl,hn,h63',h48',Question.forced,hf,hfo,newRow,grownCap]
    congr 2
    apply znt;simp [zou]
end
theorem zHR {w':World} {M':AMap} {n b k g o:Nat} {cur:Array Value} {ys:List AV} {cells:List Value} (he:Elems k ys) (hM:M' b=some (g,o)) (hC:Cells w' g cur k) (hI:¬ I g) (hlen:o+ys.length*k<=cur.size)
    (hcur:∀ j,j<ys.length*k->cur[o+j]?=cells[j]?) (hcl:cells.length=ys.length*k) (hr:∀ i j x c,ys[i]?=some x->x.cells[j]?=some c->∃ u,cells[i*k+j]?=some u/\Rel w' M' I n c u):zNf w' M' I n b (.row k ys):=by
  refine ⟨he,.inr ⟨g,o,cur,hM,hC,hI,hlen,fun i j x c hi hj=>?_⟩⟩;obtain ⟨u,hu,hru⟩:=hr i j x c hi hj;have:=(zl_ hu);exact ⟨u,by rw [zl6,hcur _ tO];exact hu,hru⟩
def zNk (P:Program) (GT:zG_) (w:World) (M:AMap) (I:Nat->Prop) (H:Heap) (s:Sem Value) (v:AV) (H':Heap) (Q:World->AMap->Prop):Prop:=
  ∃ v' w' M' I',s.run P w=.ok v' w'/\Grow w M I H w' M' I' H'/\Sim GT w' M' I' H'/\Rel w' M' I' H'.length v v'/\Q w' M'
theorem zNk.runs {P:Program} {GT:zG_} {w:World} {M:AMap} {I:Nat->Prop} {H H':Heap} {s:Sem Value} {v:AV} {Q:World->AMap->Prop} (h:zNk P GT w M I H s v H' Q):zAI P GT w M I H s v H':=
  let ⟨v',w',M',I',a,b,c,d,_⟩:=h
  ⟨v',w',M',I',a,b,c,d⟩
section
variable (hS:Sim GT w M I H) {t u ty e:TypeId} {i:TypeInfo} {z:Value} {k bytes:Nat} (ht:P.underlying t=some (.slice e)) (hi:P.info? e=some i) (hk:i.size=k) (hb:i.bytes=bytes) (hz:i.zero=some z) (hzc:z.cells.size=k) (hk0:0<k) {yv:Value} {ys:List AV} {news:List Value} (he:Elems k ys) (hsrc:Src P w k ys.length u yv news) (n1:news.length=ys.length*k) (n4:∀ i j x c,ys[i]?=some x->x.cells[j]?=some c->∃ u,news[i*k+j]?=some u/\Rel w M I H.length c u) (h1:ys.length<=9223372036854775807) (h2:ys.length*bytes<=140737488355328) (q:Option Bool) (hq:q≠some false)
include hS t u ty e i z k bytes ht hi hk hb hz hzc hk0 yv ys news he hsrc n1 n4 h1 h2 q hq
theorem zF4 :
    zNk P GT w M I H (Builtin.append_ #[t,u] ty #[.slice none 0 0,yv]) (.sl q H.length k 0 ys.length) (H++[.row k ys]) (fun w' M'=>ys≠[]->∃ g c,M' H.length=some (g,0)/\w'.shape? g=some (e,c)):=by
  by_cases hemp:ys=[]
  · subst hemp
    obtain rfl:news=[]:=zms (by simpa using n1);subst hk;have hrun:=zEN (ty:=ty) ht hi hsrc;obtain ⟨G,S⟩:=hS.pushNone (blk:=.row i.size []) (fun _=>⟨fun _ h=>absurd h zS_,.inl ⟨zAX,rfl⟩⟩) (.inr rfl);exact ⟨_,w,_,I,hrun,G,S,.sln q H.length _ 0 zS_ zAX hq,fun h=>absurd rfl h⟩
  · have hpos:0<ys.length:=zng.2 hemp
    subst hk hb;have hr:=zK8 (ty:=ty) ht hi hz hsrc hpos tO tO;have hge:=grownCap_ge w ys.length 0 e;have hcm':grownCap w ys.length 0 e<=maxLen:=grownCap_le_maxLen w ys.length 0 e (by simp only [maxLen];omega);have hsize:(news.toArray++Builtin.zeroCells z.cells (grownCap w ys.length 0 e-ys.length)).size=grownCap w ys.length 0 e*i.size:=by
      simp only [znU,zny,size_zeroCells,hzc,n1,<-Nat.add_mul]
      congr 1;omega
    have hheap:(w.drew.alloc (.cells (news.toArray++Builtin.zeroCells z.cells (grownCap w ys.length 0 e-ys.length)) e)).heap=w.heap.push (.cells (news.toArray++Builtin.zeroCells z.cells (grownCap w ys.length 0 e-ys.length)) e):=rfl;have R:∀ {c v},Rel w M I H.length c v->c.noRef=true->Rel (w.drew.alloc (.cells (news.toArray++Builtin.zeroCells z.cells (grownCap w ys.length 0 e-ys.length)) e)) (more M H.length (some (w.heap.size,0))) I (H.length+1) c v:=fun h hn=>by
      have:=(Sim.push (blk:=.dead) hS hheap rfl rfl rfl trivial).1.rel hS h;simpa using this
    obtain ⟨G,S⟩:=hS.push (blk:=.row i.size ys) hheap rfl rfl rfl (zHR (cells:=news) (o:=0) he zAX ⟨e,(0,0),by rw [hheap,zma,zoQ rfl],fun j _ h=>absurd h.2 (zmU _)⟩
      (fun h=>absurd (hS.idom _ h) (zne _)) (by rw [hsize];simpa using zo2 _ hge)
      (fun j hj=>by rw [zl7,zm0 (by simp;omega)];simp) n1 (fun a j x c hx hj=>by
        obtain ⟨u,h1,h2⟩:=n4 a j x c hx hj;exact ⟨u,h1,R h2 (AV.noRef_cells (AV.elem_iff.1 (he x (zoc hx))).2.1 hj)⟩))
    refine ⟨_,_,_,I,hr,G,S, ?_,fun _=>⟨w.heap.size,_,zAX,by simp [World.shape?,hheap];rfl⟩⟩;exact .sl q H.length i.size 0 ys.length w.heap.size 0 0 _ zS_ zAX hge hcm' (fun _=>hpos) (fun _=>⟨by simp,e,_,by simp [World.shape?,hheap];rfl,by have h:=hsize;rw [znU,zny] at h;simp only [zl7];omega⟩)
theorem zPA :
    zAI P GT w M I H (Builtin.append_ #[t,u] ty #[.slice none 0 0,yv]) (.sl q H.length k 0 ys.length) (H++[.row k ys]):=
  (zF4 hS ht hi hk hb hz hzc hk0 he hsrc n1 n4 h1 h2 q hq).runs
end
theorem zKY (hS:Sim GT w M I H) {u e:TypeId} (hu:P.underlying u=some (.slice e)) {k:Nat} {yv:Value} {y:AV} (hy:Rel w M I H.length y yv) {ys:List AV} (hv:view H k y=some ys) :
    Elems k ys/\∃ news:List Value,Src P w k ys.length u yv news/\news.length=ys.length*k/\(∀ u∈news,u.oneCell'=true)/\∀ i j x c,ys[i]?=some x->x.cells[j]?=some c->∃ u,news[i*k+j]?=some u/\Rel w M I H.length c u:=by
  obtain ⟨he,hyv⟩:=zPl hS hy hv;refine ⟨he, ?_⟩;rcases hyv with ⟨hyv,rfl⟩|⟨g1,p1,cap1,rfl,_,_,hr1⟩
  · exact ⟨[],.of_slice hu (.inl ⟨hyv,rfl,rfl⟩),by simp,by simp,by simp⟩
  · obtain ⟨news,n1,n2,n3,n4⟩:=hr1.flat he
    exact ⟨news,.of_slice hu (.inr ⟨g1,p1,cap1,rfl,n1,n2⟩),n1,n3,n4⟩
theorem zMz (hS:Sim GT w M I H) {t ty e:TypeId} {i:TypeInfo} {z:Value} {k bytes:Nat} (ht:P.underlying t=some (.slice e)) (hi:P.info? e=some i) (hk:i.size=k) (hb:i.bytes=bytes) (hz:i.zero=some z) (hzc:z.cells.size=k) (hk0:0<k)
    {yv:Value} {y:AV} (hy:Rel w M I H.length y yv) {ys:List AV} (hv:view H k y=some ys) (h1:ys.length<=9223372036854775807) (h2:ys.length*bytes<=140737488355328) (q:Option Bool) (hq:q≠some false) :
    zAI P GT w M I H (Builtin.append_ #[t,t] ty #[.slice none 0 0,yv]) (.sl q H.length k 0 ys.length) (H++[.row k ys]):=by
  obtain ⟨he,news,hs,n1,_,n4⟩:=zKY hS ht hy hv;exact zPA hS ht hi hk hb hz hzc hk0 he hs n1 n4 h1 h2 q hq
section
variable (hS:Sim GT w M I H) {t u ty e:TypeId} {i:TypeInfo} {z:Value} {k bytes:Nat} (ht:P.underlying t=some (.slice e)) (hi:P.info? e=some i) (hk:i.size=k) (hb:i.bytes=bytes) (hz:i.zero=some z) (hzc:z.cells.size=k) (hk0:0<k) {yv s:Value} {ys xs:List AV} {news:List Value} (he:Elems k ys) (hsrc:Src P w k ys.length u yv news) (n1:news.length=ys.length*k) (n3:∀ u∈news,u.oneCell'=true) (n4:∀ i j x c,ys[i]?=some x->x.cells[j]?=some c->∃ u,news[i*k+j]?=some u/\Rel w M I H.length c u) {q:Option Bool} {b off len:Nat} (hs:Rel w M I H.length (.sl q b k off len) s) (hx:H[b]?=some (.row k xs)) (hle:off+len<=xs.length) (h1:len+ys.length<=9223372036854775807) (h2:(len+ys.length)*bytes<=140737488355328)
include hS t u ty e i z k bytes ht hi hk hb hz hzc hk0 yv s ys xs news he hsrc n1 n3 n4 q b off len hs hx hle h1 h2
theorem zIq :
    zNk P GT w M I H (Builtin.append_ #[t,u] ty #[s,yv]) (.sl q H.length k 0 (len+ys.length)) (H.set b .dead++[.row k ((xs.drop off).take len++ys)]) (fun w' M'=>ys≠[]->off=0->(∀ g o,M b=some (g,o)->o=0/\∃ c,w.shape? g=some (e,c))->∃ g c,M' H.length=some (g,0)/\w'.shape? g=some (e,c)):=by
  have hbl:=zl_ hx;cases hs with
  | sln _ _ _ _ hbn hM hq=>
    obtain ⟨Gk,Sk⟩:=hS.kill b;simp only [List.take_zero,zo4,zl7];rw [show H.length=(H.set b .dead).length by simp];obtain ⟨v',w',M',I',r,G,S,R,Q⟩:=zF4 (P:=P) (ty:=ty) Sk ht hi hk hb hz hzc hk0 he hsrc n1 (fun i j x c hi hj=>let ⟨u,a,b⟩:=n4 i j x c hi hj;⟨u,a,by simpa using b⟩) (by simpa using h1) (by simpa using h2) q hq;exact ⟨v',w',M',I',r,Gk.trans G,S,R,fun h _ _=>Q h⟩
  | sl _ _ _ _ _ g o p cap hbn hM hc hm hq ha=>
    obtain ⟨hex,⟨h1',_⟩|⟨g',o',cur,h1',h2',h3,h4,h5⟩⟩:=hS.blk b _ hx
    · rw [hM] at h1';cases h1'
    rw [hM] at h1';simp only [zoS,zob] at h1';obtain ⟨rfl,rfl⟩:=h1';have hrow:zO9 w M I H.length g o k xs:=fun i j x c hi hj=>let ⟨u,a,b⟩:=h5 i j x c hi hj;⟨u,by rw [h2'.cell?];exact a,b⟩
    have hcut:=hrow.cut off len;have hec:=zNg hex off len;have hlen:((xs.drop off).take len).length=len:=by simp;omega
    obtain ⟨olds,o1,o2,o3,o4⟩:=hcut.flat hec;rw [hlen] at o1;have hall:∀ (cells:List Value),cells=olds++news->∀ i j x c,((xs.drop off).take len++ys)[i]?=some x->x.cells[j]?=some c->∃ u,cells[i*k+j]?=some u/\Rel w M I H.length c u/\c.noRef=true:=by
      rintro cells rfl i j x c hi hj;by_cases hil:i<len
      · rw [zof tO] at hi
        obtain ⟨u,a,r⟩:=o4 i j x c hi hj;have:=(zl_ a);exact ⟨u,by rw [zof this];exact a,r,AV.noRef_cells (AV.elem_iff.1 (hec x (zoc hi))).2.1 hj⟩
      · rw [zoy tO,hlen] at hi
        obtain ⟨u,a,r⟩:=n4 _ j x c hi hj;refine ⟨u, ?_,r,AV.noRef_cells (AV.elem_iff.1 (he x (zoc hi))).2.1 hj⟩;have hik:len*k<=i*k:=zo2 _ tO;rw [zoy tO,o1,<-a]
        congr 1
        rw [Nat.sub_mul];omega
    have heall:Elems k ((xs.drop off).take len++ys):=fun x hx=>by
      rcases zmm.1 hx with hx|hx
      · exact hec x hx
      · exact he x hx
    have hcl:(olds++news).length=((xs.drop off).take len++ys).length*k:=by rw [zoP,zoP,o1,n1,hlen,zmC]
    have hall':((xs.drop off).take len++ys).length=len+ys.length:=by rw [zoP,hlen]
    by_cases hroom:len+ys.length<=cap
    · -- there is room
      obtain ⟨e',fz,hg,hfz⟩:=h2';have hf:(Builtin.firstCells k ys.length yv).run P w=.ok news.toArray w/\(Builtin.lenOf yv).run P w=.ok ys.length w:=⟨hsrc.first w (fun _=>rfl),hsrc.len w (fun _=>rfl)⟩;have hlt:=(zoo.1 hg).1;have hfit:o+off*k+len*k+news.length<=cur.size\/news=[]:=by
        rcases znp cap with h0|h0
        · right
          exact zms (by rw [n1,show ys.length=0 by omega,znq])
        · left
          obtain ⟨_,e1,sz,hsh,hsz⟩:=ha h0;simp only [World.shape?,hg,zoS,zob] at hsh;obtain ⟨_,rfl⟩:=hsh;have:(off+(len+ys.length))*k<=(off+cap)*k:=zo2 _ tO;rw [zmC,zmC] at this;rw [n1];omega
      have hbase:o+off*k+len*k<=cur.size:=by
        have:(off+len)*k<=xs.length*k:=zo2 _ hle;rw [zmC] at this;omega
      obtain ⟨cur',w',r1,r2,r3,r4,r5,r6,r7,r8⟩:∃ (cur':Array Value) (w':World),(storeCells ⟨g,p+len*k,none⟩ news 0).run P w=.ok () w'/\w'.heap=w.heap.setIfInBounds g (.cells cur' e' fz)/\w'.os=w.os/\w'.tape=w.tape/\w'.output=w.output /\
          cur'.size=cur.size/\(∀ j,j<news.length->cur'[o+off*k+len*k+j]?=news[j]?)/\(∀ j,(j<o+off*k+len*k\/o+off*k+len*k+news.length<=j)->cur'[j]?=cur[j]?):=by
        rcases hfit with hfit|rfl
        · rcases znp cap with h0|h0
          · obtain rfl:news=[]:=zms (by rw [n1,show ys.length=0 by omega,znq])
            obtain ⟨cur',w',r1,r2,r3,r4,r5,r6,r7,r8⟩:=zBt (P:=P) g (o+off*k+len*k) e' fz [] 0 cur w hg (fun j hj=>hfz j tO) (by simpa using hbase) zS_;exact ⟨cur',w',by simpa [storeCells] using r1,r2,r3,r4,r5,r6,by simp,fun j hj=>r8 j (by simpa using hj)⟩
          · obtain ⟨rfl,_⟩:=ha h0
            obtain ⟨cur',w',r1,r2,r3,r4,r5,r6,r7,r8⟩:=zBt (P:=P) g (o+off*k+len*k) e' fz news 0 cur w hg (fun j hj=>hfz j tO) tO n3;exact ⟨cur',w',r1,r2,r3,r4,r5,r6,fun j hj=>by simpa using r7 j hj,fun j hj=>r8 j (by simpa using hj)⟩
        · obtain ⟨cur',w',r1,r2,r3,r4,r5,r6,r7,r8⟩:=zBt (P:=P) g (o+off*k+len*k) e' fz [] 0 cur w hg (fun j hj=>hfz j tO) (by simpa using hbase) zS_
          exact ⟨cur',w',by simpa [storeCells] using r1,r2,r3,r4,r5,r6,by simp,fun j hj=>r8 j (by simpa using hj)⟩
      have hrun:(Builtin.append_ #[t,u] ty #[.slice (some ⟨g,p,none⟩) len cap,yv]).run P w=.ok (.slice (some ⟨g,p,none⟩) (len+ys.length) cap) w':=by
        have hp:(⟨g,p,none⟩:Addr).add (len*k)=⟨g,p+len*k,none⟩:=Addr.add_lit _ _ _;subst hk;rcases hsrc.ty with ⟨e',hu⟩|hu
        · simp [Builtin.append_,run_underlying ht,run_underlying hu,sizeOf,typeInfo,hi,hf.1,hf.2,hroom,hp,r1]
        · simp [Builtin.append_,run_underlying ht,run_underlying hu,sizeOf,typeInfo,hi,hf.1,hf.2,hroom,hp,r1]
      have hlt':w'.heap[g]?=some (.cells cur' e' fz):=by rw [r2,zos,zoQ rfl,zoQ hlt]
      obtain ⟨G0,S0⟩:=Sim.write (w':=w') (y:=.dead) hS hx rfl hM hg r6 r2 r3 r4 r5 trivial;have R:∀ {c v},Rel w M I H.length c v->c.noRef=true->Rel w' (more M H.length (some (g,o+off*k))) I (H.length+1) c v:=fun h hn=>(G0.rel hS h).free hn;obtain ⟨G,S⟩:=Sim.regrow (w':=w') (o2:=o+off*k) (y:=.row k ((xs.drop off).take len++ys)) hS hx rfl hM hg r6 r2 r3 r4 r5
        (zHR (cells:=olds++news) heall zAX ⟨e',fz,hlt',by rw [r6];exact hfz⟩ h3 (by
          rw [hall',zmC,r6];rcases hfit with h|h
          · omega
          · rw [h] at n1;simp at n1;rw [<-n1];omega) (fun j hj=>by
          rw [hall',zmC] at hj;by_cases hjl:j<len*k
          · rw [r8 _ tO,zof tO]
            obtain ⟨u,hu⟩:∃ u,olds[j]?=some u:=⟨_,zoO tO⟩;have:=o2 j u hu;rw [hu,<-this];simp [World.cell?,hg]
          · rw [zoy tO,o1]
            have:=r7 (j-len*k) tO;rw [<-this];congr 1;omega) hcl (fun a j x c hx hj=>by
          obtain ⟨u,h1,h2,h3⟩:=hall _ rfl a j x c hx hj;exact ⟨u,h1,R h2 h3⟩))
      refine ⟨_,w',_,I,hrun,G,S,.sl q H.length k 0 _ g (o+off*k) p cap zS_ zAX hroom hm (fun h=>by have:=hq h;omega) (fun h0=>?_),fun _ h0 hT=>?_⟩
      rotate_left
      · obtain ⟨rfl,c,hc'⟩:=hT g o hM
        subst h0;exact ⟨g,c,by rw [zAX];simp,G.shape g _ hc'⟩
      obtain ⟨rfl,e1,sz,hsh,hsz⟩:=ha h0;refine ⟨by simp,e',cur'.size,by simp [World.shape?,hlt'], ?_⟩;simp only [World.shape?,hg,zoS,zob] at hsh;obtain ⟨_,rfl⟩:=hsh;rw [r6,zl7,zl6,<-Nat.add_mul];exact hsz
    · -- it grows
      have hpos:0<ys.length:=by omega
      have hpo:len=0\/p=o+off*k:=by
        rcases znp cap with h0|h0
        · left;omega
        · exact .inr (ha h0).1
      subst hk hb;have hr:=zKX (P:=P) (ty:=ty) ht hi hz ⟨g,p,none⟩ len cap olds o1 (fun j u hu=>by
          rw [Addr.add_lit];rcases hpo with h0|rfl
          · have:=(zl_ hu)
            rw [o1,h0] at this;simp at this
          · exact o2 j u hu) hsrc tO tO (growslice_fits tO h2)
      have hge:=grownCap_ge w (len+ys.length) cap e;have hcm':grownCap w (len+ys.length) cap e<=maxLen:=grownCap_le_maxLen w _ cap e (by simp only [maxLen];omega);generalize hgc:grownCap w (len+ys.length) cap e=gc at hr hge hcm';have hsize:(olds.toArray++news.toArray++Builtin.zeroCells z.cells (gc-(len+ys.length))).size=gc*i.size:=by
        simp only [znU,zny,size_zeroCells,hzc,n1,o1,<-Nat.add_mul]
        congr 1;omega
      generalize hcur':olds.toArray++news.toArray++Builtin.zeroCells z.cells (gc-(len+ys.length))=cur1 at hr hsize;have hheap:(w.drew.alloc (.cells cur1 e)).heap=w.heap.push (.cells cur1 e):=rfl;obtain ⟨Gk,Sk⟩:=hS.kill b;have hlk:(H.set b .dead).length=H.length:=by simp
      have R:∀ {c v},Rel w M I H.length c v->c.noRef=true->Rel (w.drew.alloc (.cells cur1 e)) (more M (H.set b .dead).length (some (w.heap.size,0))) I ((H.set b .dead).length+1) c v:=fun h hn=>by
        have:=(Sim.push (blk:=.dead) Sk hheap rfl rfl rfl trivial).1.rel Sk (by simpa using h);simpa using this
      obtain ⟨G,S⟩:=Sk.push (blk:=.row i.size ((xs.drop off).take len++ys)) hheap rfl rfl rfl (zHR (cells:=olds++news) (o:=0) heall zAX ⟨e,(0,0),by rw [hheap,zma,zoQ rfl],fun j _ h=>absurd h.2 (zmU _)⟩
        (fun h=>absurd (hS.idom _ h) (zne _)) (by rw [hsize,hall'];simpa using zo2 _ hge)
        (fun j hj=>by
          rw [<-hcl] at hj;rw [zl7,<-hcur',zm0 (by simpa using hj)];simp) hcl (fun a j x c hx hj=>by
          obtain ⟨u,h1,h2,h3⟩:=hall _ rfl a j x c hx hj;exact ⟨u,h1,R h2 h3⟩))
      refine ⟨_,_,_,I,hr,Gk.trans G,S, ?_,fun _ _ _=>⟨w.heap.size,cur1.size,by rw [<-hlk];exact zAX,by simp [World.shape?,hheap]⟩⟩;exact .sl q H.length i.size 0 _ w.heap.size 0 0 gc zS_ (by rw [hlk];exact zAX) hge hcm' (fun h=>by have:=hq h;omega) (fun _=>⟨by simp,e,cur1.size,by simp [World.shape?,hheap],by rw [hsize];simp⟩)
theorem zPB :
    zAI P GT w M I H (Builtin.append_ #[t,u] ty #[s,yv]) (.sl q H.length k 0 (len+ys.length)) (H.set b .dead++[.row k ((xs.drop off).take len++ys)]):=
  (zIq hS ht hi hk hb hz hzc hk0 he hsrc n1 n3 n4 hs hx hle h1 h2).runs
end
theorem zM0 (hS:Sim GT w M I H) {t ty e:TypeId} {i:TypeInfo} {z:Value} {k bytes:Nat} (ht:P.underlying t=some (.slice e)) (hi:P.info? e=some i) (hk:i.size=k) (hb:i.bytes=bytes) (hz:i.zero=some z) (hzc:z.cells.size=k) (hk0:0<k)
    {yv s:Value} {y:AV} (hy:Rel w M I H.length y yv) {ys xs:List AV} (hv:view H k y=some ys) {q:Option Bool} {b off len:Nat} (hs:Rel w M I H.length (.sl q b k off len) s) (hx:H[b]?=some (.row k xs)) (hle:off+len<=xs.length)
    (h1:len+ys.length<=9223372036854775807) (h2:(len+ys.length)*bytes<=140737488355328) :
    zAI P GT w M I H (Builtin.append_ #[t,t] ty #[s,yv]) (.sl q H.length k 0 (len+ys.length)) (H.set b .dead++[.row k ((xs.drop off).take len++ys)]):=by
  obtain ⟨he,news,hsrc,n1,n3,n4⟩:=zKY hS ht hy hv;exact zPB hS ht hi hk hb hz hzc hk0 he hsrc n1 n3 n4 hs hx hle h1 h2
end
section
variable {P:Program} {GT:zG_} {w:World} {M:AMap} {I:Nat->Prop} {H:Heap}
theorem zDo {l:Nat} {lo hi:Option AV} {vlo vhi:Option Value} (hlo:∀ a v,lo=some a->vlo=some v->Rel w M I H.length a v) (hhi:∀ a v,hi=some a->vhi=some v->Rel w M I H.length a v)
    (h1:lo.isSome=vlo.isSome) (h2:hi.isSome=vhi.isSome) {a b:Nat} (h:zE9 l lo hi=some (a,b)) (isSlice:Bool) (cap:Nat) (hc:l<=cap) :
    (Instr.sliceBounds isSlice l cap vlo vhi none).run P w=.ok (a,b,cap) w/\a<=b/\b<=l:=by
  have hB:∀ k (i:Int) (y:Nat) (code:BoundsCode),0<=i->i<=y->(Instr.sliceBound (.int k i) y code).run P w=.ok i.toNat w:=fun k i y code a b=>run_sliceBound w k i y code a b;obtain ⟨hh0,hl0⟩:aHi l hi=some b/\aLo b lo=some a:=by
    unfold zE9 at h;split at h
    · cases h
    · grind
  have hh:(vhi=none/\b=l)\/∃ k n,vhi=some (.int k n)/\0<=n/\n<=(l:Int)/\b=n.toNat:=by
    cases hi with
    | none=>
      simp only [aHi,zoS] at hh0;left;exact ⟨by cases vhi <;> simp at h2 ⊢,hh0.symm⟩
    | some x=>
      cases hv:vhi with
      |none=>rw [hv] at h2;simp at h2
      | some v=>
        have hr:=hhi x v rfl hv;right;cases x <;> simp only [aHi,reduceCtorEq] at hh0
        split at hh0
        · rename_i hn
          simp only [zoS] at hh0;cases hr;exact ⟨_,_,rfl,hn.1,hn.2,hh0.symm⟩
        · cases hh0
  have hbl:b<=l:=by rcases hh with ⟨_,rfl⟩|⟨_,n,_,_,_,rfl⟩ <;> omega
  have hlo2:(vlo=none/\a=0)\/∃ k n,vlo=some (.int k n)/\0<=n/\n<=(b:Int)/\a=n.toNat:=by
    cases lo with
    | none=>
      simp only [aLo,zoS] at hl0;left;exact ⟨by cases vlo <;> simp at h1 ⊢,hl0.symm⟩
    | some x=>
      cases hv:vlo with
      |none=>rw [hv] at h1;simp at h1
      | some v=>
        have hr:=hlo x v rfl hv;right;cases x <;> simp only [aLo,reduceCtorEq] at hl0
        split at hl0
        · rename_i hn
          simp only [zoS] at hl0;cases hr;exact ⟨_,_,rfl,hn.1,hn.2,hl0.symm⟩
        · cases hl0
  refine ⟨?_, ?_,hbl⟩
  · unfold Instr.sliceBounds
    rcases hh with ⟨rfl,rfl⟩|⟨k,n,rfl,n0,n1,rfl⟩
    · rcases hlo2 with ⟨rfl,rfl⟩|⟨k',n',rfl,m0,m1,rfl⟩
      · simp
      · simp [hB k' n' b .sliceB m0 m1]
    · have hb1:=hB k n cap (if isSlice then .sliceAcap else .sliceAlen) n0 tO
      rcases hlo2 with ⟨rfl,rfl⟩|⟨k',n',rfl,m0,m1,rfl⟩
      · simp [hb1]
      · have hb2:=hB k' n' n.toNat .sliceB m0 tO
        simp [hb1,hb2]
  · grind
theorem zgS {s:List UInt8} {l h:Nat}:(⟨s.toArray⟩:ByteArray).extract l h=⟨((s.take h).drop l).toArray⟩:=by
  apply ByteArray.ext;simp [ByteArray.data_extract,zn6,znl,List.drop_take]
def zYi (P:Program) (t:TypeId):Option Nat->Prop
  |none=>zKV P t=true
  |some k=>zEd P t k=true
theorem zTk (hS:Sim GT w M I H) {t:TypeId} {k:Option Nat} {x v:AV} {xv:Value} {lo hi:Option AV} {vlo vhi:Option Value} (hx:Rel w M I H.length x xv)
    (hlo:∀ a v,lo=some a->vlo=some v->Rel w M I H.length a v) (hhi:∀ a v,hi=some a->vhi=some v->Rel w M I H.length a v) (h1:lo.isSome=vlo.isSome) (h2:hi.isSome=vhi.isSome)
    (hk:zYi P t k) (h:zCm k x lo hi=some v):zAI P GT w M I H (Instr.sliceAt t xv vlo vhi none) v H:=by
  unfold zCm at h;split at h
  · -- a string
    rename_i s;obtain ⟨⟨a,b⟩,hb,rfl⟩:=zoV.1 h;cases hx;have ht:P.underlying t=some .string:=by
      simp only [zYi,zKV] at hk;split at hk
      · assumption
      · cases hk
    obtain ⟨r,hab,hbl⟩:=zDo (P:=P) hlo hhi h1 h2 hb false s.length (zoR _);refine zAI.pure hS (v':=.string ⟨((s.take b).drop a).toArray⟩) ?_ (.str _);simp only [Instr.sliceAt,Sem.run_bind,run_underlying ht,Result.andThen_ok];simp [Instr.slice,run_underlying ht,zPk,r,zgS]
  · -- an immutable slice
    rename_i k q k' xs;split at h
    · rename_i hkk
      obtain ⟨⟨a,b⟩,hb,rfl⟩:=zoV.1 h;obtain ⟨e,ht,hse⟩:∃ e,P.underlying t=some (.slice e)/\zFP P e=some k:=by
        simp only [zYi,zEd] at hk;split at hk
        · grind
        · cases hk
      cases hx with
      | lnil _ _ hq=>
        obtain ⟨r,hab,hbl⟩:=zDo (P:=P) hlo hhi h1 h2 hb true 0 (zoR _);simp at hbl;obtain rfl:b=0:=by omega
        obtain rfl:a=0:=by omega
        refine zAI.pure hS (v':=.slice none 0 0) ?_ ?_
        · simp only [Instr.sliceAt,Sem.run_bind,run_underlying ht,Result.andThen_ok]
          simp at r;simp [Instr.slice,run_underlying ht,r,zBH hse]
        · simp only [List.take_nil,List.drop_nil]
          refine .lnil _ _ ?_;unfold zTg;split <;> simp_all
      | lemp _ _ ad hq=>
        obtain ⟨r,hab,hbl⟩:=zDo (P:=P) hlo hhi h1 h2 hb true 0 (zoR _);simp at hbl;obtain rfl:b=0:=by omega
        obtain rfl:a=0:=by omega
        refine zAI.pure hS (v':=.slice (some ad) 0 0) ?_ ?_
        · simp only [Instr.sliceAt,Sem.run_bind,run_underlying ht,Result.andThen_ok]
          simp at r;simp [Instr.slice,run_underlying ht,r,zBH hse]
        · simp only [List.take_nil,List.drop_nil]
          refine .lemp _ _ _ ?_;unfold zTg;split <;> simp_all
      | lst _ _ _ g o cap V hq hc hm hI he hv hr=>
        obtain ⟨r,hab,hbl⟩:=zDo (P:=P) hlo hhi h1 h2 hb true cap hc;have hlen:((xs.take b).drop a).length=b-a:=by simp;omega
        have hrow:zO9 w M I H.length g o k' xs:=fun i j x c hi hj=>⟨_,hv i j x c hi hj,hr i j x c hi hj⟩;have hcq:zTg q a b≠some true:=by unfold zTg;split <;> simp_all
        have hrun:∀ p,(if cap=a then (⟨g,o,none⟩:Addr) else ⟨g,o+a*k,none⟩)=⟨g,p,none⟩->(Instr.sliceAt t (.slice (some ⟨g,o,none⟩) xs.length cap) vlo vhi none).run P w=.ok (.slice (some ⟨g,p,none⟩) (b-a) (cap-a)) w:=fun p hp=>by
          simp only [Instr.sliceAt,Sem.run_bind,run_underlying ht,Result.andThen_ok];simp only [Instr.slice,Sem.run_bind,run_underlying ht,Result.andThen_ok,r,zBH hse,Sem.run_pure,zoe,Addr.add_lit];split at hp
          · rename_i hca;rw [zoQ hca];congr 2;rw [<-hp]
          · rename_i hca;rw [zWl hca];congr 2;rw [<-hp]
        have hrel:∀ p,(a=b\/p=o+a*k')->Rel w M I H.length (.lst (zTg q a b) k' ((xs.take b).drop a)) (.slice (some ⟨g,p,none⟩) (b-a) (cap-a)):=fun p hp=>by
          have:=Rel.mk_lst (w:=w) (M:=M) (I:=I) (n:=H.length) (q:=zTg q a b) (xs:=(xs.take b).drop a) (g:=g) (o:=p) (cap:=cap-a) (k:=k') hcq tO (zmK (Nat.sub_le _ _) hm) hI
            (fun x hx=>he x (zmk (zmj hx))) (fun i j x c hi hj=>by
              have hil:=(zl_ hi);rcases hp with hp|rfl
              · omega
              · rw [zo1,zo5,zoQ tO] at hi
                obtain ⟨u,e1,e2⟩:=hrow _ j x c hi hj;exact ⟨u,by rw [<-e1,zmC];congr 2;omega,e2⟩)
          rwa [hlen] at this
        by_cases hca:cap=a
        · exact zAI.pure hS (hrun o (by rw [zoQ hca])) (hrel o (.inl tO))
        · refine zAI.pure hS (hrun (o+a*k) (by rw [zWl hca])) (hrel _ ?_)
          rcases hkk with rfl|hemp
          · exact .inr rfl
          · simp at hemp;subst hemp;left;simp at hbl;omega
    · cases h
  · -- a row of one's own
    rename_i k q b0 k' off len;split at h
    · rename_i hkk;subst hkk
      obtain ⟨⟨a,b⟩,hb,rfl⟩:=zoV.1 h;obtain ⟨e,ht,hse⟩:∃ e,P.underlying t=some (.slice e)/\zFP P e=some k':=by
        simp only [zYi,zEd] at hk;split at hk
        · grind
        · cases hk
      cases hx with
      | sln _ _ _ _ hbn hM hq=>
        obtain ⟨r,hab,hbl⟩:=zDo (P:=P) hlo hhi h1 h2 hb true 0 (zoR _);obtain rfl:b=0:=by omega
        obtain rfl:a=0:=by omega
        refine zAI.pure hS (v':=.slice none 0 0) ?_ (.sln _ _ _ _ hbn hM ?_)
        · simp only [Instr.sliceAt,Sem.run_bind,run_underlying ht,Result.andThen_ok]
          simp [Instr.slice,run_underlying ht,r,zBH hse]
        · unfold zi1;split <;> simp_all
      | sl _ _ _ _ _ g o p cap hbn hM hc hm hq ha=>
        obtain ⟨r,hab,hbl⟩:=zDo (P:=P) hlo hhi h1 h2 hb true cap hc;have hrun:∀ p',(if cap=a then (⟨g,p,none⟩:Addr) else ⟨g,p+a*k',none⟩)=⟨g,p',none⟩->(Instr.sliceAt t (.slice (some ⟨g,p,none⟩) len cap) vlo vhi none).run P w=.ok (.slice (some ⟨g,p',none⟩) (b-a) (cap-a)) w:=fun p' hp=>by
          simp only [Instr.sliceAt,Sem.run_bind,run_underlying ht,Result.andThen_ok];simp only [Instr.slice,Sem.run_bind,run_underlying ht,Result.andThen_ok,r,zBH hse,Sem.run_pure,zoe,Addr.add_lit];split at hp
          · rename_i hca;rw [zoQ hca];congr 2;rw [<-hp]
          · rename_i hca;rw [zWl hca];congr 2;rw [<-hp]
        have hcq:zi1 q a b=some true->0<b-a:=by
          unfold zi1;split
          · simp
          · split
            · intro _;omega
            · simp
          · simp
        by_cases hca:cap=a
        · refine zAI.pure hS (hrun p (by rw [zoQ hca])) (.sl _ _ _ _ _ g o p (cap-a) hbn hM tO (zmK (Nat.sub_le _ _) hm) hcq (fun h0=>by omega))
        · refine zAI.pure hS (hrun (p+a*k') (by rw [zWl hca])) (.sl _ _ _ _ _ g o _ (cap-a) hbn hM tO (zmK (Nat.sub_le _ _) hm) hcq (fun h0=>?_))
          have hac:off+a+(cap-a)=off+cap:=by omega
          have h00:0<cap:=by omega
          obtain ⟨hp,e1,sz,hsh,hsz⟩:=ha h00;exact ⟨by rw [zmC,hp];omega,e1,sz,hsh,by rw [hac];exact hsz⟩
    · cases h
  · cases h
theorem zNP {t:TypeId} (h:zKV P t=true):P.underlying t=some .string:=by
  simp only [zKV] at h;split at h
  · assumption
  · cases h
theorem zU8 {t:TypeId} {k:IntKind} (h:zRs P t k=true):P.underlying t=some (.int k):=by
  simp only [zRs] at h;split at h
  · grind
  · cases h
theorem zU9 {t:TypeId} (h:zWd P t=true):∃ e,P.underlying t=some (.slice e)/\P.underlying e=some (.int .u8):=by
  simp only [zWd] at h;split at h
  · rename_i e he;exact ⟨e,he,zU8 h⟩
  · cases h
theorem zMb {t:TypeId} {k:Nat} (h:zEd P t k=true):∃ e,P.underlying t=some (.slice e)/\zFP P e=some k:=by
  simp only [zEd] at h;split at h
  · grind
  · cases h
theorem zPo {t:TypeId} {n k:Nat} (h:zQf P t n k=true):∃ e,P.underlying t=some (.array n e)/\zFP P e=some k:=by
  simp only [zQf] at h;split at h
  · grind
  · cases h
theorem zYj (hS:Sim GT w M I H) {op:BinOp} {t:TypeId} {X Y:Operand} {x y v:AV} {a b:Value} (hx:Rel w M I H.length x a) (hy:Rel w M I H.length y b) (h:zi0 op x y=some v) :
    zAI P GT w M I H (do eqGuard op t X Y a b;binOp op t a b) v H:=by
  have GI:∀ (k k':IntKind) (m m':Int),(eqGuard op t X Y (.int k m) (.int k' m')).run P w=.ok () w:=fun _ _ _ _=>zDn zS_ zS_;have GS:∀ (s s':ByteArray),(eqGuard op t X Y (.string s) (.string s')).run P w=.ok () w:=fun _ _=>zDn zS_ zS_;unfold zi0 at h;split at h
  · rename_i k a k' b
    cases hx;cases hy;split at h
    · rename_i hs
      obtain ⟨v',r,R⟩:=zYe (P:=P) (w:=w) (M:=M) (I:=I) (k':=k') t hs h;exact zAI.pure hS (by rw [Sem.run_bind,GI];exact r) (R _)
    · split at h
      · rename_i hk;subst hk
        obtain ⟨v',r,R⟩:=zWf (P:=P) (w:=w) (M:=M) (I:=I) t h;exact zAI.pure hS (by rw [Sem.run_bind,GI];exact r) (R _)
      · cases h
  · cases hx;cases hy
    obtain ⟨v',r,R⟩:=zgR (P:=P) (w:=w) (M:=M) (I:=I) t h;exact zAI.pure hS (by rw [Sem.run_bind,GS];exact r) (R _)
  · cases h
theorem zYk (hS:Sim GT w M I H) {neg:Bool} {sh:List Sc} {t:TypeId} {X Y:Operand} {x y:List AV} {a b:Value} {r:Bool} (hx:Rel w M I H.length (.agg x) a) (hy:Rel w M I H.length (.agg y) b)
    (hsh:zIp P 30 t=some sh) (hg:P.eqGuardType P.depth t=false) (hag:zKU P t=some true) (h:zBe sh x y=some r) :
    zAI P GT w M I H (do eqGuard (if neg then .neq else .eql) t X Y a b;binOp (if neg then .neq else .eql) t a b) (.bool (if neg then !r else r)) H:=by
  cases hx with
  |agg _ vs hl hr=>
  cases hy with
  |agg _ us hl' hr'=>
  have he:=(zQg (P:=P) (w:=w) (M:=M) (I:=I) 30 10000 t sh hsh tO).2.2 x y vs us r (.agg vs.toArray) (.agg us.toArray) H.length ⟨hl,hr⟩ ⟨hl',hr'⟩ h (.inl ⟨hag,rfl⟩) (.inl ⟨hag,rfl⟩);refine zAI.pure hS (v':=.bool (if neg then !r else r)) ?_ (.bool _);cases neg
  · simp only [zoZ,zot,Sem.run_bind,run_eqGuard_agg w _ t X Y _ _ hg,Result.andThen_ok,run_eql_struct,he]
  · simp only [zoz,Sem.run_bind,run_eqGuard_agg w _ t X Y _ _ hg,Result.andThen_ok,run_neq_struct,he]
theorem zFq {n:Nat} {x:AV} {v:Value} (h:Rel w M I n x v) {b:Bool} (hb:nilness x=some b):∃ a l c,v=.slice a l c/\a.isNone=b:=by
  cases h with
  |lnil q k hq=>simp only [nilness] at hb;refine ⟨none,0,0,rfl, ?_⟩;cases b <;> simp_all
  |lemp q k a hq=>simp only [nilness] at hb;refine ⟨_,_,_,rfl, ?_⟩;cases b <;> simp_all
  |lst q k xs g o cap V hq=>simp only [nilness] at hb;refine ⟨_,_,_,rfl, ?_⟩;cases b <;> simp_all
  |sln q b' k off hbn hM hq=>unfold nilness at hb;split at hb <;> simp_all
  | sl q b' k off len g o p cap hbn hM hc hm hq ha=>
    refine ⟨_,_,_,rfl, ?_⟩;unfold nilness at hb;split at hb
    · simp_all
    · simp_all
    · grind
    · cases hb
  |_=>simp [nilness] at hb
theorem zYl (hS:Sim GT w M I H) {neg lit:Bool} {e:EK} {t:TypeId} {X Y:Operand} {x y:AV} {a b:Value} {r:Bool} (hx:Rel w M I H.length x a) (hy:Rel w M I H.length y b)
    (hek:zit P t e=true) (hlit:lit=true->zL3 X=true\/zL3 Y=true) (h:zcw e lit x y=some r) :
    zAI P GT w M I H (do eqGuard (if neg then .neq else .eql) t X Y a b;binOp (if neg then .neq else .eql) t a b) (.bool (if neg then !r else r)) H:=by
  refine zAI.pure hS (v':=.bool (if neg then !r else r)) ?_ (.bool _);have fin:(∀ d,(Op.equalIn (d+1) t a b).run P w=.ok r w)->(eqGuard (if neg then .neq else .eql) t X Y a b).run P w=.ok () w->(∀ op,(op=.eql\/op=.neq)->binOp op t a b=(if op=.eql then (do pure (.bool (<-Op.equal t a b))) else do pure (.bool (!(<-Op.equal t a b))))) ->
      Sem.run P (do eqGuard (if neg then .neq else .eql) t X Y a b;binOp (if neg then .neq else .eql) t a b) w=.ok (.bool (if neg then !r else r)) w:=fun h0 h2 h3=>by
    have h1:(Op.equal t a b).run P w=.ok r w:=h0 9999;cases neg
    · (simp_all;done)
    · (simp_all;done)
  have sl:∀ {a b},(∃ o l c,a=Value.slice o l c)->(∃ o l c,b=Value.slice o l c)->∀ op,(op=.eql\/op=.neq)->binOp op t a b=(if op=.eql then (do pure (.bool (<-Op.equal t a b))) else do pure (.bool (!(<-Op.equal t a b)))):=by
    rintro _ _ ⟨o,l,c,rfl⟩ ⟨o',l',c',rfl⟩ op (rfl|rfl) <;> rfl
  unfold zcw at h;split at h
  · -- nil,nil
    cases hx;cases hy;split at h
    · rename_i hl
      simp only [zoS] at h;subst h;obtain ⟨ms,ht⟩:∃ ms,P.underlying t=some (.interface ms):=by simp only [zit] at hek;split at hek <;> simp_all
      refine fin (fun d=>by simp [Op.equalIn,run_underlying ht]) ?_ (by rintro op (rfl|rfl) <;> rfl);have hc:((match X with|.const _=>true|_=>false)||(match Y with|.const _=>true|_=>false))=true:=by
        rcases hlit hl with h|h
        · cases X <;> simp_all [zL3]
        · cases Y <;> simp_all [zL3]
      cases neg <;> simp only [zoZ,zot,zoz,eqGuard]
      · show Sem.run P (if ((match X with|.const _=>true|_=>false)||(match Y with|.const _=>true|_=>false))=true then _ else _) w=_
        rw [zoQ hc];rfl
      · show Sem.run P (if ((match X with|.const _=>true|_=>false)||(match Y with|.const _=>true|_=>false))=true then _ else _) w=_
        rw [zoQ hc];rfl
    · cases h
  all_goals first
    | (cases hx;cases hy
       simp only [zoS] at h;subst h;simp only [zit] at hek;split at hek
       · rename_i ht
         exact fin (fun d=>by simp [Op.equalIn,run_underlying ht]) (zDn zS_ zS_) (by rintro op (rfl|rfl) <;> rfl)
       · cases hek)
    |skip
  · -- nil on the left
    obtain ⟨e,ht⟩:∃ e,P.underlying t=some (.slice e):=by simp only [zit] at hek;split at hek <;> simp_all
    obtain ⟨o,l,c,rfl,ho⟩:=zFq hy h;obtain ⟨o',l',c',rfl,ho'⟩:=zFq hx (b:=true) rfl;simp only [Option.isNone_iff_eq_none] at ho';subst ho';exact fin (fun d=>by simp [Op.equalIn,run_underlying ht,ho]) (zDn zS_ zS_) (sl ⟨_,_,_,rfl⟩ ⟨_,_,_,rfl⟩)
  · obtain ⟨e,ht⟩:∃ e,P.underlying t=some (.slice e):=by simp only [zit] at hek;split at hek <;> simp_all
    obtain ⟨o,l,c,rfl,ho⟩:=zFq hx h;obtain ⟨o',l',c',rfl,ho'⟩:=zFq hy (b:=true) rfl;simp only [Option.isNone_iff_eq_none] at ho';subst ho';refine fin (fun d=>?_) (zDn zS_ zS_) (sl ⟨_,_,_,rfl⟩ ⟨_,_,_,rfl⟩);cases o <;> simp at ho <;> subst ho <;> simp [Op.equalIn,run_underlying ht]
  · cases h
theorem zYm (hS:Sim GT w M I H) {s:Bool} {x:AV} {v:Value} {t ty:TypeId} {n:Nat} (hx:Rel w M I H.length x v) (h:aLen s x=some n) (ht:if s then zKV P t=true else ∃ e,P.underlying t=some (.slice e)) :
    zAI P GT w M I H (Builtin.len_ #[t] ty #[v]) (.int .i64 n) H:=by
  unfold aLen at h;split at h
  · obtain ⟨e,ht⟩:=ht
    cases h;refine zAI.pure hS (v':=.int .i64 _) ?_ (.int _ _);cases hx <;> simp [Builtin.len_,run_underlying ht,goInt]
  · obtain ⟨e,ht⟩:=ht
    cases h;refine zAI.pure hS (v':=.int .i64 _) ?_ (.int _ _);cases hx <;> simp [Builtin.len_,run_underlying ht,goInt]
  · have ht:=zNP ht
    cases h;refine zAI.pure hS (v':=.int .i64 _) ?_ (.int _ _);cases hx;simp [Builtin.len_,run_underlying ht,goInt,zPk]
  · cases h
theorem zMc:∀ {xs:List AV} {s:List UInt8},zGy xs=some s->∃ ns:List Int,xs=ns.map (AV.int .u8)/\s=ns.map fun n=>UInt8.ofNat n.toNat
  |[],s,h=>by simp [zGy] at h;subst h;exact ⟨[],rfl,rfl⟩
  | x::xs,s,h=>by
    cases x with
    | int k n=>
      cases k <;> simp only [zGy,reduceCtorEq] at h
      obtain ⟨r,hr,rfl⟩:=zoV.1 h;obtain ⟨ns,rfl,rfl⟩:=zMc hr;exact ⟨n::ns,rfl,rfl⟩
    |_=>simp [zGy] at h
theorem zWh (ns:List Int):∀ l:List UInt8,ns.foldl (fun (r:ByteArray) n=>r.push (UInt8.ofNat n.toNat)) ⟨l.toArray⟩=⟨(l++ns.map fun n=>UInt8.ofNat n.toNat).toArray⟩:=by
  induction ns with
  |nil=>intro l;simp
  | cons n ns ih=>
    intro l;simp only [znm,zoa];rw [show (⟨l.toArray⟩:ByteArray).push (UInt8.ofNat n.toNat)=⟨(l++[UInt8.ofNat n.toNat]).toArray⟩ by apply ByteArray.ext;simp [ByteArray.push],ih];simp
theorem zTl (hS:Sim GT w M I H) {s d:TypeId} {x:AV} {v:Value} {xs:List AV} {r:List UInt8} (hs:zWd P s=true) (hd:zKV P d=true) (hx:Rel w M I H.length x v) (hv:view H 1 x=some xs) (hb:zGy xs=some r) :
    zAI P GT w M I H (convert s d v) (.str r) H:=by
  obtain ⟨e,h1,h2⟩:=zU9 hs;have h3:=zNP hd;obtain ⟨ns,rfl,rfl⟩:=zMc hb;obtain ⟨he,⟨rfl|⟨a,rfl⟩,hnil⟩|⟨g,p,cap,rfl,hc,hm,hrow⟩⟩:=zPl hS hx hv
  · simp only [znM] at hnil
    subst hnil;refine zAI.pure hS (v':=.string ⟨[].toArray⟩) ?_ (.str _);rw [run_convert_bytes_string w s d e none 0 0 h1 h2 h3];simp [Conv.bytesToString];rfl
  · simp only [znM] at hnil
    subst hnil;refine zAI.pure hS (v':=.string ⟨[].toArray⟩) ?_ (.str _);rw [run_convert_bytes_string w s d e (some a) 0 0 h1 h2 h3];simp [Conv.bytesToString,loadCells,loadCellsFrom];rfl
  · refine zAI.pure hS (v':=.string ⟨(ns.map fun n=>UInt8.ofNat n.toNat).toArray⟩) ?_ (.str _)
    rw [run_convert_bytes_string w s d e _ _ cap h1 h2 h3];have hl:=run_loadCells_list (P:=P) w ⟨g,p,none⟩ (ns.map (Value.int .u8)) (fun j u hu=>by
      rw [Addr.add_lit];simp only [zoX,zoV] at hu;obtain ⟨m,hm,rfl⟩:=hu;obtain ⟨u',a,b⟩:=hrow j 0 (.int .u8 m) (.int .u8 m) (by simp [hm]) rfl;cases b;rw [<-a];congr 2;omega)
    rw [zoU] at hl ⊢;rw [run_bytesToString w _ _ cap ns hl];have:=zWh ns [];simp only [zo4] at this
    congr 2
theorem zNl (s:List UInt8):Elems 1 (s.map zq):=fun x hx=>by
  obtain ⟨c,_,rfl⟩:=zmf.1 hx;rfl
theorem zQi (hS:Sim GT w M I H) {s d:TypeId} {l:List UInt8} (hs:(P.underlying s).isSome=true) (hd:zWd P d=true) (hl:l.length<=140737488355328) :
    zAI P GT w M I H (convert s d (.string ⟨l.toArray⟩)) (.sl (some false) H.length 1 0 l.length) (H++[.row 1 (l.map zq)]):=by
  obtain ⟨e,h1,h2⟩:=zU9 hd;obtain ⟨u,hu⟩:=zmL.1 hs;have hr:=Lib.run_convert_string_bytes (P:=P) w s d e ⟨l.toArray⟩ hu h1 h2;have hge:=grownCap_ge w l.length 0 e;have hcm:=grownCap_le_maxLen w l.length 0 e (by simp only [maxLen];omega);have hnew:=Lib.bytesWorld_at_new w e ⟨l.toArray⟩;have hsize:(Lib.bytesCells w e ⟨l.toArray⟩).size=grownCap w l.length 0 e:=by
    simp only [Lib.bytesCells,znU,Array.size_map,Array.size_replicate,zPk];simp;omega
  have hheap:(Lib.bytesWorld w e ⟨l.toArray⟩).heap=w.heap.push (.cells (Lib.bytesCells w e ⟨l.toArray⟩) e ((Lib.bytesCells w e ⟨l.toArray⟩).size,(Lib.bytesCells w e ⟨l.toArray⟩).size+1)):=by
    apply zm3;intro k;rw [zma];split
    · rename_i hk;rw [hk];exact hnew
    · rename_i hk
      by_cases hlt:k<w.heap.size
      · exact Lib.bytesWorld_at_old w e _ k hlt
      · rw [znR (xs:=w.heap) tO,znR (by rw [Lib.bytesWorld_size];omega)]
  have hos:(Lib.bytesWorld w e ⟨l.toArray⟩).os=w.os/\(Lib.bytesWorld w e ⟨l.toArray⟩).tape=w.tape/\(Lib.bytesWorld w e ⟨l.toArray⟩).output=w.output:=by
    exact ⟨rfl,rfl,rfl⟩
  obtain ⟨G,S⟩:=hS.push (blk:=.row 1 (l.map zq)) hheap hos.1 hos.2.1 hos.2.2 (zHR (cells:=l.map fun c=>.int .u8 c.toNat) (o:=0) (zNl l) zAX ⟨e,_,hnew,fun j hj h=>by omega⟩
    (fun h=>absurd (hS.idom _ h) (zne _)) (by rw [hsize];simpa using hge) (fun j hj=>by
      simp only [zoU,zn1] at hj;rw [zl7,Lib.bytesCells,zm0 (by simpa using hj)];simp) zS_ (fun i j x c hi hj=>by
      simp only [zoX,zoV] at hi;obtain ⟨b,hb,rfl⟩:=hi;cases j with
      |zero=>simp [zq,AV.cells] at hj;subst hj;exact ⟨.int .u8 b.toNat,by simp [hb],.int _ _⟩
      |succ j=>simp [zq,AV.cells] at hj))
  refine ⟨_,_,_,I,hr,G,S, ?_⟩;rw [zPk];exact .sl _ _ _ _ _ w.heap.size 0 0 _ zS_ zAX hge hcm zS_ (fun _=>⟨by simp,e,_,by simp [World.shape?,hnew];rfl,by rw [hsize];simp⟩)
theorem zL6 (hS:Sim GT w M I H) {e:TypeId} {vs:Array Value} {cs:List AV} (hr:zED w M I H.length cs vs.toList) :
    Grow w M I H (w.alloc (.cells vs e)) (more M H.length (some (w.heap.size,0))) I (H++[.box cs])/\Sim GT (w.alloc (.cells vs e)) (more M H.length (some (w.heap.size,0))) I (H++[.box cs]):=by
  have hheap:(w.alloc (.cells vs e)).heap=w.heap.push (.cells vs e):=rfl;refine hS.push hheap rfl rfl rfl ⟨w.heap.size,0,vs,zAX,⟨e,(0,0),by rw [hheap,zma,zoQ rfl],fun j _ h=>absurd h.2 (zmU _)⟩,fun h=>absurd (hS.idom _ h) (zne _),by have:=hr.1;simp at this;omega,fun j c hj=>?_⟩;obtain ⟨v,hv,hrv⟩:=zCn hr hj;refine ⟨v,by rw [zl7,<-hv];simp, ?_⟩;have:=(Sim.push (blk:=.dead) hS hheap rfl rfl rfl trivial).1.rel hS hrv;simpa using this
theorem zTm (hS:Sim GT w M I H) {e:TypeId} {vs:Array Value} {cs:List AV} (hr:zED w M I H.length cs vs.toList) :
    Grow w M I H (w.alloc (.cells vs e)) (more (more M H.length (some (w.heap.size,0))) (H++[ABlk.box cs]).length none) I (H++[.box cs]++[.shp H.length e cs.length]) /\
      Sim GT (w.alloc (.cells vs e)) (more (more M H.length (some (w.heap.size,0))) (H++[ABlk.box cs]).length none) I (H++[.box cs]++[.shp H.length e cs.length]):=by
  obtain ⟨G,S⟩:=zL6 (e:=e) hS hr;have hl:H.length<(H++[ABlk.box cs]).length:=by simp
  obtain ⟨G2,S2⟩:=S.pushAny (blk:=.shp H.length e cs.length) ⟨hl,w.heap.size,by rw [zHs hl];exact zAX,by
    have hh:(w.alloc (.cells vs e)).heap[w.heap.size]?=some (.cells vs e (0,0)):=by
      show (w.heap.push (.cells vs e))[w.heap.size]?=_;rw [zma,zoQ rfl]
    simp only [World.shape?,hh];have:=hr.1;rw [this];simp⟩
  exact ⟨G.trans G2,S2⟩
theorem zYn {s:Sem Value} {v:AV} {H0:Heap} {t:Nat} {Q:World->AMap->Prop} (h:zNk P GT w M I H s v H0 Q) (hq:∀ w' M',Q w' M'->∃ g c,M' H.length=some (g,0)/\w'.shape? g=some (t,c)) (hl:H.length<H0.length) :
    zAI P GT w M I H s v (H0++[.ty H.length t]):=by
  obtain ⟨v',w',M',I',a,G,S,R,q⟩:=h;obtain ⟨g,c,e1,e2⟩:=hq _ _ q;obtain ⟨G2,S2⟩:=S.pushAny (blk:=.ty H.length t) ⟨hl,g,c,by rw [zHs hl];exact e1,e2⟩;exact ⟨v',w',_,I',a,G.trans G2,S2,G2.rel S R⟩
theorem zWi (hS:Sim GT w M I H) {t e:TypeId} {i:TypeInfo} {zv:Value} {z:AV} {k bytes:Nat} {kl kc:IntKind} {l c:Int} (ht:P.underlying t=some (.slice e)) (hi:P.info? e=some i) (hk:i.size=k) (hb:i.bytes=bytes) (hz:i.zero=some zv)
    (hzk:zv.cells.size=k) (hzz:zKT zv z=true) (hk0:0<k) (h0:0<=l) (hlc:l<=c) (hbytes:(bytes:Int)*c<=281474976710656) (hc:c<=9223372036854775807) (hel:z.elem k=true) :
    zAI P GT w M I H (Instr.makeSlice t (.int kl l) (.int kc c)) (.sl (some false) H.length k 0 l.toNat) (H++[.row k (List.replicate l.toNat z)]):=by
  subst hk hb;have hr:=run_make (P:=P) w t e i zv ht hi hz kl kc l c h0 hlc hbytes hc;have hheap:(w.alloc (.cells (madeCells zv.cells (c.toNat*i.size)) e)).heap=w.heap.push (.cells (madeCells zv.cells (c.toNat*i.size)) e):=rfl;have hzr:=zHQ (zK5 (w:=w) (M:=M) (I:=I) (n:=H.length) hzz) (zPm (zmE.2 (AV.elem_iff.1 hel).2.2));have hlc':l.toNat<=c.toNat:=by omega
  obtain ⟨G,S⟩:=hS.push (blk:=.row i.size (List.replicate l.toNat z)) hheap rfl rfl rfl (zHR (cells:=(madeCells zv.cells (l.toNat*i.size)).toList) (o:=0) (fun x hx=>by obtain ⟨_,rfl⟩:=List.mem_replicate.1 hx;exact hel) zAX
    ⟨e,(0,0),by rw [hheap,zma,zoQ rfl],fun j _ h=>absurd h.2 (zmU _)⟩
    (fun h=>absurd (hS.idom _ h) (zne _)) (by rw [size_madeCells];simpa using zo2 _ hlc') (fun j hj=>by
      simp only [List.length_replicate] at hj;have:l.toNat*i.size<=c.toNat*i.size:=zo2 _ hlc';simp [madeCells,hj,show j<c.toNat*i.size by omega]) (by simp [size_madeCells]) (fun a j x c' hx hj=>by
      rw [List.getElem?_replicate] at hx;split at hx
      case isFalse=>cases hx
      rename_i hal;obtain rfl:=zoh hx;obtain ⟨u,hu,hru⟩:=zCn hzr hj;have hjl:=(zl_ hj);rw [(AV.elem_iff.1 hel).1] at hjl;have hlt:a*i.size+j<l.toNat*i.size:=by
        have:(a+1)*i.size<=l.toNat*i.size:=zo2 _ hal;rw [zmC] at this;omega
      refine ⟨u, ?_, ?_⟩
      · simp only [madeCells,Array.toList_map,Array.toList_range,zoX,zmb hlt,zoe,hzk]
        rw [show (a*i.size+j)%i.size=j by rw [zm6,Nat.add_mul_mod_self_right,zna hjl]];have hu':zv.cells[j]?=some u:=by simpa using hu
        simp [getElem!_def,hu']
      · have:=(Sim.push (blk:=.dead) hS hheap rfl rfl rfl trivial).1.rel hS hru
        simpa using this))
  refine ⟨_,_,_,I,hr,G,S, ?_⟩;exact .sl _ _ _ _ _ w.heap.size 0 0 _ zS_ zAX hlc' (by simp only [maxLen];omega) zS_ (fun _=>⟨by simp,e,_,by simp [World.shape?,hheap];rfl,by rw [size_madeCells];simp⟩)
def zIr (cs:List Value) (o:Nat) (vs:List Value):List Value:=cs.take o++vs++cs.drop (o+vs.length)
theorem zNm (off:Nat):∀ (l:List Value) (a:Nat) (cs:Array Value),off+a+l.length<=cs.size ->
    ((l.zipIdx a).foldl (fun (cs:Array Value) (p:Value×Nat)=>cs.setIfInBounds (off+p.2) p.1) cs).toList=zIr cs.toList (off+a) l
  |[],a,cs,h=>by simp [zIr]
  | v::l,a,cs,h=>by
    simp only [zoN] at h;simp only [List.zipIdx_cons,znm];rw [zNm off l (a+1) _ (by simp;omega)];apply zm8;intro j;have hl:(cs.toList.take (off+(a+1))).length=off+(a+1):=by simp;omega
    simp only [zIr,Array.toList_setIfInBounds,zou,zoN];by_cases h1:j<off+a
    · grind
    · rw [zoy (l₁:=List.take (off+a) cs.toList) (by simp;omega)]
      have hl2:(List.take (off+a) cs.toList).length=off+a:=by simp;omega
      rw [hl2];by_cases h2:j=off+a
      · subst h2
        rw [zof (by simp;omega),zo5,zoQ tO,zl3 (by simp;omega)];simp
      · have hl3:(List.take (off+(a+1)) (cs.toList.set (off+a) v)).length=off+(a+1):=by simp;omega
        rw [zoy (by rw [hl3];omega),hl3];rw [show j-(off+a)=(j-(off+(a+1)))+1 by omega,zl9,znA];by_cases h3:j-(off+(a+1))<l.length
        · grind
        · grind
theorem zWj {n:Nat} {cs vs:List AV} {us ws:List Value} (h1:zED w M I n cs us) (h2:zED w M I n vs ws) {o:Nat} (hle:o+vs.length<=cs.length):zED w M I n (splice cs o vs) (zIr us o ws):=by
  have l1:=h1.1;have l2:=h2.1;refine ⟨by simp [splice,zIr];omega,fun i c v hc hv=>?_⟩;rw [zL5 hle] at hc;have hv':(zIr us o ws)[i]?=if o<=i/\i<o+ws.length then ws[i-o]? else us[i]?:=by
    unfold zIr;have ho:(us.take o).length=o:=by simp;omega
    rw [zou,List.getElem?_append,ho];split
    · grind
    · grind
  rw [hv'] at hv;split at hc
  · rw [zoQ tO] at hv;exact h2.2 _ c v hc hv
  · rw [zWl tO] at hv;exact h1.2 _ c v hc hv
theorem zL7 {n:Nat} (place:Nat->Option (Nat×Nat)):∀ (ps:List (Nat×Value)) (pl:List (Nat×Nat)) (vs:List AV) (cells:Array Value) (cs cs':List AV),ps.map (fun p=>place p.1)=pl.map some->zED w M I n vs (ps.map (·.2)) ->
    zED w M I n cs cells.toList->zFY cs pl vs=some cs'->∃ cells',Instr.fill place cells ps=some cells'/\zED w M I n cs' cells'.toList
  | [],[],[],cells,cs,cs',_,_,hc,hf=>by
    simp only [zFY,zoS] at hf;subst hf;exact ⟨cells,rfl,hc⟩
  |[],[],_::_,_,_,_,_,hv,_,_=>by have:=hv.1;simp at this
  |[],_::_,_,_,_,_,hp,_,_,_=>by simp at hp
  |_::_,[],_,_,_,_,hp,_,_,_=>by simp at hp
  |_::_,_::_,[],_,_,_,_,hv,_,_=>by have:=hv.1;simp at this
  | (i,u)::ps,(o,s)::pl,v::vs,cells,cs,cs',hp,hv,hc,hf=>by
    simp only [zoa,zmZ] at hp;simp only [zFY] at hf;split at hf
    · rename_i hcond
      obtain ⟨hs,hle,hone⟩:=hcond;have hvu:Rel w M I n v u:=hv.2 0 v u rfl rfl;have hvs:zED w M I n vs (ps.map (·.2)):=⟨by have:=hv.1;simpa using this,fun j c x h1 h2=>hv.2 (j+1) c x (by simpa using h1) (by simpa using h2)⟩;have hcu:=zHQ hvu (zPm hone);have hul:u.cells.size=s:=by have:=hcu.1;simp at this;omega
      have hcl:cells.size=cs.length:=by have:=hc.1;simp at this;omega
      have hfold:(u.cells.zipIdx.foldl (fun (cs:Array Value) (p:Value×Nat)=>cs.setIfInBounds (o+p.2) p.1) cells).toList=zIr cells.toList o u.cells.toList:=by
        rw [<-Array.foldl_toList,Array.toList_zipIdx];have:=zNm o u.cells.toList 0 cells (by simp;omega);simpa using this
      obtain ⟨cells',r1,r2⟩:=zL7 place ps pl vs _ (splice cs o v.cells) cs' hp.2 hvs (by rw [hfold];exact zWj hc hcu tO) hf;refine ⟨cells', ?_,r2⟩;simp only [Instr.fill,hp.1];rw [zWl (by simp;omega)];exact r1
    · cases hf
theorem zTn (hS:Sim GT w M I H) {t:TypeId} {parts:Array (Nat×Value)} {z cs:List AV} {pl:List (Nat×Nat)} {vs:List AV} (hz:zNj P t z=true) (hso:zTi P t=true) (hpl:zFG P t (parts.toList.map (·.1))=some pl)
    (hv:zED w M I H.length vs (parts.toList.map (·.2))) (h:zFY z pl vs=some cs):zAI P GT w M I H (Instr.build t parts) (.agg cs) H:=by
  unfold zNj at hz;split at hz
  · rename_i it hit
    split at hz
    · rename_i zv hzv
      have hzr:=zHO (w:=w) (M:=M) (I:=I) (n:=H.length) hz;have main:∀ place,(parts.toList.map (fun p=>place p.1)=pl.map some)->(∀ cells',Instr.fill place zv.cells parts.toList=some cells'->P.built t parts.toList=some cells')->zAI P GT w M I H (Instr.build t parts) (.agg cs) H:=fun place hp hb=>by
        obtain ⟨cells',r1,r2⟩:=zL7 place parts.toList pl vs zv.cells z cs hp hv hzr h;refine zAI.pure hS (v':=.agg cells') (run_build w t parts cells' (hb _ r1)) ?_;have:=Rel.agg (w:=w) (M:=M) (I:=I) (n:=H.length) cs cells'.toList r2.1 r2.2;simpa using this
      unfold zTi at hso;split at hso
      · rename_i fs hu
        have hm:∃ places,fs.toList.mapM (fun (f:Field)=>(P.info? f.type).map fun i=>(f.offset,i.size))=some places/\∀ j:Nat,places[j]?=(fs.toList[j]?).bind fun (f:Field)=>(zFP P f.type).map fun s=>(f.offset,s):=by
          revert hso;generalize fs.toList=l;intro hso;induction l with
          |nil=>exact ⟨[],rfl,by simp⟩
          | cons f l ih=>
            simp only [zmu,zTo] at hso;obtain ⟨pl',e1,e2⟩:=ih hso.2;obtain ⟨s,hs⟩:=zmL.1 hso.1;have hs':=hs;unfold zFP at hs';obtain ⟨i,hi,hsz⟩:=zoV.1 hs';refine ⟨(f.offset,i.size)::pl',by simp [znu,hi,e1],fun j=>?_⟩;cases j with
            |zero=>simp [hs,hsz]
            |succ j=>simpa using e2 j
        obtain ⟨places,m1,m2⟩:=hm;refine main (places.toArray[·]?) ?_ (fun cells' hc=>by simp only [Program.built,hit,hu,hzv,m1];exact hc);have:∀ (is:List Nat) (pl:List (Nat×Nat)),zFG P t is=some pl->is.map (fun i=>places.toArray[i]?)=pl.map some:=by
          intro is;induction is with
          |nil=>intro pl h;simp [zFG] at h;subst h;rfl
          | cons i is ih=>
            intro pl h;simp only [zFG,hu] at h;split at h
            · rename_i f hf
              split at h
              · rename_i s pl' h1 h2
                cases h;have hf':fs.toList[i]?=some f:=by simpa using hf
                rw [zoa,zoa,ih _ h2]
                congr 1
                rw [List.getElem?_toArray,m2,hf'];simp [h1]
              · cases h
            · cases h
        have:=this _ _ hpl;simpa [zm7,znz] using this
      · rename_i m e hu
        obtain ⟨s,hs⟩:=zmL.1 hso;have hs':=hs;unfold zFP at hs';obtain ⟨ie,hie,hsz⟩:=zoV.1 hs';refine main (fun i=>some (i*ie.size,ie.size)) ?_ (fun cells' hc=>by simp only [Program.built,hit,hu,hzv,hie];exact hc);have:∀ (is:List Nat) (pl:List (Nat×Nat)),zFG P t is=some pl->is.map (fun i=>some (i*ie.size,ie.size))=pl.map some:=by
          intro is;induction is with
          |nil=>intro pl h;simp [zFG] at h;subst h;rfl
          | cons i is ih=>
            intro pl h;simp only [zFG,hu,hs] at h;split at h
            · rename_i s' pl' h1 h2
              simp only [zoS] at h h1;subst h h1;rw [zoa,zoa,ih _ h2];simp [hsz]
            · cases h
        have:=this _ _ hpl;simpa [zm7,znz] using this
      · cases hso
    · cases hz
  · cases hz
theorem zNn (k:Nat):∀ (vs:List AV) (a:Nat) (pre:List AV),pre.length=a*k->(∀ v∈vs,v.elem k=true) ->
    zFY (pre++List.replicate (vs.length*k) .undef) ((List.range' a vs.length).map fun i=>(i*k,k)) vs=some (pre++vs.flatMap AV.cells)
  |[],a,pre,_,_=>by simp [zFY]
  | v::vs,a,pre,hp,hv=>by
    obtain ⟨h1,h2,h3⟩:=AV.elem_iff.1 (hv v zS_);have hone:v.cells.all AV.one=true:=zmE.2 h3;simp only [zoN,List.range'_succ,zoa,zFY];rw [zoQ ⟨h1,by simp [zmC];omega,hone⟩];have hs:splice (pre++List.replicate ((vs.length+1)*k) AV.undef) (a*k) v.cells=(pre++v.cells)++List.replicate (vs.length*k) AV.undef:=by
      unfold splice;rw [h1,<-hp,zn8,List.drop_append]
      · simp [List.drop_replicate,zmC]
      · rfl
    rw [hs,zNn k vs (a+1) (pre++v.cells) (by simp [h1,hp,zmC]) (fun x hx=>hv x (by simp [hx]))];simp
theorem zVA {k:Nat}:∀ {xs:List AV} {i j:Nat} {x c:AV},Elems k xs->xs[i]?=some x->x.cells[j]?=some c->(xs.flatMap AV.cells)[i*k+j]?=some c
  |[],_,_,_,_,_,h,_=>by simp at h
  | y::xs,i,j,x,c,he,hx,hj=>by
    have hy:=(AV.elem_iff.1 (he y zS_)).1;cases i with
    |zero=>grind
    | succ i=>
      rw [zn0,zoy (by rw [hy,zmC];omega),hy];have:=zVA (xs:=xs) (fun z hz=>he z (by simp [hz])) (by simpa using hx) hj;rw [<-this];congr 1
      rw [zmC];omega
theorem zVB {k:Nat}:∀ {xs:List AV},Elems k xs->(xs.flatMap AV.cells).length=xs.length*k
  |[],_=>by simp
  | y::xs,he=>by
    have hy:=(AV.elem_iff.1 (he y zS_)).1;have:=zVB (xs:=xs) (k:=k) (fun z hz=>he z (by simp [hz]));simp [hy,this,zmC];omega
theorem zRv (hS:Sim GT w M I H) {t:TypeId} {len k:Nat} {parts:Array (Nat×Value)} {vs vs':List AV} {H1:Heap} (hsl:zEd P t k=true) (hz:(match P.underlying t with
      | some (.slice e)=>(match P.info? e with
        |some i=>i.zero.isSome
        |none=>false)
      |_=>false)=true) (hlim:len*k<=16777216) (hlim':len<=16777216) (hidx:parts.toList.map (·.1)=List.range len)
    (hv:zED w M I H.length vs (parts.toList.map (·.2))) (hf:zKR 0 vs H=some (vs',H1)) (hel:vs'.all (fun v=>v.elem k)=true) :
    zAI P GT w M I H (Instr.buildSlice t len parts) (.sl (some false) H1.length k 0 vs'.length) (H1++[.row k vs']):=by
  obtain ⟨e,ht,hse⟩:=zMb hsl;rw [ht] at hz;simp only at hz;split at hz
  case h_2=>cases hz
  rename_i i hi;obtain ⟨zv,hzv⟩:=zmL.1 hz;have hagg:=Rel.agg (w:=w) (M:=M) (I:=I) (n:=H.length) vs (parts.toList.map (·.2)) hv.1 hv.2;obtain ⟨I',G1,S1,R1,hlen,_⟩:=zK3 0 (.agg vs) hS hagg (x':=.agg vs') (H':=H1) (by simp [zDm,hf]);have hr:zED w M I' H1.length vs' (parts.toList.map (·.2)):=by
    generalize hus:parts.toList.map (·.2)=us at R1;cases R1 with
    |agg _ _ hl h=>exact ⟨hl,h⟩
  have hvl:vs'.length=len:=by have h1:=hr.1;have h2:=zod List.length hidx;simp at h1 h2;omega
  have hE:Elems k vs':=fun x hx=>zmE.1 hel x hx;subst hvl;have hseq:=zNn k vs' 0 [] zS_ hE;simp only [zo4] at hseq
  let base:Array Value:=(Array.range (vs'.length*k)).map (fun j=>(if vs'.length*k=0 then (#[]:Array Value) else zv.cells)[j%(if vs'.length*k=0 then (#[]:Array Value) else zv.cells).size]!)
  have hbase:zED w M I' H1.length (List.replicate (vs'.length*k) AV.undef) base.toList:=by
    refine ⟨by simp [base],fun a c v hc _=>?_⟩;rw [List.getElem?_replicate] at hc;split at hc
    · rw [<-Option.some.inj hc];exact .undef _
    · cases hc
  obtain ⟨cells',f1,f2⟩:=zL7 (w:=w) (M:=M) (I:=I') (n:=H1.length) (fun i=>some (i*k,k)) parts.toList _ vs' base _ _ (by
    have:parts.toList.map (fun p=>some (p.1*k,k))=(parts.toList.map (·.1)).map (fun i=>some (i*k,k)):=by simp
    rw [this,hidx,List.range_eq_range'];simp) hr hbase hseq
  have hcl:cells'.toList.length=vs'.length*k:=by rw [<-f2.1,zVB hE]
  have hrun:(Instr.buildSlice t vs'.length parts).run P w=.ok (.slice (some ⟨w.heap.size,0,none⟩) vs'.length vs'.length) (w.alloc (.cells cells' e)):=by
    have hno:¬ (vs'.length*k>2^24):=by omega
    have hzr:∀ w:World,(zeroValue e).run P w=.ok zv w:=fun w=>by simp [zeroValue,typeInfo,hi,hzv]
    have f1':Instr.fill (fun i=>some (i*k,k)) ((Array.range (vs'.length*k)).map (fun j=>(if vs'.length*k=0 then (#[]:Array Value) else zv.cells)[j%(if vs'.length*k=0 then (#[]:Array Value) else zv.cells).size]!)) parts.toList=some cells':=f1;unfold Instr.buildSlice;by_cases h0:vs'.length*k=0
    · simp only [zoQ h0] at f1'
      simp only [Sem.run_bind,run_underlying ht,Result.andThen_ok,zBH hse,zWl hno,zoQ h0,Sem.run_pure,f1'];simp [newRow]
    · simp only [zWl h0] at f1'
      simp only [Sem.run_bind,run_underlying ht,Result.andThen_ok,zBH hse,zWl hno,zWl h0,hzr,Sem.run_pure,f1'];simp [newRow]
  have hheap:(w.alloc (.cells cells' e)).heap=w.heap.push (.cells cells' e):=rfl;obtain ⟨G,S⟩:=S1.push (blk:=.row k vs') hheap rfl rfl rfl (zHR (cells:=cells'.toList) (o:=0) hE zAX ⟨e,(0,0),by rw [hheap,zma,zoQ rfl],fun j _ h=>absurd h.2 (zmU _)⟩
    (fun h=>absurd (S1.idom _ h) (zne _)) (by have:=hcl;simp at this;omega) (fun j hj=>by rw [zl7];simp) hcl (fun a j x c hx hj=>by
      obtain ⟨u,hu,hru⟩:=zCn f2 (zVA hE hx hj);refine ⟨u,hu, ?_⟩;have:=(Sim.push (blk:=.dead) S1 hheap rfl rfl rfl trivial).1.rel S1 hru;simpa using this))
  refine ⟨_,_,_,I',hrun,G1.trans G,S, ?_⟩;refine .sl _ _ _ _ _ w.heap.size 0 0 _ zS_ zAX (zoR _) ?_ zS_ (fun _=>⟨by simp,e,_,by simp [World.shape?,hheap];rfl,by have:=hcl;simp at this;simp;omega⟩);simp only [maxLen];omega
theorem zNo {t:TypeId} (h:zHN P t=true):∃ fs f g,P.underlying t=some (.struct fs)/\fs.toList=[f,g]/\f.offset=0/\g.offset=1/\P.underlying f.type=some (.int .i64)/\P.underlying g.type=some (.int .i64)/\zIp P 30 t=some [.int .i64,.int .i64]:=by
  unfold zHN at h;simp only [zTo,zoY] at h;obtain ⟨h,h2⟩:=h;split at h
  case h_2=>cases h
  rename_i fs ht;split at h
  case h_2=>cases h
  rename_i f g hfs;simp only [zTo,zol] at h;obtain ⟨⟨⟨h3,h4⟩,h5⟩,h6⟩:=h;have int:∀ {u:TypeId},zRs P u .i64=true->P.underlying u=some (.int .i64):=fun {u} hu=>by
    unfold zRs at hu;split at hu
    · grind
    · cases hu
  exact ⟨fs,f,g,ht,hfs,h3,h4,int h5,int h6,h2⟩
theorem zgT {t:TypeId} (h:zHN P t=true) (p:Int×Int) (em:Bool) (n:Nat):(Instr.checkKey em (n+2) t (zKz p)).run P w=.ok () w:=by
  obtain ⟨fs,f,g,ht,hfs,h1,h2,h3,h4,_⟩:=zNo h;rw [Instr.checkKey];simp only [zKz,Sem.run_bind,run_underlying ht,Result.andThen_ok];rw [<-Array.forIn_toList,hfs];have hp:∀ (u:TypeId) (o:Nat) (v:Value),P.underlying u=some (.int .i64)->(#[Value.int .i64 p.1,Value.int .i64 p.2])[o]?=some v->(Go.part u #[.int .i64 p.1,.int .i64 p.2] o).run P w=.ok v w:=fun u o v hu hv=>by
    simp [Go.part,isAgg,run_underlying hu,hv,Result.andThen]
  have hc:∀ (u:TypeId) (v:Int),P.underlying u=some (.int .i64)->(Instr.checkKey em (n+1) u (.int .i64 v)).run P w=.ok () w:=fun u v hu=>by
    simp [Instr.checkKey,run_underlying hu,Result.andThen]
  have p1:=hp f.type 0 (.int .i64 p.1) h3 rfl;have p2:=hp g.type 1 (.int .i64 p.2) h4 rfl;rw [<-h1] at p1;rw [<-h2] at p2;by_cases e1:f.name = "_" <;> by_cases e2:g.name = "_" <;> simp [List.forIn_cons,Sem.run_bind,e1,e2,Result.andThen,p1,p2,hc f.type p.1 h3,hc g.type p.2 h4,Sem.run_pure]
theorem zYo {t:TypeId} (h:zHN P t=true) (p q:Int×Int):(Op.equal t (zKz p) (zKz q)).run P w=.ok (decide (p=q)) w:=by
  obtain ⟨fs,f,g,ht,hfs,h1,h2,h3,h4,hsh⟩:=zNo h;have ha:zKU P t=some true:=by simp [zKU,ht]
  have:=(zQg (P:=P) (w:=w) (M:=fun _=>none) (I:=fun _=>False) 30 Op.maxDepth t _ hsh zD_).2.2 [.int .i64 p.1,.int .i64 p.2] [.int .i64 q.1,.int .i64 q.2] [.int .i64 p.1,.int .i64 p.2] [.int .i64 q.1,.int .i64 q.2] (decide (p=q)) (zKz p) (zKz q) 0
    ⟨rfl,fun i c v hc hv=>by rcases i with _|_|i <;> simp at hc hv <;> subst hc hv <;> exact .int _ _⟩ ⟨rfl,fun i c v hc hv=>by rcases i with _|_|i <;> simp at hc hv <;> subst hc hv <;> exact .int _ _⟩ (by
      simp only [zBe,zPh,and_self,zoz,zoS,zm1];rw [znn];simp [Prod.ext_iff]) (.inl ⟨ha,rfl⟩) (.inl ⟨ha,rfl⟩)
  exact this
theorem zVC {t:TypeId} (h:zHN P t=true) (p:Int×Int):∀ (ks:List (Int×Int)) (es:List MapEntry) (i:Nat),es.map (·.key)=ks.map zKz ->
    (Instr.findAsking t (zKz p) es i).run P w=.ok ((mfind p ks).bind fun j=>(es[j]?).map fun e=>(i+j,e.val)) w
  | [],es,i,he=>by
    have:es=[]:=by cases es <;> simp at he ⊢
    subst this;simp [Instr.findAsking,mfind]
  |x::ks,[],i,he=>by simp at he
  | x::ks,e::es,i,he=>by
    simp only [zoa,zmZ] at he;have hq:=zYo (w:=w) h p x;have ih:=zVC h p ks es (i+1) he.2;simp only [Instr.findAsking,Sem.run_bind,he.1,hq,Result.andThen_ok];by_cases hpx:p=x
    · simp [hpx,mfind]
    · simp only [hpx,decide_false,zoZ,zot,ih,mfind]
      cases mfind p ks with
      |none=>simp
      |some j=>simp [zl6,zm6 1 j]
theorem zNp {t:TypeId} (h:zHN P t=true) (p:Int×Int) (ks:List (Int×Int)) (es:List MapEntry) (he:es.map (·.key)=ks.map zKz) :
    (Instr.findKey t (zKz p) es).run P w=.ok ((mfind p ks).bind fun j=>(es[j]?).map fun e=>(j,e.val)) w:=by
  obtain ⟨fs,f,g,ht,_⟩:=zNo h;rw [run_findKey_eq w (by simp [ht])];have:=zVC (w:=w) h p ks es 0 he;simpa using this
theorem zVD {p:Int×Int}:∀ {ks:List (Int×Int)} {j:Nat},mfind p ks=some j->j<ks.length/\ks[j]?=some p
  |[],j,h=>by simp [mfind] at h
  | x::ks,j,h=>by
    unfold mfind at h;split at h
    · grind
    · obtain ⟨i,hi,rfl⟩:=zoV.1 h
      obtain ⟨h1,h2⟩:=zVD hi;exact ⟨by simp;omega,by simpa using h2⟩
theorem zNq (hS:Sim GT w M I H) {m:AV} {v:Value} (hm:Rel w M I H.length m v) {ks:List (Int×Int)} {vs:List AV} (h:mview H m=some (ks,vs)) :
    (v=.map none/\ks=[]/\vs=[])\/∃ (g:Nat) (es:Array MapEntry) (cl:Nat),v=.map (some g)/\w.heap[g]?=some (.map es cl)/\es.toList.map (·.key)=ks.map zKz/\vs.length=es.size/\(∀ x∈vs,x.noRef=true) /\
      ∀ (i:Nat) (x:AV) (e:MapEntry),vs[i]?=some x->es[i]?=some e->Rel w M I H.length x e.val:=by
  cases m <;> simp only [mview,reduceCtorEq] at h
  case nilm=>
    cases hm;simp only [zoS,zob] at h;exact .inl ⟨rfl,h.1.symm,h.2.symm⟩
  case mp b=>
    split at h
    case h_2=>cases h
    rename_i ks' vs' hb;simp only [zoS,zob] at h;obtain ⟨rfl,rfl⟩:=h;obtain ⟨g,es,cl,h1,h2,h3,h4,h5,h6,h7⟩:=hS.blk b _ hb;cases hm with
    |mp _ g' hbn hM=>grind
  case mps ks' vs'=>
    simp only [zoS,zob] at h;obtain ⟨rfl,rfl⟩:=h;cases hm with
    |mps _ _ g es clock hI hw hk hl hn hv=>grind
theorem zNr {n:Nat} {k:AV} {v:Value} (hk:Rel w M I n k v) {p:Int×Int} (h:zWZ k=some p):v=zKz p:=by
  unfold zWZ at h;split at h
  case h_2=>cases h
  rename_i a b;simp only [zoS] at h;subst h;cases hk with
  | agg _ vs hl hv=>
    match vs,hl with
    | [x,y],_=>
      have h1:=hv 0 _ x rfl rfl;have h2:=hv 1 _ y rfl rfl;cases h1;cases h2;rfl
theorem zJb {g:Nat} {es:Array MapEntry} {cl:Nat} (hb:w.heap[g]?=some (.map es cl)):(getObj g).run P w=.ok (.map es cl) w:=by simp [getObj,Sem.run,hb]
theorem zPp {g:Nat} {es:Array MapEntry} {cl:Nat} (o:Obj) (hb:w.heap[g]?=some (.map es cl)):(setObj g o).run P w=.ok () { w with heap:=w.heap.setIfInBounds g o }:=by simp [setObj,Sem.run,hb]
theorem zNQ {t:TypeId} (h:zHN P t=true) (p:Int×Int) (em:Bool):(Instr.checkKey em 10000 t (zKz p)).run P w=.ok () w:=zgT h p em 9998
theorem zWk {mt kt et:TypeId} (hmt:P.underlying mt=some (.map kt et)) (hkt:zHN P kt=true) {es:Array MapEntry} {mv:Value} (hm:(mv=.map none/\es=#[])\/∃ g cl,mv=.map (some g)/\w.heap[g]?=some (.map es cl)) (p:Int×Int)
    {o:Option (Nat×Value)} (hf:(Instr.findKey kt (zKz p) es.toList).run P w=.ok o w) (ok:Bool) {zv:Value} (hz:(zeroValue et).run P w=.ok zv w) :
    (Instr.lookup mt mv (zKz p) ok).run P w=.ok (match (generalizing:=false) o with
      |some (_,v)=>if ok then .tuple #[v,.bool true] else v
      |none=>if ok then .tuple #[zv,.bool false] else zv) w:=by
  unfold Instr.lookup;rcases hm with ⟨rfl,rfl⟩|⟨g,cl,rfl,hg⟩
  · rcases o with _|⟨i,v⟩ <;> simp only [Sem.run_bind,run_underlying hmt,Result.andThen_ok,Sem.run_pure,zNQ hkt p,hf,hz]
  · rcases o with _|⟨i,v⟩ <;> simp only [Sem.run_bind,run_underlying hmt,Result.andThen_ok,Sem.run_pure,zJb hg,zNQ hkt p,hf,hz]
theorem zYp (hS:Sim GT w M I H) {mt kt et:TypeId} (hmt:P.underlying mt=some (.map kt et)) (hkt:zHN P kt=true) {i:TypeInfo} {zv:Value} {z:AV} (hi:P.info? et=some i) (hz:i.zero=some zv) (hzr:∀ n,Rel w M I n z zv)
    {m k r:AV} {mv kv:Value} {ok:Bool} (hm:Rel w M I H.length m mv) (hk:Rel w M I H.length k kv) (h:zWa H z ok m k=some r) :
    ∃ v,(Instr.lookup mt mv kv ok).run P w=.ok v w/\Rel w M I H.length r v:=by
  unfold zWa at h;split at h
  case h_2=>cases h
  rename_i ks vs hmv;split at h
  case h_2=>cases h
  rename_i p hp;have ek:=zNr hk hp;subst ek;have fin:∀ (u:AV) (uv:Value) (b:Bool),Rel w M I H.length u uv->r=(if ok then .tup [u,.bool b] else u)->Rel w M I H.length r (if ok then .tuple #[uv,.bool b] else uv):=fun u uv b hu hr=>by
    subst hr;cases ok
    · exact hu
    · exact .tup [u,.bool b] [uv,.bool b] rfl fun i c v hc hv=>by
        rcases i with _|_|i <;> simp at hc hv
        · subst hc hv;exact hu
        · subst hc hv;exact .bool b
  have hzero:(zeroValue et).run P w=.ok zv w:=by simp [zeroValue,typeInfo,hi,hz,Result.andThen]
  obtain ⟨es,hes,hkk,hl,hv⟩:∃ es:Array MapEntry,((mv=.map none/\es=#[])\/∃ g cl,mv=.map (some g)/\w.heap[g]?=some (.map es cl))/\es.toList.map (·.key)=ks.map zKz/\vs.length=es.size/\∀ (i:Nat) (x:AV) (e:MapEntry),vs[i]?=some x->es[i]?=some e->Rel w M I H.length x e.val:=by
    rcases zNq hS hm hmv with ⟨h1,rfl,rfl⟩|⟨g,es,cl,h1,hw,hkk,hl,_,hv⟩
    · (simp_all;done)
    · grind
  have hfk:=zNp (w:=w) hkt p ks es.toList hkk;have hrun:=zWk hmt hkt hes p hfk ok hzero;refine ⟨_,hrun, ?_⟩;split at h
  · grind
  · grind
theorem zYq (p:Int×Int):(Instr.keyThatStays (zKz p) (zKz p)).run P w=.ok (zKz p) w:=by
  have:Instr.sameBits 10000 (zKz p) (zKz p)=true:=by simp [zKz,Instr.sameBits]
  simp [Instr.keyThatStays,this]
theorem zRw (hS:Sim GT w M I H) {mt kt et:TypeId} (hmt:P.underlying mt=some (.map kt et)) (hkt:zHN P kt=true)
    {m k x:AV} {mv kv xv:Value} {H':Heap} (hm:Rel w M I H.length m mv) (hk:Rel w M I H.length k kv) (hx:Rel w M I H.length x xv) (h:zcx H m k x=some H') :
    ∃ w',(Instr.mapUpdate mt mv kv xv).run P w=.ok () w'/\Grow w M I H w' M I H'/\Sim GT w' M I H':=by
  unfold zcx at h;split at h
  case h_2=>cases h
  rename_i b;split at h
  case h_2=>cases h
  rename_i ks vs hb;split at h
  case h_2=>cases h
  rename_i p hp;split at h
  case isFalse=>cases h
  rename_i hnx;simp only [zoS] at h;subst h;have ek:=zNr hk hp;subst ek;obtain ⟨g,es,cl,h1,h2,h3,h4,h5,h6,h7⟩:=hS.blk b _ hb;cases hm with
  | mp _ g' hbn hM=>
    rw [hM] at h1;simp only [zoS,zob,znQ] at h1;subst h1;have hfk:=zNp (w:=w) hkt p ks es.toList h4;have hlen:ks.length=es.size:=by have:=zod List.length h4;simpa using this.symm
    unfold mput;cases hj:mfind p ks with
    | some j=>
      have ⟨hjk,hjp⟩:=zVD hj;obtain ⟨e,he⟩:∃ e,es[j]?=some e:=⟨_,zm4 tO⟩;have he':es.toList[j]?=some e:=by simpa using he
      have hek:e.key=zKz p:=by
        have:(es.toList.map (·.key))[j]?=(ks.map zKz)[j]?:=by rw [h4]
        rw [zoX,zoX,he',hjp] at this;simpa using this
      rw [hj,zmH,he',zoe] at hfk
      let es':=es.modify j fun e=>{ e with key:=zKz p,val:=xv }
      let w':World:={ w with heap:=w.heap.setIfInBounds g' (.map es' cl) }
      have hsz:es'.size=es.size:=by simp [es']
      have hget:∀ i,es'[i]?=if j=i then (es[i]?).map (fun e=>{ e with key:=zKz p,val:=xv }) else es[i]?:=fun i=>by
        simp only [es',zmo]
      refine ⟨w', ?_,hS.turnMap (w':=w') (es':=es') (cl':=cl) hb hM h2 rfl rfl rfl rfl ?_ (by simp only [zoW,hsz];exact h5) (fun y hy=>?_) (fun i y e1 hy he1=>?_)⟩
      · unfold Instr.mapUpdate
        simp only [Sem.run_bind,run_underlying hmt,Result.andThen_ok,zJb h2,zNQ hkt p,hfk,he,zoe,Option.getD_some,hek,zYq,zPp _ h2];rfl
      · rw [<-h4]
        apply zm8;intro i;rw [zoX,zoX,znX,znX,hget];by_cases hij:j=i
        · subst hij;rw [zoQ rfl,he];simp [hek]
        · rw [zWl hij]
      · grind
      · grind
    | none=>
      rw [hj,Option.bind_none] at hfk
      let es':=es.push { key:=zKz p,val:=xv,born:=cl }
      let w':World:={ w with heap:=w.heap.setIfInBounds g' (.map es' (cl+1)) }
      refine ⟨w', ?_,hS.turnMap (w':=w') (es':=es') (cl':=cl+1) hb hM h2 rfl rfl rfl rfl (by simp [es',h4]) (by simp [es',h5]) (fun y hy=>?_) (fun i y e1 hy he1=>?_)⟩
      · unfold Instr.mapUpdate
        simp only [Sem.run_bind,run_underlying hmt,Result.andThen_ok,zJb h2,zNQ hkt p,hfk,zPp _ h2];rfl
      · grind
      · grind
theorem zcy (hS:Sim GT w M I H) (t:TypeId):∃ v w' M',(Instr.makeMap t none).run P w=.ok v w'/\Grow w M I H w' M' I (H++[.mp [] []])/\Sim GT w' M' I (H++[.mp [] []])/\Rel w' M' I (H++[ABlk.mp [] []]).length (.mp H.length) v:=by
  have hh:(w.alloc (.map #[] 0)).heap=w.heap.push (.map #[] 0):=rfl;obtain ⟨h1,h2⟩:=hS.push (w':=w.alloc (.map #[] 0)) (obj:=.map #[] 0) hh rfl rfl rfl (blk:=.mp [] []) ⟨w.heap.size,#[],0,zAX,by rw [hh];simp,fun h=>by have:=hS.idom _ h;omega,rfl,rfl,by simp,by simp⟩;refine ⟨.map (some w.heap.size),_,_, ?_,h1,h2,.mp _ _ zS_ zAX⟩;simp [Instr.makeMap,Result.andThen]
end
end Go.AM
