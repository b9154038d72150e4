/- slices.SortFunc of cells with texts, by their cells, by the kit's shelf: the row holds the same, sorted. A contract shown by hand. Own work. -/
import Derived.Test.YtkeblfepjkdleaaGreatDoorGMgcSk0
import Derived.Test.YtkeblfepjkdleaaGreatDoorSk1
import Derived.Shelf.SlSortCmp.WholeK
set_option maxHeartbeats 4000000
set_option maxRecDepth 100000
set_option linter.all false
namespace Go.Proofs.YtkeblfepjkdleaaGreatDoor
open Go.AM Go.Shelf Go.RowKit Go.Lib Go.Sort Go.Proofs
instance:Inhabited Fil:=⟨⟨0,0,[]⟩⟩
def zQk (x:Fil):List Value:=[.int .i64 x.col,.int .i64 x.row,.string ⟨x.text.toArray⟩]
def cfF (x y:Fil):Int:=zbs x.col x.row y.col y.row
theorem zfP (W:World) (A B:Obj) (q:Nat) (os:Array Obj):grow (((W.alloc A).alloc B).drewN q) os=grow (W.drewN q) (#[A,B]++os):=by
 have:((W.heap.push A).push B)++os=W.heap++(#[A,B]++os):=by apply zm8;simp
 unfold World.alloc grow World.drewN;simp only [this]
theorem zWR (x y:Fil) (W:World):Calls Tryz.prog 55 #[.agg #[.int .i64 x.col,.int .i64 x.row,.string ⟨x.text.toArray⟩],.agg #[.int .i64 y.col,.int .i64 y.row,.string ⟨y.text.toArray⟩]] W fun e w'=>e=.returned (.int .i64 (cfF x y))/\∃ q os',w'=grow (W.drewN q) os':=by
 have hcon:=fun (p q:Int×Int) W'=>zZB p q W'
 go_enter Tryz.func55,Tryz.ntmps55
 go_wp2_with (first|(go_at_call 49;refine (hcon (x.col,x.row) (y.col,y.row) _).mono ?_;rintro e w' ⟨rfl,q,os',rfl⟩))
 go_ret
 exact ⟨rfl,q,_,zfP _ _ _ _ _⟩
theorem zXd (x y:Fil):ltOf cfF x y=decide (ltF x y):=by
 unfold ltOf cfF;rw [zmh,zb8];rfl
theorem swoF:SWO (ltOf cfF) where
 irrefl x:=by rw [zXd];exact tF (by unfold ltF;omega)
 trans x y z h1 h2:=by rw [zXd] at *;simp only [zlV] at *;exact zUp h1 h2
 ntrans x y z h1 h2:=by rw [zXd] at *;simp only [zmK] at *;unfold ltF at *;omega
theorem zfQ (blk off size:Nat) (w:World):CmpLays Tryz.prog 55 #[] zQk 3 cfF blk off size w:=fun _ _ _ _ x y=>zWR x y _
theorem zZD (blk off cap:Nat) (d:List Fil) (hnd:(d.map zLh).Nodup) (w:World) (hH:HoldsK zQk 3 w blk off d.toArray) (hblk:blk<w.heap.size) (hsz:d.length<=1000) :
  Calls Tryz.prog 54 #[.slice (some ⟨blk,off,none⟩) d.length cap,.func (.func 55) #[] #[]] w fun e w'=>e=.returned (.tuple #[])/\∃ n os,w'=sortWorldK zQk 3 w blk off n (zJa d).toArray os:=by
 have eg:∀ args w,(callFunc 55 args).run Tryz.prog w=.ok (.enter 55 args) w:=enters_of Tryz.func55 (by kernel_rfl) rfl;have hcon:=AnyQ.slices_SortFunc Tryz.ownSort 3 (by intro w;kernel_rfl) (by intro w;kernel_rfl) zQk (fun _=>rfl) (fun x v hv=>by simp [zQk] at hv;rcases hv with rfl|rfl|rfl <;> rfl) cfF swoF 55 #[] blk off cap d.toArray w eg (zfQ blk off _ w) hH hblk (by simp;omega);refine hcon.mono ?_;rintro e w' ⟨he,d',n,os,hp,hs,hw⟩;refine ⟨he,n,os, ?_⟩;have hsz':d'.size=d.length:=by simpa using hp.1
 have hperm:d'.toList.Perm d:=by
  have:=hp.2.2;have x1:d'.extract 0 d.toArray.size=d':=by apply zm8 ; simp [<-hsz']
  have x2:d.toArray.extract 0 d.toArray.size=d.toArray:=by apply zm8;simp
  rw [x1,x2] at this;simpa using this
 have hnd':(d'.toList.map zLh).Nodup:=(List.Perm.nodup_iff (hperm.map zLh)).2 hnd;have e1:d'.toList=zJa d:=by
  refine zWP (hperm.trans (zKE d).symm) ?_ (zcE hnd);have hg:d'.toList.Pairwise fun a b=>¬ ltF b a/\zLh a≠zLh b:=by
   rw [List.pairwise_iff_getElem];intro i j hi hj hij;have hi':i<d'.size:=by simpa using hi
   have hj':j<d'.size:=by simpa using hj
   have h1:=hs i j (zl6 _) hij (by simpa [hsz'] using hj);rw [zXd,zmK] at h1;rw [getElem!_pos d' i hi',getElem!_pos d' j hj'] at h1;refine ⟨by simpa only [Array.getElem_toList] using h1,fun e=>?_⟩;have h2:=(List.pairwise_iff_getElem.1 hnd') i j (by simpa using hi) (by simpa using hj) hij;rw [List.getElem_map,List.getElem_map] at h2;exact h2 e
  exact hg.imp fun {a b} h=>(zgs h.2).resolve_right h.1
 rw [hw,<-e1]
theorem zZE (w:World) (blk off n:Nat) (dk:Array Fil) (os:Array Obj) {cur:Array Value} {e:TypeId} {fz:Nat×Nat} (hg:w.heap[blk]?=some (.cells cur e fz)) {w':World} (h:w'=sortWorldK zQk 3 w blk off n dk os) :
  w'.os=w.os/\w'.tape=w.tape/\w'.output=w.output/\w.heap.size<=w'.heap.size/\(∀ j,j<w.heap.size->j≠blk->w'.heap[j]?=w.heap[j]?)/\w'.heap[blk]?=some (.cells (putCells id off (flatK zQk 3 dk) cur) e fz):=by
 subst h;have hh:(sortWorldK zQk 3 w blk off n dk os).heap=w.heap.modify blk (onCells (putCells id off (flatK zQk 3 dk)))++os:=rfl;have hlt:=(zlZ.1 hg).1;refine ⟨rfl,rfl,rfl,by rw [hh];simp,fun j hj hne=>?_, ?_⟩
 ·rw [hh,zmY (by simpa using hj),zmd,zlD (zl7 hne)]
 ·rw [hh,zmY (by simpa using hlt),zmd,zlF rfl,hg];rfl
theorem zZF (l:List Fil):Elems 3 (l.map zl):=by
 intro x hx;obtain ⟨f,_,rfl⟩:=zmn.1 hx;rfl
theorem zUs (d:Array Fil) (i j:Nat) (p:Fil) (v:Value) (hp:d[i]?=some p) (hv:(zQk p)[j]?=some v):i*3+j<(flatK zQk 3 d).size/\(flatK zQk 3 d)[i*3+j]! = v:=by
 have hi:=(zlZ.1 hp).1;have hj:j<3:=by have:=(zl_ hv);simpa [zQk] using this
 have hlt:i*3+j<d.size*3:=by omega
 refine ⟨by rw [size_flatK];exact hlt, ?_⟩;rw [get_flatK _ _ _ _ hlt,show (i*3+j)/3=i by omega,show (i*3+j)%3=j by omega,getElem!_pos d i hi,(zlZ.1 hp).2];obtain ⟨h1,h2⟩:=zg hv;rw [getElem!_pos (zQk p) j h1,h2]
theorem zcF {GT:zG_} (b:Nat) (xs:List Fil) (H:Heap) (hb:H[b]?=some (.row 3 (xs.map zl))) (hne:xs≠[]) (hl:xs.length<=1000) (hnd:(xs.map zLh).Nodup) :
  Go.AM.Good Tryz.prog GT 54 [.sl (some true) b 3 0 xs.length,.fn 55 [] []] H (.tup []) (H.set b (.row 3 ((zJa xs).map zl))):=by
 refine zFW Tryz.func54 (by kernel_rfl) (by kernel_rfl) rfl fun w M I cargs hS hA=>?_;obtain ⟨v1,v2,rfl,r1,r2⟩:=zSp hA;have hn0:0<xs.length:=znF.2 hne;have hfn:v2=.func (.func 55) #[] #[]:=by
  cases r2 with
  |fn _ _ _ vs us h1 h2 _ _=>
   have e1:vs=[]:=zmg.1 h1.symm;have e2:us=[]:=zmg.1 h2.symm;subst e1 e2;rfl
 subst hfn;obtain ⟨he,⟨_,h⟩|⟨g,o,cur,hM,⟨e,fz,h1,h2⟩,hI,hfit,hc⟩⟩:=hS.blk b _ hb
 ·exact absurd (znG.1 h) hne
 rw [zlM] at hfit;obtain ⟨cap,rfl⟩:∃ cap,v1=.slice (some ⟨g,o,none⟩) xs.length cap:=by
  generalize xs.length=n at r1 hn0;cases r1 with
  |sln=>exact absurd hn0 (znH _)
  |sl _ _ _ _ _ g' o' p cap hb' hM' hcl hm hq ha=>
   rw [hM] at hM';simp only [zlJ,zlT] at hM';obtain ⟨rfl,rfl⟩:=hM';obtain ⟨hp,_⟩:=ha tO;subst hp;exact ⟨cap,by simp⟩
 have hgl:=(zlZ.1 h1).1;have hget:∀ i j p v,xs[i]?=some p->(zQk p)[j]?=some v->cur[o+i*3+j]?=some v:=fun i j p v hp hv=>by
  have hcv:(xs.map zl)[i]?=some (zl p):=by rw [zlQ,hp];rfl
  match j,hv with
  |0,hv=>
   cases hv;obtain ⟨u,hu,hr⟩:=hc i 0 (zl p) (zH p.col) hcv rfl;cases hr;exact hu
  |1,hv=>
   cases hv;obtain ⟨u,hu,hr⟩:=hc i 1 (zl p) (zH p.row) hcv rfl;cases hr;exact hu
  |2,hv=>
   cases hv;obtain ⟨u,hu,hr⟩:=hc i 2 (zl p) (.str p.text) hcv rfl;cases hr;exact hu
  |j+3,hv=>simp [zQk] at hv
 have hH:HoldsK zQk 3 w g o xs.toArray:=fun t ht=>by
  rw [size_flatK] at ht;have ht:t<xs.length*3:=by simpa using ht
  obtain ⟨p,hp⟩:∃ p,xs[t/3]?=some p:=⟨_,zlI tO⟩;obtain ⟨v,hv⟩:∃ v,(zQk p)[t%3]?=some v:=⟨_,zlI (by simp [zQk];omega)⟩;have:=hget _ _ p v hp hv;have hf:=(zUs xs.toArray (t/3) (t%3) p v (by simpa using hp) hv).2;rw [show t/3*3+t%3=t by omega] at hf;refine ⟨?_, ?_⟩
  ·rw [hf];simp only [World.cell?,h1];rw [show o+t=o+t/3*3+t%3 by omega];simpa using this
  ·have:=h2 (o+t) tO;simp only [World.frozen?,h1];simpa using this
 refine Calls.mono (zZD g o cap xs hnd w hH hgl hl) ?_;rintro e' w' ⟨rfl,n,os,hw⟩;obtain ⟨q1,q2,q3,q4,q5,q6⟩:=zZE w g o n _ os h1 hw;have hsl:(zJa xs).length=xs.length:=(zKE xs).length_eq;have hsize:(putCells id o (flatK zQk 3 (zJa xs).toArray) cur).size=cur.size:=by simp [putCells]
 refine ⟨_,rfl, ?_⟩;have hsh:∀ s,w.shape? g=some s->w'.shape? g=some s:=fun s hs=>by
  simp only [World.shape?,h1] at hs;simp only [World.shape?,q6,hsize];exact hs
 obtain ⟨M',I',G,S⟩:=zWQ (ys:=(zJa xs).map zl) hS hb hM q1 q2 q3 q4 (fun j hj hn=>q5 j hj hn) hsh (zZF _) ⟨e,fz,q6,by rw [hsize];exact h2⟩ (by rw [zlM,hsl,hsize];exact hfit) (fun i j y c hy hcc=>by
  rw [zlQ] at hy;obtain ⟨p,hp,rfl⟩:=zlN.1 hy;have hil:=(zl_ hp);have put:∀ v,(zQk p)[j]?=some v->(putCells id o (flatK zQk 3 (zJa xs).toArray) cur)[o+i*3+j]?=some v:=fun v hv=>by
   obtain ⟨f1,f2⟩:=zUs (zJa xs).toArray i j p v (by simpa using hp) hv;have hcs:o+i*3+j<cur.size:=by
    rw [size_flatK] at f1;have f1:i*3+j<(zJa xs).length*3:=by simpa using f1
    omega
   simp only [putCells,Array.getElem?_mapIdx,znh hcs,zlW];rw [zlF ⟨by omega,by omega⟩,show o+i*3+j-o=i*3+j by omega,f2];rfl
  match j,hcc with
  |0,hcc=>cases hcc;exact ⟨_,put _ rfl,fun _ _ _=>.int _ _⟩
  |1,hcc=>cases hcc;exact ⟨_,put _ rfl,fun _ _ _=>.int _ _⟩
  |2,hcc=>cases hcc;exact ⟨_,put _ rfl,fun _ _ _=>.str _⟩
  |j+3,hcc=>simp [zl,AV.cells] at hcc)
 exact ⟨M',I',G,S,.tup [] [] rfl fun i c v h _=>by simp at h⟩
end Go.Proofs.YtkeblfepjkdleaaGreatDoor
