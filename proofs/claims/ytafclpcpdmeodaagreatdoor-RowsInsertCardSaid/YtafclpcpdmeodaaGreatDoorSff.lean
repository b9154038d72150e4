/- slices.SortFunc of cells with texts, by their cells, by the kit's shelf: the row holds the same, sorted. A contract shown by hand. Own work. -/
import Derived.Test.YtafclpcpdmeodaaGreatDoorGMgcSk0
import Derived.Test.YtafclpcpdmeodaaGreatDoorSk1
import Derived.Shelf.SlSortCmp.WholeK
set_option linter.all false
set_option maxRecDepth 100000
namespace Go.Proofs.YtafclpcpdmeodaaGreatDoor
open Go.AM Go.Shelf Go.RowKit Go.Lib Go.Sort Go.Proofs
instance:Inhabited Fil:=⟨⟨0,0,[]⟩⟩
def encF (x:Fil):List Value:=[.int .i64 x.col,.int .i64 x.row,.string ⟨x.text.toArray⟩]
def cfF (x y:Fil):Int:=cmpC x.col x.row y.col y.row
theorem grow_two (W:World) (A B:Obj) (q:Nat) (os:Array Obj):grow (((W.alloc A).alloc B).drewN q) os=grow (W.drewN q) (#[A,B]++os):=by
 have:((W.heap.push A).push B)++os=W.heap++(#[A,B]++os):=by apply zSI;simp
 unfold World.alloc grow World.drewN;simp only [this]
set_option maxHeartbeats 2000000 in
theorem sclos_calls (x y:Fil) (W:World):Calls Tryz.prog 53 #[.agg #[.int .i64 x.col,.int .i64 x.row,.string ⟨x.text.toArray⟩],.agg #[.int .i64 y.col,.int .i64 y.row,.string ⟨y.text.toArray⟩]] W fun e w'=>e=.returned (.int .i64 (cfF x y))/\∃ q os',w'=grow (W.drewN q) os':=by
 have hcon:=fun (p q:Int×Int) W'=>acmp_calls p q W'
 go_enter Tryz.func53,Tryz.ntmps53
 go_wp2_with (first|(go_at_call 47;refine (hcon (x.col,x.row) (y.col,y.row) _).mono ?_;rintro e w' ⟨rfl,q,os',rfl⟩))
 go_ret
 exact ⟨rfl,q,_,grow_two _ _ _ _ _⟩
theorem ltF_of (x y:Fil):ltOf cfF x y=decide (ltF x y):=by
 unfold ltOf cfF;rw [zRr,cmpC_lt];rfl
theorem swoF:SWO (ltOf cfF) where
 irrefl x:=by rw [ltF_of];exact tF (by unfold ltF;omega)
 trans x y z h1 h2:=by rw [ltF_of] at *;simp only [zQf] at *;exact ltF_trans h1 h2
 ntrans x y z h1 h2:=by rw [ltF_of] at *;simp only [zRa] at *;unfold ltF at *;omega
theorem cmp_lays (blk off size:Nat) (w:World):CmpLays Tryz.prog 53 #[] encF 3 cfF blk off size w:=fun _ _ _ _ x y=>sclos_calls x y _
theorem sort_calls (blk off cap:Nat) (d:List Fil) (hnd:(d.map zLR).Nodup) (w:World) (hH:HoldsK encF 3 w blk off d.toArray) (hblk:blk<w.heap.size) (hsz:d.length<=1000) :
  Calls Tryz.prog 52 #[.slice (some ⟨blk,off,none⟩) d.length cap,.func (.func 53) #[] #[]] w fun e w'=>e=.returned (.tuple #[])/\∃ n os,w'=sortWorldK encF 3 w blk off n (zJJ d).toArray os:=by
 have eg:∀ args w,(callFunc 53 args).run Tryz.prog w=.ok (.enter 53 args) w:=enters_of Tryz.func53 (by kernel_rfl) rfl;have hcon:=AnyQ.slices_SortFunc Tryz.ownSort 3 (by intro w;kernel_rfl) (by intro w;kernel_rfl) encF (fun _=>rfl) (fun x v hv=>by simp [encF] at hv;rcases hv with rfl|rfl|rfl <;> rfl) cfF swoF 53 #[] blk off cap d.toArray w eg (cmp_lays blk off _ w) hH hblk (by simp;omega);refine hcon.mono ?_;rintro e w' ⟨he,d',n,os,hp,hs,hw⟩;refine ⟨he,n,os, ?_⟩;have hsz':d'.size=d.length:=by simpa using hp.1
 have hperm:d'.toList.Perm d:=by
  have:=hp.2.2;have x1:d'.extract 0 d.toArray.size=d':=by apply zSI ; simp [<-hsz']
  have x2:d.toArray.extract 0 d.toArray.size=d.toArray:=by apply zSI;simp
  rw [x1,x2] at this;simpa using this
 have hnd':(d'.toList.map zLR).Nodup:=(List.Perm.nodup_iff (hperm.map zLR)).2 hnd;have e1:d'.toList=zJJ d:=by
  refine srtd_unique (hperm.trans (zJx d).symm) ?_ (ordF_srtd hnd);have hg:d'.toList.Pairwise fun a b=>¬ ltF b a/\zLR a≠zLR b:=by
   rw [List.pairwise_iff_getElem];intro i j hi hj hij;have hi':i<d'.size:=by simpa using hi
   have hj':j<d'.size:=by simpa using hj
   have h1:=hs i j (zRG _) hij (by simpa [hsz'] using hj);rw [ltF_of,zRa] at h1;rw [getElem!_pos d' i hi',getElem!_pos d' j hj'] at h1;refine ⟨by simpa only [Array.getElem_toList] using h1,fun e=>?_⟩;have h2:=(List.pairwise_iff_getElem.1 hnd') i j (by simpa using hi) (by simpa using hj) hij;rw [List.getElem_map,List.getElem_map] at h2;exact h2 e
  exact hg.imp fun {a b} h=>(ltF_or h.2).resolve_right h.1
 rw [hw,<-e1]
theorem sort_world (w:World) (blk off n:Nat) (dk:Array Fil) (os:Array Obj) {cur:Array Value} {e:TypeId} {fz:Nat×Nat} (hg:w.heap[blk]?=some (.cells cur e fz)) {w':World} (h:w'=sortWorldK encF 3 w blk off n dk os) :
  w'.os=w.os/\w'.tape=w.tape/\w'.output=w.output/\w.heap.size<=w'.heap.size/\(∀ j,j<w.heap.size->j≠blk->w'.heap[j]?=w.heap[j]?)/\w'.heap[blk]?=some (.cells (putCells id off (flatK encF 3 dk) cur) e fz):=by
 subst h;have hh:(sortWorldK encF 3 w blk off n dk os).heap=w.heap.modify blk (onCells (putCells id off (flatK encF 3 dk)))++os:=rfl;have hlt:=(zQi.1 hg).1;refine ⟨rfl,rfl,rfl,by rw [hh];simp,fun j hj hne=>?_, ?_⟩
 ·rw [hh,zRi (by simpa using hj),zRm,zQN (zRH hne)]
 ·rw [hh,zRi (by simpa using hlt),zRm,zQQ rfl,hg];rfl
theorem filV_elems (l:List Fil):Elems 3 (l.map zl):=by
 intro x hx;obtain ⟨f,_,rfl⟩:=zRx.1 hx;rfl
theorem flat_get3 (d:Array Fil) (i j:Nat) (p:Fil) (v:Value) (hp:d[i]?=some p) (hv:(encF p)[j]?=some v):i*3+j<(flatK encF 3 d).size/\(flatK encF 3 d)[i*3+j]! = v:=by
 have hi:=(zQi.1 hp).1;have hj:j<3:=by have:=(zg hv).1;simpa [encF] using this
 have hlt:i*3+j<d.size*3:=by omega
 refine ⟨by rw [size_flatK];exact hlt, ?_⟩;rw [get_flatK _ _ _ _ hlt,show (i*3+j)/3=i by omega,show (i*3+j)%3=j by omega,getElem!_pos d i hi,(zQi.1 hp).2];obtain ⟨h1,h2⟩:=zg hv;rw [getElem!_pos (encF p) j h1,h2]
theorem good_sort {GT:Nat->Option AV} (b:Nat) (xs:List Fil) (H:Heap) (hb:H[b]?=some (.row 3 (xs.map zl))) (hne:xs≠[]) (hl:xs.length<=1000) (hnd:(xs.map zLR).Nodup) :
  Go.AM.Good Tryz.prog GT 52 [.sl (some true) b 3 0 xs.length,.fn 53 [] []] H (.tup []) (H.set b (.row 3 ((zJJ xs).map zl))):=by
 refine zFM Tryz.func52 (by kernel_rfl) (by kernel_rfl) rfl fun w M I cargs hS hA=>?_;obtain ⟨v1,v2,rfl,r1,r2⟩:=relL_two hA;have hn0:0<xs.length:=zSQ.2 hne;have hfn:v2=.func (.func 53) #[] #[]:=by
  cases r2 with
  |fn _ _ _ vs us h1 h2 _ _=>
   have e1:vs=[]:=zRq.1 h1.symm;have e2:us=[]:=zRq.1 h2.symm;subst e1 e2;rfl
 subst hfn;obtain ⟨he,⟨_,h⟩|⟨g,o,cur,hM,⟨e,fz,h1,h2⟩,hI,hfit,hc⟩⟩:=hS.blk b _ hb
 ·exact absurd (zSR.1 h) hne
 rw [zQW] at hfit;obtain ⟨cap,rfl⟩:∃ cap,v1=.slice (some ⟨g,o,none⟩) xs.length cap:=by
  generalize xs.length=n at r1 hn0;cases r1 with
  |sln=>exact absurd hn0 (zSS _)
  |sl _ _ _ _ _ g' o' p cap hb' hM' hcl hm hq ha=>
   rw [hM] at hM';simp only [zQT,zQd] at hM';obtain ⟨rfl,rfl⟩:=hM';obtain ⟨hp,_⟩:=ha tO;subst hp;exact ⟨cap,by simp⟩
 have hgl:=(zQi.1 h1).1;have hget:∀ i j p v,xs[i]?=some p->(encF p)[j]?=some v->cur[o+i*3+j]?=some v:=fun i j p v hp hv=>by
  have hcv:(xs.map zl)[i]?=some (zl p):=by rw [zQa,hp];rfl
  match j,hv with
  |0,hv=>
   cases hv;obtain ⟨u,hu,hr⟩:=hc i 0 (zl p) (zJ p.col) hcv rfl;cases hr;exact hu
  |1,hv=>
   cases hv;obtain ⟨u,hu,hr⟩:=hc i 1 (zl p) (zJ p.row) hcv rfl;cases hr;exact hu
  |2,hv=>
   cases hv;obtain ⟨u,hu,hr⟩:=hc i 2 (zl p) (.str p.text) hcv rfl;cases hr;exact hu
  |j+3,hv=>simp [encF] at hv
 have hH:HoldsK encF 3 w g o xs.toArray:=fun t ht=>by
  rw [size_flatK] at ht;have ht:t<xs.length*3:=by simpa using ht
  obtain ⟨p,hp⟩:∃ p,xs[t/3]?=some p:=⟨_,zQS tO⟩;obtain ⟨v,hv⟩:∃ v,(encF p)[t%3]?=some v:=⟨_,zQS (by simp [encF];omega)⟩;have:=hget _ _ p v hp hv;have hf:=(flat_get3 xs.toArray (t/3) (t%3) p v (by simpa using hp) hv).2;rw [show t/3*3+t%3=t by omega] at hf;refine ⟨?_, ?_⟩
  ·rw [hf];simp only [World.cell?,h1];rw [show o+t=o+t/3*3+t%3 by omega];simpa using this
  ·have:=h2 (o+t) tO;simp only [World.frozen?,h1];simpa using this
 refine Calls.mono (sort_calls g o cap xs hnd w hH hgl hl) ?_;rintro e' w' ⟨rfl,n,os,hw⟩;obtain ⟨q1,q2,q3,q4,q5,q6⟩:=sort_world w g o n _ os h1 hw;have hsl:(zJJ xs).length=xs.length:=(zJx xs).length_eq;have hsize:(putCells id o (flatK encF 3 (zJJ xs).toArray) cur).size=cur.size:=by simp [putCells]
 refine ⟨_,rfl, ?_⟩;have hsh:∀ s,w.shape? g=some s->w'.shape? g=some s:=fun s hs=>by
  simp only [World.shape?,h1] at hs;simp only [World.shape?,q6,hsize];exact hs
 obtain ⟨M',I',G,S⟩:=row_written (ys:=(zJJ xs).map zl) hS hb hM q1 q2 q3 q4 (fun j hj hn=>q5 j hj hn) hsh (filV_elems _) ⟨e,fz,q6,by rw [hsize];exact h2⟩ (by rw [zQW,hsl,hsize];exact hfit) (fun i j y c hy hcc=>by
  rw [zQa] at hy;obtain ⟨p,hp,rfl⟩:=zQX.1 hy;have hil:=(zg hp).1;have put:∀ v,(encF p)[j]?=some v->(putCells id o (flatK encF 3 (zJJ xs).toArray) cur)[o+i*3+j]?=some v:=fun v hv=>by
   obtain ⟨f1,f2⟩:=flat_get3 (zJJ xs).toArray i j p v (by simpa using hp) hv;have hcs:o+i*3+j<cur.size:=by
    rw [size_flatK] at f1;have f1:i*3+j<(zJJ xs).length*3:=by simpa using f1
    omega
   simp only [putCells,Array.getElem?_mapIdx,zSq hcs,zQg];rw [zQQ ⟨by omega,by omega⟩,show o+i*3+j-o=i*3+j by omega,f2];rfl
  match j,hcc with
  |0,hcc=>cases hcc;exact ⟨_,put _ rfl,fun _ _ _=>.int _ _⟩
  |1,hcc=>cases hcc;exact ⟨_,put _ rfl,fun _ _ _=>.int _ _⟩
  |2,hcc=>cases hcc;exact ⟨_,put _ rfl,fun _ _ _=>.str _⟩
  |j+3,hcc=>simp [zl,AV.cells] at hcc)
 exact ⟨M',I',G,S,.tup [] [] rfl fun i c v h _=>by simp at h⟩
end Go.Proofs.YtafclpcpdmeodaaGreatDoor
