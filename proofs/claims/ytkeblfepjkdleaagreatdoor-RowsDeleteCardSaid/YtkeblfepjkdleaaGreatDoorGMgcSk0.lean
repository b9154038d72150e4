/- Several texts of mine in one (Mgc, Sw0, MsL, Am33, Sk0). Own work. -/
import Derived.Test.YtkeblfepjkdleaaGreatDoorProg
import Derived.Test.YtkeblfepjkdleaaGreatDoorGArfMg1
import Derived.WalkKit
import Derived.Handy
import Derived.Sort.WalkC4
import Derived.StillTailTactics
import Derived.Sort.Grow
import Derived.Shelf.SlLaysF0
import Derived.Ground.SlsfProg
import Derived.Ground.NamesProg
import Derived.Test.YtkeblfepjkdleaaGreatDoorGAm30Fp1
import Derived.Shelf.Spec.SlicesInsert
import Derived.Lib.AppendZerosOnto
import Derived.Laws.NewBlocks
set_option linter.all false
set_option maxRecDepth 100000
namespace Go.Proofs.YtkeblfepjkdleaaGreatDoor
open Go.AM Go.RowKit Go.Proofs Go.Sort Go.Lib
theorem zcB (x:Int) (W:World):Calls Tryz.prog 102 #[.int .i64 x] W fun e w'=>e=.returned (.bool false)/\w'=W:=by
 go_enter Tryz.func102,Tryz.ntmps102
 go_wp2
 go_ret
 exact ⟨by simp,rfl⟩
set_option maxHeartbeats 1000000 in
theorem zY9 (x y:Int) (W:World):Calls Tryz.prog 76 #[.int .i64 x,.int .i64 y] W fun e w'=>e=.returned (.int .i64 (zWL x y))/\w'=W:=by
 have hcon:=fun (x:Int) W'=>zcB x W'
 go_enter Tryz.func76,Tryz.ntmps76
 go_wp2_with (go_at_call 102;refine (hcon _ _).mono ?_;rintro e w' ⟨rfl,rfl⟩)
 all_goals (go_ret;refine ⟨?_,rfl⟩;unfold zWL;(repeat' split) <;> first|rfl|(exfalso;omega))
set_option maxHeartbeats 1000000 in
theorem zcC (blk:Nat) (x y:Int) (W:World) (h0:W.cell? ⟨blk,0,none⟩=some (.int .i64 x)) (h1:W.cell? ⟨blk,1,none⟩=some (.int .i64 y)) :
  Calls Tryz.prog 75 #[.slice (some ⟨blk,0,none⟩) 2 2] W fun e w'=>e=.returned (.int .i64 (if x≠0 then x else y))/\w'=W:=by
 by_cases hx:x=0 <;> by_cases hy:y=0
 all_goals
  go_enter Tryz.func75,Tryz.ntmps75
  go_wp2
  go_rounds 3
  all_goals (try go_ret)
 all_goals first|(exfalso;omega)|(refine ⟨?_,rfl⟩;simp [hx,hy];done)|(refine ⟨?_,rfl⟩;simp [hx];done)
theorem zcD (W:World) (a b c d:Value) (t:TypeId) (n:Nat) (W3:World) (h:({ (W.alloc (.cells #[a,b] t)).alloc (.cells #[c,d] t) with drawn:=n }:World)=W3) :
  W3.cell? ⟨W.heap.size,0,none⟩=some a/\W3.cell? ⟨W.heap.size,1,none⟩=some b/\W3.cell? ⟨W.heap.size+1,0,none⟩=some c/\W3.cell? ⟨W.heap.size+1,1,none⟩=some d:=by
 have hh:W3.heap=(W.heap.push (.cells #[a,b] t)).push (.cells #[c,d] t):=by rw [<-h];rfl
 have g0:W3.heap[W.heap.size]?=some (.cells #[a,b] t):=by rw [hh,Array.getElem?_push,Array.size_push,if_neg tO,Array.getElem?_push,if_pos rfl]
 have g1:W3.heap[W.heap.size+1]?=some (.cells #[c,d] t):=by rw [hh,Array.getElem?_push,Array.size_push,if_pos rfl]
 refine ⟨?_, ?_, ?_, ?_⟩
 ·simp only [World.cell?,g0];rfl
 ·simp only [World.cell?,g0];rfl
 ·simp only [World.cell?,g1];rfl
 ·simp only [World.cell?,g1];rfl
theorem zUn (W:World) (a b:Value) (t:TypeId):(W.alloc (.cells #[a,b] t)).cell? ⟨W.heap.size,0,none⟩=some a/\(W.alloc (.cells #[a,b] t)).cell? ⟨W.heap.size,1,none⟩=some b:=by
 have hh:(W.alloc (.cells #[a,b] t)).heap=W.heap.push (.cells #[a,b] t):=rfl;have g0:(W.alloc (.cells #[a,b] t)).heap[W.heap.size]?=some (.cells #[a,b] t):=by rw [hh,Array.getElem?_push,if_pos rfl]
 refine ⟨?_, ?_⟩
 ·simp only [World.cell?,g0];rfl
 ·simp only [World.cell?,g0];rfl
theorem zZA (W:World) (A B X:Obj):({ (W.alloc A).alloc B with drawn:=((W.alloc A).alloc B).drawn+1 }:World).alloc X=grow (W.drewN 1) #[A,B,X]:=by
 have:((W.heap.push A).push B).push X=W.heap++#[A,B,X]:=by apply Array.ext';simp only [Array.toList_push,Array.toList_append,List.append_assoc,List.cons_append,List.nil_append]
 unfold World.alloc grow World.drewN;simp only [this]
set_option maxHeartbeats 2000000 in
theorem zZB (x y:Int×Int) (W:World):Calls Tryz.prog 49 #[.agg #[.int .i64 x.1,.int .i64 x.2],.agg #[.int .i64 y.1,.int .i64 y.2]] W fun e w'=>e=.returned (.int .i64 (zbs x.1 x.2 y.1 y.2))/\∃ q os',w'=grow (W.drewN q) os':=by
 have hcon:=fun (x y:Int) W'=>zY9 x y W'
 go_enter Tryz.func49,Tryz.ntmps49
 go_wp2_with (first|(go_at_call 76;refine (hcon _ _ _).mono ?_;rintro e w' ⟨rfl,rfl⟩))
 obtain ⟨W2,hW2⟩:∃ W2,(W.alloc (.cells #[.int .i64 x.1,.int .i64 x.2] 34)).alloc (.cells #[.int .i64 y.1,.int .i64 y.2] 34)=W2:=⟨_,rfl⟩;rw [hW2];refine wp_region_still_tail 10 (by kernel_rfl) (by kernel_rfl) ?_;simp only [List.take_succ_cons,List.take_zero,List.drop_succ_cons,List.drop_zero];obtain ⟨W3,hW3⟩:∃ W3,({ W2 with drawn:=W2.drawn+1 }:World)=W3:=⟨_,rfl⟩;rw [hW3];obtain ⟨x0,x1,y0,y1⟩:=zcD W _ _ _ _ _ _ W3 (by rw [<-hW3,<-hW2])
 still_step;still_step;still_step;still_step
 still_call (hcon x.2 y.2 _)
 still_step;still_step;still_step;still_step
 still_call (hcon x.1 y.1 _)
 refine wpStill_nil ?_;have hor:=fun (a b:Int) (t:TypeId)=>zcC W3.heap.size a b (W3.alloc (.cells #[.int .i64 a,.int .i64 b] t)) (zUn W3 _ _ t).1 (zUn W3 _ _ t).2
 go_wp2_with (first|(go_at_call 75;refine (hor _ _ _).mono ?_;rintro e w' ⟨rfl,rfl⟩))
 all_goals
  go_ret
  rw [<-hW3,<-hW2,zZA];refine ⟨?_,1,_,rfl⟩;unfold zbs
  simp_all
end Go.Proofs.YtkeblfepjkdleaaGreatDoor
namespace Go.AM
def ltF (a b:Fil):Prop:=a.row<b.row\/(a.row=b.row/\a.col<b.col)
instance (a b:Fil):Decidable (ltF a b):=by unfold ltF;infer_instance
def zTG (f:Fil) (l:List Fil):List Fil:=l.takeWhile (fun g=>decide (ltF g f))++f::l.dropWhile (fun g=>decide (ltF g f))
def zJa (l:List Fil):List Fil:=l.foldl (fun o f=>zTG f o) []
theorem zQU (f:Fil) (l:List Fil):(zTG f l).Perm (l++[f]):=by
 unfold zTG;have h:=List.takeWhile_append_dropWhile (p:=fun g=>decide (ltF g f)) (l:=l)
 conv=>rhs;rw [<-h]
 rw [List.append_assoc];exact List.Perm.append_left _ ((List.perm_append_singleton _ _).symm)
theorem zUo:∀ (l o:List Fil),(l.foldl (fun o f=>zTG f o) o).Perm (o++l)
 |[],o=>by simp
 |f::l,o=>by
  refine (zUo l (zTG f o)).trans ?_;refine ((zQU f o).append_right l).trans ?_;rw [List.append_assoc];exact List.Perm.refl _
theorem zKE (l:List Fil):(zJa l).Perm l:=zUo l []
theorem zUp {a b c:Fil} (h:ltF a b) (k:ltF b c):ltF a c:=by unfold ltF at *;omega
theorem zgs {a b:Fil} (h:zLh a≠zLh b):ltF a b\/ltF b a:=by
 have:¬ (a.col=b.col/\a.row=b.row):=fun ⟨x,y⟩=>h (Prod.ext x y);unfold ltF;omega
theorem zUq {f:Fil}:∀ {l:List Fil},Srtd l->(∀ g∈l,zLh g≠zLh f)->Srtd (zTG f l)
 |[],_,_=>List.pairwise_singleton _ _
 |g::l,h,hn=>by
  have hp:=List.pairwise_cons.1 h;have hg:=hn g (List.mem_cons_self ..);by_cases e:ltF g f
  ·have ih:=zUq hp.2 fun x hx=>hn x (List.mem_cons_of_mem _ hx);have:zTG f (g::l)=g::zTG f l:=by
    unfold zTG;rw [List.takeWhile_cons_of_pos (by simpa using e),List.dropWhile_cons_of_pos (by simpa using e)];rfl
   rw [this];refine List.pairwise_cons.2 ⟨fun x hx=>?_,ih⟩;have hx:=(zQU f l).mem_iff.1 hx;rcases List.mem_append.1 hx with hx|hx
   ·exact hp.1 x hx
   ·rw [List.mem_singleton.1 hx];exact e
  ·have:zTG f (g::l)=f::g::l:=by
    unfold zTG;rw [List.takeWhile_cons_of_neg (by simpa using e),List.dropWhile_cons_of_neg (by simpa using e)];rfl
   rw [this];have hfg:ltF f g:=(zgs hg).resolve_left e;refine List.pairwise_cons.2 ⟨fun x hx=>?_,h⟩;rcases List.mem_cons.1 hx with rfl|hx
   ·exact hfg
   ·exact zUp hfg (hp.1 x hx)
theorem zUr:∀ (l o:List Fil),Srtd o->((o++l).map zLh).Nodup->Srtd (l.foldl (fun o f=>zTG f o) o)
 |[],o,h,_=>h
 |f::l,o,h,hn=>by
  have hn2:((zTG f o++l).map zLh).Nodup:=by
   refine (List.Perm.nodup_iff (List.Perm.map zLh (((zQU f o).append_right l).trans ?_))).2 hn;rw [List.append_assoc];exact List.Perm.refl _
  refine zUr l (zTG f o) (zUq h fun g hg e=>?_) hn2;rw [List.map_append,List.map_cons] at hn;have h1:=(List.nodup_append.1 hn).2.2;exact h1 _ (List.mem_map_of_mem hg) _ (by simp) e
theorem zcE {l:List Fil} (h:(l.map zLh).Nodup):Srtd (zJa l):=zUr l [] List.Pairwise.nil (by simpa using h)
theorem zWP {a b:List Fil} (hp:a.Perm b) (ha:Srtd a) (hb:Srtd b):a=b:=
 List.Perm.eq_of_pairwise (le:=ltF) (fun p q _ _ h k=>by exfalso;unfold ltF at *;omega) ha hb hp
theorem zZC {l:List Fil} (h:Srtd l):(l.map zLh).Nodup:=by
 unfold List.Nodup;rw [List.pairwise_map];refine h.imp fun {a b} h e=>?_;have e1:a.col=b.col:=congrArg Prod.fst e;have e2:a.row=b.row:=congrArg Prod.snd e;omega
end Go.AM
namespace Go.Proofs
open Go.Shelf
def Tryz.ownSort_ren:Go.Shelf.Ren:=⟨fun|6=>54|15=>89|14=>88|28=>127|29=>128|20=>119|21=>120|22=>121|23=>122|24=>123|25=>124|26=>125|27=>126|46=>146|47=>147|48=>148|49=>149|50=>150|57=>180|n=>n,fun|22=>22|24=>36|25=>101|3=>3|39=>144|0=>0|53=>182|55=>184|4=>4|46=>176|45=>175|50=>159|5=>5|9=>9|66=>212|70=>48|76=>239|77=>240|n=>n,fun|n=>n⟩
theorem Tryz.ownSort:Go.Proofs.SlLaysF0.n6 Tryz.prog Tryz.ownSort_ren:={
 mixed:=by kernel_rfl
 f6:=⟨Tryz.f54.name,by decide,Tryz.func54.trans (congrArg some (by kernel_rfl))⟩
 f14:=⟨Tryz.f88.name,by decide,Tryz.func88.trans (congrArg some (by kernel_rfl))⟩
 f15:=Tryz.func89.trans (congrArg some (by kernel_rfl))
 f20:=⟨Tryz.f119.name,by decide,Tryz.func119.trans (congrArg some (by kernel_rfl))⟩
 f21:=⟨Tryz.f120.name,by decide,Tryz.func120.trans (congrArg some (by kernel_rfl))⟩
 f22:=⟨Tryz.f121.name,by decide,Tryz.func121.trans (congrArg some (by kernel_rfl))⟩
 f23:=⟨Tryz.f122.name,by decide,Tryz.func122.trans (congrArg some (by kernel_rfl))⟩
 f24:=⟨Tryz.f123.name,by decide,Tryz.func123.trans (congrArg some (by kernel_rfl))⟩
 f25:=⟨Tryz.f124.name,by decide,Tryz.func124.trans (congrArg some (by kernel_rfl))⟩
 f26:=⟨Tryz.f125.name,by decide,Tryz.func125.trans (congrArg some (by kernel_rfl))⟩
 f27:=⟨Tryz.f126.name,by decide,Tryz.func126.trans (congrArg some (by kernel_rfl))⟩
 f28:=Tryz.func127.trans (congrArg some (by kernel_rfl))
 f29:=Tryz.func128.trans (congrArg some (by kernel_rfl))
 f46:=⟨Tryz.f146.name,by decide,Tryz.func146.trans (congrArg some (by kernel_rfl))⟩
 f47:=Tryz.func147.trans (congrArg some (by kernel_rfl))
 f48:=Tryz.func148.trans (congrArg some (by kernel_rfl))
 f49:=⟨Tryz.f149.name,by decide,Tryz.func149.trans (congrArg some (by kernel_rfl))⟩
 f50:=⟨Tryz.f150.name,by decide,Tryz.func150.trans (congrArg some (by kernel_rfl))⟩
 f57:=⟨Tryz.f180.name,by decide,Tryz.func180.trans (congrArg some (by kernel_rfl))⟩
 t0:=Tryz.underlying0
 a0:=Tryz.isAgg0
 z0:=Tryz.sizeOf0
 v0:=Tryz.zeroValue0
 t3:=Tryz.underlying3
 a3:=Tryz.isAgg3
 z3:=Tryz.sizeOf3
 v3:=Tryz.zeroValue3
 t4:=Tryz.underlying4
 a4:=Tryz.isAgg4
 z4:=Tryz.sizeOf4
 v4:=Tryz.zeroValue4
 t5:=Tryz.underlying5
 a5:=Tryz.isAgg5
 z5:=Tryz.sizeOf5
 v5:=Tryz.zeroValue5
 t9:=Tryz.underlying9
 a9:=Tryz.isAgg9
 z9:=Tryz.sizeOf9
 v9:=Tryz.zeroValue9
 t22:=Tryz.underlying22
 a22:=Tryz.isAgg22
 z22:=Tryz.sizeOf22
 v22:=Tryz.zeroValue22
 t25:=Tryz.underlying101
 a25:=Tryz.isAgg101
 z25:=Tryz.sizeOf101
 v25:=Tryz.zeroValue101
 t39:=Tryz.underlying144
 a39:=Tryz.isAgg144
 z39:=Tryz.sizeOf144
 v39:=Tryz.zeroValue144
 t45:=Tryz.underlying175
 a45:=Tryz.isAgg175
 z45:=Tryz.sizeOf175
 v45:=Tryz.zeroValue175
 t46:=Tryz.underlying176
 a46:=Tryz.isAgg176
 z46:=Tryz.sizeOf176
 v46:=Tryz.zeroValue176
 t50:=Tryz.underlying159
 a50:=Tryz.isAgg159
 z50:=Tryz.sizeOf159
 v50:=Tryz.zeroValue159
 t53:=Tryz.underlying182
 a53:=Tryz.isAgg182
 z53:=Tryz.sizeOf182
 v53:=Tryz.zeroValue182
 t55:=Tryz.underlying184
 a55:=Tryz.isAgg184
 z55:=Tryz.sizeOf184
 v55:=Tryz.zeroValue184
 t66:=Tryz.underlying212
 a66:=Tryz.isAgg212
 z66:=Tryz.sizeOf212
 v66:=Tryz.zeroValue212
 t70:=Tryz.underlying48
 a70:=Tryz.isAgg48
 z70:=Tryz.sizeOf48
 v70:=Tryz.zeroValue48
 t76:=Tryz.underlying239
 a76:=Tryz.isAgg239
 z76:=Tryz.sizeOf239
 v76:=Tryz.zeroValue239
 t77:=Tryz.underlying240
 a77:=Tryz.isAgg240
 z77:=Tryz.sizeOf240
 v77:=Tryz.zeroValue240 }
end Go.Proofs
namespace Go.AM
section
variable {P:Program} {GT:Nat->Option AV} {w w':World} {M:AMap} {I:Nat->Prop} {H:Heap}
theorem Sim.mut_at (hS:Sim GT w M I H) {b:Nat} {x:ABlk} (hb:H[b]?=some x) (hm:x.mut=true) {g o:Nat} (hM:M b=some (g,o)):∃ _cur:Array Value,True/\¬ I g/\g<w.heap.size:=by
 have h:=hS.blk b x hb;cases x with
 |dead=>simp [ABlk.mut] at hm
 |shp=>simp [ABlk.mut] at hm
 |ty=>simp [ABlk.mut] at hm
 |hd=>simp [ABlk.mut] at hm
 |frz=>simp [ABlk.mut] at hm
 |box cs=>
  obtain ⟨g1,o1,cur,h1,h2,h3,_⟩:=h;rw [hM] at h1;cases h1;obtain ⟨e,fz,h4,h5⟩:=h2;exact ⟨cur,trivial,h3,(Array.getElem?_eq_some_iff.1 h4).1⟩
 |row k xs=>
  obtain ⟨_,⟨h1,_⟩|⟨g1,o1,cur,h1,h2,h3,_⟩⟩:=h
  ·rw [hM] at h1;cases h1
  ·rw [hM] at h1;cases h1;obtain ⟨e,fz,h4,h5⟩:=h2;exact ⟨cur,trivial,h3,(Array.getElem?_eq_some_iff.1 h4).1⟩
theorem zR0 (hS:Sim GT w M I H) {b:Nat} {x:ABlk} (hb:H[b]?=some x) (hm:x.mut=true) {g o:Nat} (hM:M b=some (g,o)) (hos:w'.os=w.os) (htape:w'.tape=w.tape) (hout:w'.output=w.output) (hsize:w.heap.size<=w'.heap.size)
  (hfr:∀ j,j<w.heap.size->j≠g->w'.heap[j]?=w.heap[j]?) (hshape:∀ s,w.shape? g=some s->w'.shape? g=some s) {y:ABlk} {G:Nat->Prop} (hG:∀ j,G j->(j=g/\y.mut=false)\/w.heap.size<=j) (hGl:∀ j,G j->j<w'.heap.size)
  (hy:zO9 w' M (fun j=>I j\/G j) H.length b y) :
  Grow w M I H w' M (fun j=>I j\/G j) (H.set b y)/\Sim GT w' M (fun j=>I j\/G j) (H.set b y):=by
 obtain ⟨cur,hcur,hnI,hglt⟩:=hS.mut_at hb hm hM;have hblt:=(zg hb).1;have live:zKq H M g:=⟨b,x,o,hb,hm,hM⟩;have shp:∀ j s,w.shape? j=some s->w'.shape? j=some s:=fun j s hs=>by
  by_cases hj:j=g
  ·subst hj;exact hshape s hs
  ·have hlt:j<w.heap.size:=by
    rcases Nat.lt_or_ge j w.heap.size with h|h
    ·exact h
    ·simp [World.shape?,Array.getElem?_eq_none h] at hs
   rw [zBm (hfr j hlt hj)];exact hs
 have hIh:∀ k,I k->w'.heap[k]?=w.heap[k]?:=fun k hk=>hfr k (hS.idom k hk) (fun e=>hnI (e ▸ hk));have other:∀ b' x',(H.set b y)[b']?=some x'->b'≠b->H[b']?=some x':=fun b' x' h hne=>by rwa [List.getElem?_set_ne (Ne.symm hne)] at h
 have at_b:(H.set b y)[b]?=some y:=List.getElem?_set_self hblt;refine ⟨⟨hos,htape,hout,hsize,fun _ _=>rfl,fun _ h=>.inl h,fun j hj hlt=>?_,fun j hlt hn=>hfr j hlt (fun e=>hn (e ▸ live)),fun j hlt hl=>?_,shp,by rw [List.length_set];exact Nat.le_refl _⟩, ?_⟩
 ·rcases hj with hj|hj
  ·exact .inl hj
  ·rcases hG j hj with ⟨rfl,_⟩|h
   ·exact .inr live
   ·omega
 ·obtain ⟨b',x',o',h1,h2,h3⟩:=hl;by_cases e:b'=b
  ·subst e;rw [hM] at h3;cases h3;exact live
  ·exact ⟨b',x',o',other b' x' h1 e,h2,h3⟩
 ·refine ⟨fun q z hz=>?_,fun k hk=>?_,fun b' x' hx=>?_,fun b1 b2 x1 x2 g1 o1 o2 h1 m1 h2 m2 e1 e2=>?_,fun q z hz=>?_⟩
  ·exact (hS.glob q z hz).mono (M':=M) (n:=0) (fun _ h=>.inl h) hIh (fun _ h=>absurd h (Nat.not_lt_zero _)) (Nat.zero_le _) shp
  ·rcases hk with hk|hk
   ·exact Nat.lt_of_lt_of_le (hS.idom k hk) hsize
   ·exact hGl k hk
  ·rw [List.length_set];by_cases e:b'=b
   ·subst e;rw [at_b] at hx;cases hx;exact hy
   ·have hx':=other b' x' hx e;have far:∀ g1 o1,M b'=some (g1,o1)->x'.mut=true->g1≠g/\g1<w.heap.size:=fun g1 o1 h1 hm1=>by
     refine ⟨fun eg=>?_,(hS.mut_at hx' hm1 h1).choose_spec.2.2⟩;subst eg;exact e (hS.inj b' b x' x g1 o1 o hx' hm1 hb hm h1 hM)
    refine (hS.blk b' x' hx').mono (zg hx').1 (fun _ h=>.inl h) hIh (fun _ _=>rfl) (Nat.le_refl _) shp (fun g1 o1 h1 hm1=>?_) (fun g1 o1 h1 hm1 hn=>?_)
    ·exact hfr g1 (far g1 o1 h1 hm1).2 (far g1 o1 h1 hm1).1
    ·rintro (h|h)
     ·exact hn h
     ·rcases hG g1 h with ⟨rfl,_⟩|h'
      ·exact (far _ o1 h1 hm1).1 rfl
      ·have:=(far g1 o1 h1 hm1).2;omega
  ·have key:∀ {b1 b2:Nat} {x1 x2:ABlk} {g1 o1 o2:Nat},(H.set b y)[b1]?=some x1->x1.mut=true->(H.set b y)[b2]?=some x2->x2.mut=true->M b1=some (g1,o1)->M b2=some (g1,o2)->b1=b->b2=b:=by
    intro b1 b2 x1 x2 g1 o1 o2 h1 m1 h2 m2 e1 e2 e;subst e;by_cases e':b2=b1
    ·exact e'
    ·rw [hM] at e1;cases e1;exact hS.inj b2 b1 x2 x g o2 o (other b2 x2 h2 e') m2 hb hm e2 hM
   by_cases c1:b1=b
   ·exact c1.trans (key h1 m1 h2 m2 e1 e2 c1).symm
   ·by_cases c2:b2=b
    ·exact absurd (key h2 m2 h1 m1 e2 e1 c2) c1
    ·exact hS.inj b1 b2 x1 x2 g1 o1 o2 (other b1 x1 h1 c1) m1 (other b2 x2 h2 c2) m2 e1 e2
  ·obtain ⟨e,h⟩:=hS.shp q z hz;exact ⟨e,shp q _ h⟩
theorem zWQ (hS:Sim GT w M I H) {b k:Nat} {xs:List AV} (hb:H[b]?=some (.row k xs)) {g o:Nat} (hM:M b=some (g,o)) (hos:w'.os=w.os) (htape:w'.tape=w.tape) (hout:w'.output=w.output) (hsize:w.heap.size<=w'.heap.size)
  (hfr:∀ j,j<w.heap.size->j≠g->w'.heap[j]?=w.heap[j]?) (hshape:∀ s,w.shape? g=some s->w'.shape? g=some s) {ys:List AV} (he:Elems k ys) {cur':Array Value} (hcur:Cells w' g cur' k) (hfit:o+ys.length*k<=cur'.size)
  (hcells:∀ i j y c,ys[i]?=some y->y.cells[j]?=some c->∃ v,cur'[o+i*k+j]?=some v/\∀ M I n,Rel w' M I n c v) :
  ∃ M' I',Grow w M I H w' M' I' (H.set b (.row k ys))/\Sim GT w' M' I' (H.set b (.row k ys)):=by
 obtain ⟨_,_,hnI,_⟩:=hS.mut_at hb rfl hM;obtain ⟨h1,h2⟩:=zR0 (y:=.row k ys) (G:=fun _=>False) hS hb rfl hM hos htape hout hsize hfr hshape (fun _ hj=>hj.elim) (fun _ hj=>hj.elim) ⟨he,.inr ⟨g,o,cur',hM,hcur,by simpa using hnI,hfit,fun i j x c hx hj=>by
  obtain ⟨v,e1,e2⟩:=hcells i j x c hx hj;exact ⟨v,e1,e2 _ _ _⟩⟩⟩
 exact ⟨M,_,h1,h2⟩
end
end Go.AM
namespace Go.AM
open Go Go.Lib Go.Proofs
end Go.AM
