/- Several texts of mine in one (Hgc, MsL, Am23, Am24, Am33). Own work. -/
import Derived.Test.YtcnogafgcfidnaaGreatDoorProg
import Derived.Test.YtcnogafgcfidnaaGreatDoorGCmpTwo
import Derived.WalkKit
import Derived.Handy
import Derived.Sort.WalkC4
import Derived.StillTailTactics
import Derived.Sort.Grow
import Derived.Laws.Cover1
import Derived.Shelf.SlLaysF0
import Derived.Ground.SlsfProg
import Derived.Ground.NamesProg
import Derived.Test.YtcnogafgcfidnaaGreatDoorGAm22Am30
import Derived.Below
import Derived.WideShapes
set_option linter.all false
set_option maxRecDepth 100000
namespace Go.Proofs.YtcnogafgcfidnaaGreatDoor
open Go.AM Go.RowKit Go.Proofs Go.Sort Go.Lib
theorem zNn (x : Int) (W : World) : Calls Tryz.prog 60 #[.int .i64 x] W fun e w'=>e = .returned (.bool false) ∧ w' = W:=by
 go_enter Tryz.func60,Tryz.ntmps60
 go_wp2
 go_ret
 exact ⟨by simp,rfl⟩
theorem zMD (x : List UInt8) (W : World) : Calls Tryz.prog 61 #[.string ⟨x.toArray⟩] W fun e w'=>e = .returned (.bool false) ∧ w' = W:=by
 go_enter Tryz.func61,Tryz.ntmps61
 go_wp2
 go_ret
 exact ⟨by simp,rfl⟩
set_option maxHeartbeats 1000000 in
theorem zME (x y : Int) (W : World) : Calls Tryz.prog 34 #[.int .i64 x,.int .i64 y] W fun e w'=>e = .returned (.int .i64 (zK7 x y)) ∧ w' = W:=by
 have hcon:=fun (x : Int) W'=>zNn x W'
 go_enter Tryz.func34,Tryz.ntmps34
 go_wp2_with (go_at_call 60; refine (hcon _ _).mono ?_; rintro e w' ⟨rfl,rfl⟩)
 all_goals (go_ret; refine ⟨?_,rfl⟩; unfold zK7; (repeat' split) <;> first | rfl | (exfalso; omega))
set_option maxHeartbeats 1000000 in
theorem zMF (x y : List UInt8) (W : World) : Calls Tryz.prog 35 #[.string ⟨x.toArray⟩,.string ⟨y.toArray⟩] W fun e w'=>e = .returned (.int .i64 (zMZ x y)) ∧ w' = W:=by
 have hcon:=fun (x : List UInt8) W'=>zMD x W'
 go_enter Tryz.func35,Tryz.ntmps35
 go_wp2_with (go_at_call 61; refine (hcon _ _).mono ?_; rintro e w' ⟨rfl,rfl⟩)
 all_goals (go_ret; refine ⟨?_,rfl⟩; unfold zMZ; simp_all)
set_option maxHeartbeats 2000000 in
theorem zNo (blk : Nat) (x y z : Int) (W : World) (h0 : W.cell? ⟨blk,0,none⟩ = some (.int .i64 x)) (h1 : W.cell? ⟨blk,1,none⟩ = some (.int .i64 y)) (h2 : W.cell? ⟨blk,2,none⟩ = some (.int .i64 z)) :
  Calls Tryz.prog 33 #[.slice (some ⟨blk,0,none⟩) 3 3] W fun e w'=>e = .returned (.int .i64 (orI [x,y,z])) ∧ w' = W:=by
 have hO : orI [x,y,z] = if x ≠ 0 then x else if y ≠ 0 then y else z:=by
  unfold orI orI orI orI
  by_cases hx : x = 0 <;> by_cases hy : y = 0 <;> by_cases hz : z = 0 <;> simp [hx,hy,hz]
 rw [hO]
 by_cases hx : x = 0 <;> by_cases hy : y = 0 <;> by_cases hz : z = 0
 all_goals
  go_enter Tryz.func33,Tryz.ntmps33
  go_wp2
  go_rounds 4
  all_goals (try go_ret)
 all_goals first | (exfalso; omega) | (refine ⟨?_,rfl⟩; simp [hx,hy,hz]; done) | (refine ⟨?_,rfl⟩; simp [hx,hy]; done) | (refine ⟨?_,rfl⟩; simp [hx]; done)
theorem zNp (W : World) (a b c a' b' c' : Value) (t : TypeId) (n : Nat) (W3 : World) (h : ({ (W.alloc (.cells #[a,b,c] t)).alloc (.cells #[a',b',c'] t) with drawn:=n } : World) = W3) :
  W3.cell? ⟨W.heap.size,0,none⟩ = some a ∧ W3.cell? ⟨W.heap.size,1,none⟩ = some b ∧ W3.cell? ⟨W.heap.size,2,none⟩ = some c ∧ W3.cell? ⟨W.heap.size + 1,0,none⟩ = some a' ∧ W3.cell? ⟨W.heap.size + 1,1,none⟩ = some b' ∧ W3.cell? ⟨W.heap.size + 1,2,none⟩ = some c':=by
 have hh : W3.heap = (W.heap.push (.cells #[a,b,c] t)).push (.cells #[a',b',c'] t):=by rw [← h]; rfl
 have g0 : W3.heap[W.heap.size]? = some (.cells #[a,b,c] t):=by rw [hh,Array.getElem?_push,Array.size_push,if_neg tO,Array.getElem?_push,if_pos rfl]
 have g1 : W3.heap[W.heap.size + 1]? = some (.cells #[a',b',c'] t):=by rw [hh,Array.getElem?_push,Array.size_push,if_pos rfl]
 refine ⟨?_, ?_, ?_, ?_, ?_, ?_⟩
 ·simp only [World.cell?,g0]; rfl
 ·simp only [World.cell?,g0]; rfl
 ·simp only [World.cell?,g0]; rfl
 ·simp only [World.cell?,g1]; rfl
 ·simp only [World.cell?,g1]; rfl
 ·simp only [World.cell?,g1]; rfl
theorem zGv (W : World) (a b c : Value) (t : TypeId) : (W.alloc (.cells #[a,b,c] t)).cell? ⟨W.heap.size,0,none⟩ = some a ∧ (W.alloc (.cells #[a,b,c] t)).cell? ⟨W.heap.size,1,none⟩ = some b ∧ (W.alloc (.cells #[a,b,c] t)).cell? ⟨W.heap.size,2,none⟩ = some c:=by
 have hh : (W.alloc (.cells #[a,b,c] t)).heap = W.heap.push (.cells #[a,b,c] t):=rfl
 have g0 : (W.alloc (.cells #[a,b,c] t)).heap[W.heap.size]? = some (.cells #[a,b,c] t):=by rw [hh,Array.getElem?_push,if_pos rfl]
 refine ⟨?_, ?_, ?_⟩
 ·simp only [World.cell?,g0]; rfl
 ·simp only [World.cell?,g0]; rfl
 ·simp only [World.cell?,g0]; rfl
theorem zMG (W : World) (A B X : Obj) : ({ (W.alloc A).alloc B with drawn:=((W.alloc A).alloc B).drawn + 1 } : World).alloc X = grow (W.drewN 1) #[A,B,X]:=by
 have : ((W.heap.push A).push B).push X = W.heap ++ #[A,B,X]:=by apply Array.ext'; simp only [Array.toList_push,Array.toList_append,List.append_assoc,List.cons_append,List.nil_append]
 unfold World.alloc grow World.drewN
 simp only [this]
set_option maxHeartbeats 4000000 in
theorem zMH (x y : Val) (W : World) : Calls Tryz.prog 23 #[.agg #[.int .i64 x.kind,.int .i64 x.num,.string ⟨x.text.toArray⟩],.agg #[.int .i64 y.kind,.int .i64 y.num,.string ⟨y.text.toArray⟩]] W fun e w'=>e = .returned (.int .i64 (zEq x y)) ∧ ∃ q os',w' = grow (W.drewN q) os':=by
 have hcon:=fun (x y : Int) W'=>zME x y W'
 have hcos:=fun (x y : List UInt8) W'=>zMF x y W'
 go_enter Tryz.func23,Tryz.ntmps23
 go_wp2_with (first | (go_at_call 34; refine (hcon _ _ _).mono ?_; rintro e w' ⟨rfl,rfl⟩) | (go_at_call 35; refine (hcos _ _ _).mono ?_; rintro e w' ⟨rfl,rfl⟩))
 obtain ⟨W2,hW2⟩ : ∃ W2,(W.alloc (.cells #[.int .i64 x.kind,.int .i64 x.num,.string ⟨x.text.toArray⟩] 34)).alloc (.cells #[.int .i64 y.kind,.int .i64 y.num,.string ⟨y.text.toArray⟩] 34) = W2:=⟨_,rfl⟩
 rw [hW2]
 refine wp_region_still_tail 15 (by kernel_rfl) (by kernel_rfl) ?_
 simp only [List.take_succ_cons,List.take_zero,List.drop_succ_cons,List.drop_zero]
 obtain ⟨W3,hW3⟩ : ∃ W3,({ W2 with drawn:=W2.drawn + 1 } : World) = W3:=⟨_,rfl⟩
 rw [hW3]
 obtain ⟨x0,x1,x2,y0,y1,y2⟩:=zNp W _ _ _ _ _ _ _ _ W3 (by rw [← hW3,← hW2])
 still_step; still_step; still_step; still_step
 still_call (hcon x.kind y.kind _)
 still_step; still_step; still_step; still_step
 still_call (hcon x.num y.num _)
 still_step; still_step; still_step; still_step
 still_call (hcos x.text y.text _)
 refine wpStill_nil ?_
 have hor:=fun (a b c : Int) (t : TypeId)=>zNo W3.heap.size a b c (W3.alloc (.cells #[.int .i64 a,.int .i64 b,.int .i64 c] t)) (zGv W3 _ _ _ t).1 (zGv W3 _ _ _ t).2.1 (zGv W3 _ _ _ t).2.2
 go_wp2_with (first | (go_at_call 33; refine (hor _ _ _ _).mono ?_; rintro e w' ⟨rfl,rfl⟩))
 all_goals
  go_ret
  rw [← hW3,← hW2,zMG]
  refine ⟨?_,1,_,rfl⟩
  unfold zEq
  simp_all
end Go.Proofs.YtcnogafgcfidnaaGreatDoor
namespace Go.Proofs
open Go.Shelf
def Tryz.ownSort_ren : Go.Shelf.Ren:=⟨fun | 6=>22 | 15=>32 | 14=>31 | 28=>58 | 29=>59 | 20=>50 | 21=>51 | 22=>52 | 23=>53 | 24=>54 | 25=>55 | 26=>56 | 27=>57 | 46=>83 | 47=>84 | 48=>85 | 49=>86 | 50=>87 | 57=>102 | n=>n,fun | 22=>25 | 24=>34 | 25=>51 | 3=>3 | 39=>60 | 0=>0 | 53=>93 | 55=>95 | 4=>4 | 46=>86 | 45=>85 | 50=>90 | 5=>5 | 9=>9 | 66=>123 | 70=>127 | 76=>144 | 77=>145 | n=>n,fun | n=>n⟩
theorem Tryz.ownSort : Go.Proofs.SlLaysF0.n6 Tryz.prog Tryz.ownSort_ren:={
 mixed:=by kernel_rfl
 f6:=⟨Tryz.f22.name,by decide,Tryz.func22.trans (congrArg some (by kernel_rfl))⟩
 f14:=⟨Tryz.f31.name,by decide,Tryz.func31.trans (congrArg some (by kernel_rfl))⟩
 f15:=Tryz.func32.trans (congrArg some (by kernel_rfl))
 f20:=⟨Tryz.f50.name,by decide,Tryz.func50.trans (congrArg some (by kernel_rfl))⟩
 f21:=⟨Tryz.f51.name,by decide,Tryz.func51.trans (congrArg some (by kernel_rfl))⟩
 f22:=⟨Tryz.f52.name,by decide,Tryz.func52.trans (congrArg some (by kernel_rfl))⟩
 f23:=⟨Tryz.f53.name,by decide,Tryz.func53.trans (congrArg some (by kernel_rfl))⟩
 f24:=⟨Tryz.f54.name,by decide,Tryz.func54.trans (congrArg some (by kernel_rfl))⟩
 f25:=⟨Tryz.f55.name,by decide,Tryz.func55.trans (congrArg some (by kernel_rfl))⟩
 f26:=⟨Tryz.f56.name,by decide,Tryz.func56.trans (congrArg some (by kernel_rfl))⟩
 f27:=⟨Tryz.f57.name,by decide,Tryz.func57.trans (congrArg some (by kernel_rfl))⟩
 f28:=Tryz.func58.trans (congrArg some (by kernel_rfl))
 f29:=Tryz.func59.trans (congrArg some (by kernel_rfl))
 f46:=⟨Tryz.f83.name,by decide,Tryz.func83.trans (congrArg some (by kernel_rfl))⟩
 f47:=Tryz.func84.trans (congrArg some (by kernel_rfl))
 f48:=Tryz.func85.trans (congrArg some (by kernel_rfl))
 f49:=⟨Tryz.f86.name,by decide,Tryz.func86.trans (congrArg some (by kernel_rfl))⟩
 f50:=⟨Tryz.f87.name,by decide,Tryz.func87.trans (congrArg some (by kernel_rfl))⟩
 f57:=⟨Tryz.f102.name,by decide,Tryz.func102.trans (congrArg some (by kernel_rfl))⟩
 t0:=Tryz.underlying0
 a0:=Tryz.isAgg0
 z0:=Tryz.sizeOf0
 v0:=Tryz.zeroValue0
 t3:=Tryz.underlying3
 a3:=Tryz.isAgg3
 z3:=Tryz.sizeOf3
 v3:=Tryz.zeroValue3
 t4:=Tryz.underlying4
 a4:=Tryz.isAgg4
 z4:=Tryz.sizeOf4
 v4:=Tryz.zeroValue4
 t5:=Tryz.underlying5
 a5:=Tryz.isAgg5
 z5:=Tryz.sizeOf5
 v5:=Tryz.zeroValue5
 t9:=Tryz.underlying9
 a9:=Tryz.isAgg9
 z9:=Tryz.sizeOf9
 v9:=Tryz.zeroValue9
 t22:=Tryz.underlying25
 a22:=Tryz.isAgg25
 z22:=Tryz.sizeOf25
 v22:=Tryz.zeroValue25
 t25:=Tryz.underlying51
 a25:=Tryz.isAgg51
 z25:=Tryz.sizeOf51
 v25:=Tryz.zeroValue51
 t39:=Tryz.underlying60
 a39:=Tryz.isAgg60
 z39:=Tryz.sizeOf60
 v39:=Tryz.zeroValue60
 t45:=Tryz.underlying85
 a45:=Tryz.isAgg85
 z45:=Tryz.sizeOf85
 v45:=Tryz.zeroValue85
 t46:=Tryz.underlying86
 a46:=Tryz.isAgg86
 z46:=Tryz.sizeOf86
 v46:=Tryz.zeroValue86
 t50:=Tryz.underlying90
 a50:=Tryz.isAgg90
 z50:=Tryz.sizeOf90
 v50:=Tryz.zeroValue90
 t53:=Tryz.underlying93
 a53:=Tryz.isAgg93
 z53:=Tryz.sizeOf93
 v53:=Tryz.zeroValue93
 t55:=Tryz.underlying95
 a55:=Tryz.isAgg95
 z55:=Tryz.sizeOf95
 v55:=Tryz.zeroValue95
 t66:=Tryz.underlying123
 a66:=Tryz.isAgg123
 z66:=Tryz.sizeOf123
 v66:=Tryz.zeroValue123
 t70:=Tryz.underlying127
 a70:=Tryz.isAgg127
 z70:=Tryz.sizeOf127
 v70:=Tryz.zeroValue127
 t76:=Tryz.underlying144
 a76:=Tryz.isAgg144
 z76:=Tryz.sizeOf144
 v76:=Tryz.zeroValue144
 t77:=Tryz.underlying145
 a77:=Tryz.isAgg145
 z77:=Tryz.sizeOf145
 v77:=Tryz.zeroValue145 }
end Go.Proofs
namespace Go.AM
open Go.RowKit
theorem zIi {P : Program} {GT : Nat → Option AV} {w : World} {M : AMap} {I : Nat → Prop} {H H' : Heap} {f : FuncId} {fn : Func} {args : List AV} {cargs : List Value} {v : AV}
  (hf : P.funcs[f]? = some fn) (hname : (fn.name == "runtime.NumGoroutine") = false) (hb : fn.body.isSome = true) (hg : Good P GT f args H v H') (hS : Sim GT w M I H) (hA : zBJ w M I H.length args cargs) :
  Calls P f cargs.toArray w fun e w'=>∃ v',e = .returned v' ∧ ∃ M' I',Grow w M I H w' M' I' H' ∧ Sim GT w' M' I' H' ∧ Rel w' M' I' H'.length v v':=by
 have h1 : fn.name ≠ "runtime.NumGoroutine" := by simpa using hname
 obtain ⟨c,hb⟩:=Option.isSome_iff_exists.1 hb
 have hrun : (callFunc f cargs.toArray).run P w = .ok (.enter f cargs.toArray) w:=by simp [callFunc,hf,h1,hb]
 have h:=hg.n hA w M I cargs hS hA
 rw [hrun] at h
 exact h
def zFi (w : World) : Nat → Prop:=fun k=>k < w.heap.size
theorem zIj {w w' : World} {M M' : AMap} {I I' : Nat → Prop} {H' : Heap} (h : Grow w M I [] w' M' I' H') : Below w.heap.size w w':=
 ⟨h.os,h.tape,h.output,h.size,fun k hk=>h.frame k hk (by rintro ⟨b,x,o,hb,_⟩; simp at hb)⟩
theorem zO9 (w : World) (M : AMap) (I : Nat → Prop) (n : Nat) : zBJ w M I n [] []:=⟨rfl,fun i c v h=>by simp at h⟩
theorem zEv {w : World} {M : AMap} {I : Nat → Prop} {n : Nat} {x : AV} {v : Value} {xs : List AV} {vs : List Value} (h : Rel w M I n x v) (hs : zBJ w M I n xs vs) : zBJ w M I n (x :: xs) (v :: vs):=
 ⟨by rw [List.length_cons,List.length_cons,hs.1],fun i c u hc hu=>by
  cases i with
  | zero=>simp only [List.getElem?_cons_zero,Option.some.injEq] at hc hu; subst hc; subst hu; exact h
  | succ i=>simp only [List.getElem?_cons_succ] at hc hu; exact hs.2 i c u hc hu⟩
theorem zQG (w : World) (M : AMap) (I : Nat → Prop) (n : Nat) (s : ByteArray) : Rel w M I n (.str s.data.toList) (.string s):=.str s.data.toList
theorem zLJ {w : World} {M : AMap} {I : Nat → Prop} {n : Nat} {k : IntKind} {m : Int} {v : Value} (h : Rel w M I n (.int k m) v) : v = .int k m:=by cases h; rfl
theorem zIk {w : World} {M : AMap} {I : Nat → Prop} {n : Nat} {x y : AV} {vs : List Value} (h : zBJ w M I n [x,y] vs) : ∃ v u,vs = [v,u] ∧ Rel w M I n x v ∧ Rel w M I n y u:=by
 obtain ⟨hl,h⟩:=h
 match vs,hl with
 | [v,u],_=>exact ⟨v,u,rfl,h 0 x v rfl rfl,h 1 y u rfl rfl⟩
theorem zIl {GT : Nat → Option AV} {w w' : World} {M : AMap} {I : Nat → Prop} {H : Heap} (hS : Sim GT w M I H) (h : Below w.heap.size w w') : Grow w M I H w' M I H ∧ Sim GT w' M I H:=by
 have hb : ∀ k,k < w.heap.size → w'.heap[k]? = w.heap[k]?:=fun k hk=>h.block k hk
 have hs : ∀ g s,w.shape? g = some s → w'.shape? g = some s:=fun g s hg=>by
  have hlt : g < w.heap.size:=by
   unfold World.shape? at hg
   split at hg
   ·rename_i e; exact (Array.getElem?_eq_some_iff.1 e).1
   ·cases hg
  rw [zd (hb g hlt)]; exact hg
 refine ⟨⟨h.os,h.tape,h.output,h.size,fun _ _=>rfl,fun _ h=>h,fun _ h _=>.inl h,fun k hk _=>hb k hk,fun _ _ h=>h,hs,Nat.le_refl _⟩, ?_⟩
 refine ⟨fun g x hg=>(hS.glob g x hg).mono (fun _ h=>h) (fun k hk=>hb k (hS.idom k hk)) (fun _ _=>rfl) (Nat.le_refl _) hs,fun k hk=>Nat.lt_of_lt_of_le (hS.idom k hk) h.size,fun b x hx=>?_,hS.inj,fun g x hg=>(hS.shp g x hg).imp fun e h=>hs g _ h⟩
 exact (hS.blk b x hx).mono (zg hx).1 (fun _ h=>h) (fun k hk=>hb k (hS.idom k hk)) (fun _ _=>rfl) (Nat.le_refl _) hs (fun g o hM hm=>hb g (hS.live_lt ⟨b,x,o,hx,hm,hM⟩)) (fun _ _ _ _ h=>h)
theorem zPA {w : World} {M : AMap} {I : Nat → Prop} {n : Nat} {a v : Value} (h : Rel w M I n (.raw a) v) : v = a:=by cases h; rfl
theorem zNq {P : Program} {f : FuncId} {fn : Func} {args : Array Value} {w : World} (hf : P.funcs[f]? = some fn) (hname : (fn.name == "runtime.NumGoroutine") = false) (hb : fn.body.isSome = true) : (callFunc f args).run P w = .ok (.enter f args) w:=by
 have h1 : fn.name ≠ "runtime.NumGoroutine" := by simpa using hname
 obtain ⟨c,hb⟩:=Option.isSome_iff_exists.1 hb
 simp [callFunc,hf,h1,hb]
theorem zKV {GT : Nat → Option AV} {w : World} {M : AMap} {I : Nat → Prop} {H : Heap} (hS : Sim GT w M I H) {b g o : Nat} {c x : AV} {v : Value} (hb : H[b]? = some (.box [c])) (hM : M b = some (g,o)) (hr : ∀ w,Rel w M I H.length x v) :
  Grow w M I H (w.setCell ⟨g,o,none⟩ v) M I (H.set b (.box [x])) ∧ Sim GT (w.setCell ⟨g,o,none⟩ v) M I (H.set b (.box [x])):=by
 obtain ⟨g',o',cur,h1,⟨e,fz,hg,hfz⟩,h3,h4,h5⟩:=hS.blk b _ hb
 rw [hM] at h1
 simp only [Option.some.injEq,Prod.mk.injEq] at h1
 obtain ⟨rfl,rfl⟩:=h1
 have hlt:=(Array.getElem?_eq_some_iff.1 hg).1
 have hh : (w.setCell ⟨g,o,none⟩ v).heap = w.heap.setIfInBounds g (.cells (cur.setIfInBounds o v) e fz):=by
  apply Array.ext_getElem?
  intro i
  simp only [World.setCell,Array.getElem?_modify,Array.getElem?_setIfInBounds]
  by_cases hi : g = i
  ·subst hi
   have hg' : w.heap[g] = .cells cur e fz:=(Array.getElem?_eq_some_iff.1 hg).2
   simp [hlt,hg']
  ·simp [hi]
 refine Sim.write hS hb rfl hM hg (by simp) hh rfl rfl rfl ⟨g,o,cur.setIfInBounds o v,hM,⟨e,fz, ?_, ?_⟩,h3, ?_,fun j c' hj=>?_⟩
 ·rw [hh,Array.getElem?_setIfInBounds,if_pos rfl,if_pos hlt]
 ·simpa using hfz
 ·simpa using h4
 ·cases j with
  | zero=>
   simp only [List.getElem?_cons_zero,Option.some.injEq] at hj
   subst hj
   refine ⟨v, ?_,hr _⟩
   simp only [List.length_cons,List.length_nil] at h4
   rw [Nat.add_zero,Array.getElem?_setIfInBounds,if_pos rfl,if_pos tO]
  | succ j=>simp at hj
end Go.AM
namespace Go.AM
inductive Sh where
 | bool
 | int (k : IntKind)
 | str
 | sl (ag : Bool) (es : List Sh)
 deriving Inhabited
def formed (ag : Bool) (x : AV) : Prop:=
 match ag with
 | true=>∃ cs,x = .agg cs
 | false=>x.cells = [x]
inductive Fits : Sh → AV → Prop where
 | bool (b : Bool) : Fits .bool (.bool b)
 | int (k : IntKind) (n : Int) (h : (Lit.int k n).wf = true) : Fits (.int k) (.int k n)
 | str (s : List UInt8) (h : s.length ≤ maxLen) : Fits .str (.str s)
 | sl (ag : Bool) (es : List Sh) (q : Bool) (xs : List AV) (hl : xs.length ≤ maxLen) (hq : q = true → xs = []) (h1 : ∀ x ∈ xs,x.cells.length = es.length ∧ formed ag x)
   (h2 : ∀ x ∈ xs,∀ (i : Nat) (s : Sh) (c : AV),es[i]? = some s → x.cells[i]? = some c → Fits s c) : Fits (.sl ag es) (.lst (some q) es.length xs)
def zQ9 (r : TypeId → Option (Bool × List Sh)) (P : Program) : List Field → Nat → Option (List Sh)
 | [],_=>some []
 | f :: fs,o=>if f.offset = o then (match r f.type with
  | some (_,ss)=>if P.cellsOf f.type = ss.length then (zQ9 r P fs (o + ss.length)).map (ss ++ ·) else none
  | none=>none) else none
def zOJ (P : Program) : Nat → TypeId → Option (Bool × List Sh)
 | 0,_=>none
 | m + 1,t=>match P.underlying t with
  | some .bool=>some (false,[.bool])
  | some (.int k)=>some (false,[.int k])
  | some .string=>some (false,[.str])
  | some (.slice e)=>(match zOJ P m e with
   | some (ag,es)=>if P.cellsOf e = es.length ∧ 0 < es.length ∧ (ag = true ∨ es.length = 1) then some (false,[.sl ag es]) else none
   | none=>none)
  | some (.struct fs)=>(match zQ9 (zOJ P m) P fs.toList 0 with
   | some ss=>if P.cellsOf t = ss.length then some (true,ss) else none
   | none=>none)
  | _=>none
theorem zEw {α β : Type} {f : α → Option β} : ∀ {l : List α} {r : List β},l.mapM f = some r → r.length = l.length ∧ ∀ (i : Nat) (x : α),l[i]? = some x → ∃ y,r[i]? = some y ∧ f x = some y
 | [],r,h=>by
  simp at h; subst h; exact ⟨rfl,fun i x hx=>by simp at hx⟩
 | a :: l,r,h=>by
  simp only [List.mapM_cons,Option.bind_eq_bind,Option.pure_def] at h
  obtain ⟨y,hy,h⟩:=Option.bind_eq_some_iff.1 h
  obtain ⟨ys,hys,h⟩:=Option.bind_eq_some_iff.1 h
  simp only [Option.some.injEq] at h
  subst h
  obtain ⟨h1,h2⟩:=zEw hys
  refine ⟨by simp [h1],fun i x hx=>?_⟩
  cases i with
  | zero=>simp at hx; subst hx; exact ⟨y,rfl,hy⟩
  | succ i=>simp at hx; obtain ⟨z,e1,e2⟩:=h2 i x hx; exact ⟨z,by simpa using e1,e2⟩
theorem zNr {p : Nat → AV → Prop} : ∀ n,(∀ i,i < n → ∃ x,p i x) → ∃ xs : List AV,xs.length = n ∧ ∀ i x,xs[i]? = some x → p i x
 | 0,_=>⟨[],rfl,fun i x h=>by simp at h⟩
 | n + 1,h=>by
  obtain ⟨xs,h1,h2⟩:=zNr n fun i hi=>h i tO
  obtain ⟨x,hx⟩:=h n tO
  refine ⟨xs ++ [x],by simp [h1],fun i y hy=>?_⟩
  by_cases hi : i < n
  ·rw [List.getElem?_append_left tO] at hy; exact h2 i y hy
  ·rw [List.getElem?_append_right tO] at hy
   have : i - xs.length = 0:=by
    have:=(zg hy).1
    simp at this; omega
   rw [this] at hy; simp at hy; subst hy
   have : i = n:=by omega
   subst this; exact hx
theorem Fits.free {s : Sh} {x : AV} (h : Fits s x) : x.noRef = true ∧ x.one = true ∧ x.cells = [x]:=by
 cases h <;> exact ⟨rfl,rfl,rfl⟩
theorem zIm {w : World} {a : Addr} {v : Value} (h : w.cell? a = some v) : a.block < w.heap.size ∧ a.spot = none:=by
 unfold World.cell? at h
 split at h
 ·rename_i hb
  split at h
  ·cases h
  ·rename_i hs
   refine ⟨?_,by simpa using hs⟩
   obtain ⟨hlt,_⟩:=Array.getElem?_eq_some_iff.1 hb
   exact hlt
 ·cases h
structure Stands (w : World) (ss : List Sh) (xs : List AV) (cs : List Value) : Prop where
 len : xs.length = ss.length
 clen : cs.length = ss.length
 fits : ∀ (i : Nat) (s : Sh) (x : AV),ss[i]? = some s → xs[i]? = some x → Fits s x
 rel : ∀ (i : Nat) (x : AV) (v : Value),xs[i]? = some x → cs[i]? = some v → Rel w (fun _=>none) (zFi w) 0 x v
theorem Stands.fits' {w : World} {ss : List Sh} {xs : List AV} {cs : List Value} (h : Stands w ss xs cs) {x : AV} (hx : x ∈ xs) : ∃ s,Fits s x:=by
 obtain ⟨i,hi⟩:=List.getElem?_of_mem hx
 have hlt:=(zg hi).1
 exact ⟨ss[i]'(by rw [← h.len]; exact hlt),h.fits i _ x (List.getElem?_eq_getElem _) hi⟩
theorem zCj {w : World} {s : Sh} {x : AV} {v : Value} (hf : Fits s x) (hr : Rel w (fun _=>none) (zFi w) 0 x v) : Stands w [s] [x] [v] where
 len:=rfl
 clen:=rfl
 fits:=fun i s' x' h1 h2=>by
  cases i with
  | zero=>simp at h1 h2; subst h1; subst h2; exact hf
  | succ i=>simp at h1
 rel:=fun i x' v' h1 h2=>by
  cases i with
  | zero=>simp at h1 h2; subst h1; subst h2; exact hr
  | succ i=>simp at h1
section
variable {H : Type} {enc : TypeId × Value → H} {P : Program} {w : World} {held : Bool}
theorem zIn {fuel m : Nat} (ih : ∀ (t : TypeId) (cs : List Value) (d : DataW H) (ps : List MemPlace) (ag : Bool) (ss : List Sh),DataW.trod enc P w 0 (fun _=>true) held fuel t cs = some (d,ps) → zOJ P m t = some (ag,ss) → ∃ xs,Stands w ss xs cs)
  (cs : List Value) : ∀ (fs : List Field) (o : Nat) (ss : List Sh) (r : List (DataW H × List MemPlace)),(fs.mapM fun f=>DataW.trod enc P w 0 (fun _=>true) held fuel f.type ((cs.drop f.offset).take (P.cellsOf f.type))) = some r → zQ9 (zOJ P m) P fs o = some ss →
  ∃ xs : List AV,xs.length = ss.length ∧ (∀ (i : Nat) (s : Sh) (x : AV),ss[i]? = some s → xs[i]? = some x → Fits s x) ∧ ∀ (i : Nat) (x : AV) (v : Value),xs[i]? = some x → cs[o + i]? = some v → Rel w (fun _=>none) (zFi w) 0 x v:=by
 intro fs
 induction fs with
 | nil=>
  intro o ss r _ hs
  simp only [zQ9,Option.some.injEq] at hs
  subst hs
  exact ⟨[],rfl,fun i s x h=>by simp at h,fun i x v h=>by simp at h⟩
 | cons f fs ihf=>
  intro o ss r h hs
  unfold zQ9 at hs
  split at hs
  case isFalse=>cases hs
  rename_i ho
  split at hs
  case h_2=>cases hs
  rename_i ag ss1 h1
  split at hs
  case isFalse=>cases hs
  rename_i hc
  obtain ⟨ss2,h2,rfl⟩:=Option.map_eq_some_iff.1 hs
  simp only [List.mapM_cons,Option.bind_eq_bind,Option.pure_def] at h
  obtain ⟨⟨d,p⟩,hy,h⟩:=Option.bind_eq_some_iff.1 h
  obtain ⟨ys,hys,_⟩:=Option.bind_eq_some_iff.1 h
  obtain ⟨xs1,S1⟩:=ih _ _ _ _ _ _ hy h1
  obtain ⟨xs2,e1,e2,e3⟩:=ihf _ _ _ hys h2
  refine ⟨xs1 ++ xs2,by rw [List.length_append,List.length_append,S1.len,e1],fun i s x h3 h4=>?_,fun i x v h3 h4=>?_⟩
  ·by_cases hi : i < ss1.length
   ·rw [List.getElem?_append_left hi] at h3
    rw [List.getElem?_append_left (by rw [S1.len]; exact hi)] at h4
    exact S1.fits i s x h3 h4
   ·rw [List.getElem?_append_right tO] at h3
    rw [List.getElem?_append_right (by rw [S1.len]; omega),S1.len] at h4
    exact e2 _ s x h3 h4
  ·by_cases hi : i < ss1.length
   ·rw [List.getElem?_append_left (by rw [S1.len]; exact hi)] at h3
    refine S1.rel i x v h3 ?_
    rw [List.getElem?_take,if_pos (by rw [hc]; exact hi),List.getElem?_drop,ho]
    exact h4
   ·rw [List.getElem?_append_right (by rw [S1.len]; omega),S1.len] at h3
    refine e3 _ x v h3 ?_
    rw [← h4]; congr 1; omega
theorem zMI {a : Addr} {n : Nat} {cs : List Value} (h : w.cells? 0 a n = some cs) : cs.length = n ∧ ∀ j v,cs[j]? = some v → w.cell? (a.add j) = some v:=by
 unfold World.cells? at h
 rw [if_pos (Nat.zero_le _)] at h
 obtain ⟨h1,h2⟩:=zEw h
 rw [List.length_range] at h1
 refine ⟨h1,fun j v hj=>?_⟩
 have hlt : j < n:=by rw [← h1]; exact (zg hj).1
 obtain ⟨y,e1,e2⟩:=h2 j j (by rw [List.getElem?_range hlt])
 rw [e1] at hj
 simp only [Option.some.injEq] at hj
 subst hj; exact e2
theorem zHN : ∀ (fuel : Nat) (t : TypeId) (cs : List Value) (d : DataW H) (ps : List MemPlace) (m : Nat) (ag : Bool) (ss : List Sh),
  DataW.trod enc P w 0 (fun _=>true) held fuel t cs = some (d,ps) → zOJ P m t = some (ag,ss) → ∃ xs,Stands w ss xs cs:=by
 intro fuel
 induction fuel with
 | zero=>intro t cs d ps m ag ss h; simp [DataW.trod] at h
 | succ fuel ih=>
  intro t cs d ps m ag ss h hs
  cases m with
  | zero=>simp [zOJ] at hs
  | succ m=>
  unfold zOJ at hs
  split at hs
  ·-- bool
   rename_i hu
   simp only [Option.some.injEq,Prod.mk.injEq] at hs
   obtain ⟨_,rfl⟩:=hs
   rcases cs with _ | ⟨c,_ | ⟨c',cs⟩⟩
   ·simp [DataW.trod,hu] at h
   ·cases c <;> simp [DataW.trod,hu] at h
    exact ⟨_,zCj (.bool _) (.bool _)⟩
   ·simp [DataW.trod,hu] at h
  ·rename_i k hu
   simp only [Option.some.injEq,Prod.mk.injEq] at hs
   obtain ⟨_,rfl⟩:=hs
   rcases cs with _ | ⟨c,_ | ⟨c',cs⟩⟩
   ·simp [DataW.trod,hu] at h
   ·cases c <;> simp [DataW.trod,hu] at h
    obtain ⟨⟨rfl,hw⟩,_⟩:=h
    exact ⟨_,zCj (.int _ _ hw) (.int _ _)⟩
   ·simp [DataW.trod,hu] at h
  ·rename_i hu
   simp only [Option.some.injEq,Prod.mk.injEq] at hs
   obtain ⟨_,rfl⟩:=hs
   rcases cs with _ | ⟨c,_ | ⟨c',cs⟩⟩
   ·simp [DataW.trod,hu] at h
   ·cases c <;> simp [DataW.trod,hu] at h
    rename_i s
    have hl : s.data.toList.length ≤ maxLen:=by
     have h1 : s.size ≤ maxLen:=h.1
     exact h1
    exact ⟨_,zCj (.str s.data.toList hl) (zQG _ _ _ _ s)⟩
   ·simp [DataW.trod,hu] at h
  ·-- a slice
   rename_i e hu
   split at hs
   case h_2=>cases hs
   rename_i ag' es he
   split at hs
   case isFalse=>cases hs
   rename_i hk
   obtain ⟨hk,hk0,hk1⟩:=hk
   simp only [Option.some.injEq,Prod.mk.injEq] at hs
   obtain ⟨_,rfl⟩:=hs
   rcases cs with _ | ⟨c,_ | ⟨c',cs⟩⟩
   ·simp [DataW.trod,hu] at h
   rotate_left
   ·simp [DataW.trod,hu] at h
   cases c
   case slice a len cap=>
    cases a with
    | none=>
     cases len <;> cases cap <;> simp [DataW.trod,hu] at h
     exact ⟨_,zCj (.sl ag' es true [] (Nat.zero_le _) (fun _=>rfl) (fun x hx=>absurd hx (by simp)) (fun x hx=>absurd hx (by simp))) (.lnil _ _ (by simp))⟩
    | some a=>
     simp only [DataW.trod,hu] at h
     split at h
     case isFalse=>cases h
     rename_i hb
     obtain ⟨elems,h1,h⟩:=Option.bind_eq_some_iff.1 h
     obtain ⟨rest,h2,_⟩:=Option.map_eq_some_iff.1 h
     simp only [if_true] at h2
     have at_ : ∀ (i : Nat) (y : DataW H × List MemPlace),((w.cells? 0 (a.add (i * P.cellsOf e)) (P.cellsOf e)).bind (DataW.trod enc P w 0 (fun _=>true) held fuel e)) = some y →
       ∃ xs ci,Stands w es xs ci ∧ ∀ j v,ci[j]? = some v → w.cell? ((a.add (i * es.length)).add j) = some v:=by
      intro i y hy
      obtain ⟨ci,e1,e2⟩:=Option.bind_eq_some_iff.1 hy
      obtain ⟨xs,S⟩:=ih e ci y.1 y.2 m ag' es e2 he
      obtain ⟨e3,e4⟩:=zMI e1
      exact ⟨xs,ci,S,by rw [← hk]; exact e4⟩
     obtain ⟨l1,l2⟩:=zEw h1
     obtain ⟨l3,l4⟩:=zEw h2
     rw [List.length_range] at l1 l3
     have elem : ∀ i,i < len → ∃ x : AV,(x.cells.length = es.length ∧ formed ag' x) ∧ (∀ (j : Nat) (s : Sh) (c : AV),es[j]? = some s → x.cells[j]? = some c → Fits s c) ∧ x.elem es.length = true ∧
       ∀ j c,x.cells[j]? = some c → ∃ v,w.cell? ((a.add (i * es.length)).add j) = some v ∧ Rel w (fun _=>none) (zFi w) 0 c v:=by
      intro i hi
      obtain ⟨y,_,hy⟩:=l2 i i (by rw [List.getElem?_range hi])
      obtain ⟨xs,ci,S,hci⟩:=at_ i y hy
      have hrel : ∀ j c,xs[j]? = some c → ∃ v,w.cell? ((a.add (i * es.length)).add j) = some v ∧ Rel w (fun _=>none) (zFi w) 0 c v:=fun j c hj=>by
       have hlt : j < ci.length:=by rw [S.clen,← S.len]; exact (zg hj).1
       exact ⟨ci[j],hci j _ (List.getElem?_eq_getElem hlt),S.rel j c _ hj (List.getElem?_eq_getElem hlt)⟩
      cases ag' with
      | true=>
       refine ⟨.agg xs,⟨S.len,xs,rfl⟩,S.fits,AV.elem_iff.2 ⟨S.len, ?_,fun c hc=>?_⟩,hrel⟩
       ·simp only [AV.noRef,AV.bel,AV.belL_iff]
        intro c hc
        obtain ⟨s,hs⟩:=S.fits' hc
        exact hs.free.1
       ·obtain ⟨s,hs⟩:=S.fits' hc
        exact hs.free.2.1
      | false=>
       have h1 : es.length = 1:=by
        rcases hk1 with h | h
        ·cases h
        ·exact h
       have hl:=S.len
       rw [h1] at hl
       obtain ⟨x,rfl⟩:=List.length_eq_one_iff.1 hl
       obtain ⟨s,hs⟩:=S.fits' (x:=x) (by simp)
       obtain ⟨f1,f2,f3⟩:=hs.free
       refine ⟨x,⟨by rw [f3,h1]; rfl,f3⟩,by rw [f3]; exact S.fits,AV.elem_iff.2 ⟨by rw [f3,h1]; rfl,f1,fun c hc=>?_⟩,by rw [f3]; exact hrel⟩
       rw [f3] at hc
       simp only [List.mem_singleton] at hc
       rw [hc]; exact f2
     obtain ⟨X,x1,x2⟩:=zNr len elem
     have hmem : ∀ x ∈ X,∃ i,X[i]? = some x:=fun x hx=>List.getElem?_of_mem hx
     refine ⟨[.lst (some false) es.length X],zCj (.sl ag' es false X tO (by simp) (fun x hx=>?_) (fun x hx=>?_)) ?_⟩
     ·obtain ⟨i,hi⟩:=hmem x hx; exact (x2 i x hi).1
     ·obtain ⟨i,hi⟩:=hmem x hx; exact (x2 i x hi).2.1
     ·by_cases hc0 : cap = 0
      ·have : len = 0:=by omega
       subst this; subst hc0
       obtain rfl:=List.eq_nil_of_length_eq_zero x1
       exact .lemp _ _ a (by simp)
      ·have hcell : ∃ v,w.cell? a = some v:=by
        by_cases hl0 : len = 0
        ·obtain ⟨y,_,hy⟩:=l4 0 0 (by rw [List.getElem?_range tO])
         obtain ⟨xs,ci,S,hci⟩:=at_ _ y hy
         have hlt : 0 < ci.length:=by rw [S.clen]; exact hk0
         have h0:=hci 0 _ (List.getElem?_eq_getElem hlt)
         simp only [hl0,Nat.add_zero,Nat.zero_mul,Addr.add,if_true] at h0
         exact ⟨_,h0⟩
        ·obtain ⟨y,_,hy⟩:=l2 0 0 (by rw [List.getElem?_range tO])
         obtain ⟨xs,ci,S,hci⟩:=at_ _ y hy
         have hlt : 0 < ci.length:=by rw [S.clen]; exact hk0
         have h0:=hci 0 _ (List.getElem?_eq_getElem hlt)
         simp only [Nat.zero_mul,Addr.add,if_true] at h0
         exact ⟨_,h0⟩
       obtain ⟨v0,hv0⟩:=hcell
       obtain ⟨g1,g2⟩:=zIm hv0
       obtain ⟨ab,ao,asp⟩:=a
       simp only at g1 g2
       subst g2
       rw [← x1]
       refine Rel.mk_lst (by simp) tO hb.2.2 g1 (fun x hx=>?_) (fun i j x c hi hj=>?_)
       ·obtain ⟨i,hi⟩:=hmem x hx; exact (x2 i x hi).2.2.1
       ·obtain ⟨v,e1,e2⟩:=(x2 i x hi).2.2.2 j c hj
        simp only [Addr.add_lit] at e1
        exact ⟨v,e1,e2⟩
   all_goals (simp [DataW.trod,hu] at h)
  ·rename_i fs hu
   split at hs
   case h_2=>cases hs
   rename_i ss' hs'
   split at hs
   case isFalse=>cases hs
   rename_i hc
   simp only [Option.some.injEq,Prod.mk.injEq] at hs
   obtain ⟨_,rfl⟩:=hs
   simp only [DataW.trod,hu] at h
   split at h
   case isFalse=>cases h
   rename_i hcl
   obtain ⟨r,hr,_⟩:=Option.map_eq_some_iff.1 h
   obtain ⟨xs,e1,e2,e3⟩:=zIn (fun t cs d ps ag ss h1 h2=>ih t cs d ps m ag ss h1 h2) cs _ 0 ss' r hr hs'
   exact ⟨xs,e1,by rw [hcl,hc],e2,fun i x v h1 h2=>e3 i x v h1 (by rw [Nat.zero_add]; exact h2)⟩
  ·cases hs
theorem zC0 {t : TypeId} {m : Nat} {s : Sh} {v : Value} {d : DataW H} {ps : List MemPlace} {r : Reach} {b0 : Nat} (hs : zOJ P m t = some (false,[s])) (ho : Value.okWide P w r b0 t v) (h : DataW.Trod enc P w 0 (fun _=>true) held t v d ps) :
  ∃ x,Fits s x ∧ Rel w (fun _=>none) (zFi w) 0 x v:=by
 obtain ⟨fuel,h⟩:=h
 obtain ⟨xs,S⟩:=zHN fuel t _ d ps m false [s] h hs
 have hl:=S.len
 obtain ⟨x,rfl⟩:=List.length_eq_one_iff.1 hl
 have hv : v.cells.toList = [v]:=by
  cases m with
  | zero=>simp [zOJ] at hs
  | succ m=>
  unfold zOJ at hs
  unfold Value.okWide at ho
  split at hs
  all_goals first
   | (cases hs; done)
   | skip
  ·rename_i hu; rw [hu] at ho; simp only [Cell.okWide,hu,Cell.ok] at ho
   cases v <;> first | rfl | (simp at ho)
  ·rename_i hu; rw [hu] at ho; simp only [Cell.okWide,hu,Cell.ok] at ho
   cases v <;> first | rfl | (simp at ho)
  ·rename_i hu; rw [hu] at ho; simp only [Cell.okWide,hu,Cell.ok] at ho
   cases v <;> first | rfl | (simp at ho)
  ·rename_i hu; rw [hu] at ho; simp only [Cell.okWide,hu,Cell.ok] at ho
   cases v <;> first | rfl | (simp at ho)
  ·split at hs
   ·split at hs
    ·cases hs
    ·cases hs
   ·cases hs
 rw [hv] at S
 exact ⟨x,S.fits 0 s x rfl rfl,S.rel 0 x v rfl rfl⟩
end
end Go.AM
namespace Go.AM
section
variable {P : Program} {GT : Nat → Option AV} {w w' : World} {M : AMap} {I : Nat → Prop} {H : Heap}
theorem Sim.mut_at (hS : Sim GT w M I H) {b : Nat} {x : ABlk} (hb : H[b]? = some x) (hm : x.mut = true) {g o : Nat} (hM : M b = some (g,o)) : ∃ _cur : Array Value,True ∧ ¬ I g ∧ g < w.heap.size:=by
 have h:=hS.blk b x hb
 cases x with
 | dead=>simp [ABlk.mut] at hm
 | shp=>simp [ABlk.mut] at hm
 | ty=>simp [ABlk.mut] at hm
 | hd=>simp [ABlk.mut] at hm
 | frz=>simp [ABlk.mut] at hm
 | box cs=>
  obtain ⟨g1,o1,cur,h1,h2,h3,_⟩:=h
  rw [hM] at h1
  cases h1
  obtain ⟨e,fz,h4,h5⟩:=h2
  exact ⟨cur,trivial,h3,(Array.getElem?_eq_some_iff.1 h4).1⟩
 | mp ks vs=>
  obtain ⟨g1,es,cl,h1,h2,h3,_⟩:=h
  rw [hM] at h1
  simp only [Option.some.injEq,Prod.mk.injEq] at h1
  obtain ⟨rfl,_⟩:=h1
  exact ⟨#[],trivial,h3,(Array.getElem?_eq_some_iff.1 h2).1⟩
 | row k xs=>
  obtain ⟨_,⟨h1,_⟩ | ⟨g1,o1,cur,h1,h2,h3,_⟩⟩:=h
  ·rw [hM] at h1; cases h1
  ·rw [hM] at h1
   cases h1
   obtain ⟨e,fz,h4,h5⟩:=h2
   exact ⟨cur,trivial,h3,(Array.getElem?_eq_some_iff.1 h4).1⟩
theorem zMJ (hS : Sim GT w M I H) {b : Nat} {x : ABlk} (hb : H[b]? = some x) (hm : x.mut = true) {g o : Nat} (hM : M b = some (g,o)) (hos : w'.os = w.os) (htape : w'.tape = w.tape) (hout : w'.output = w.output) (hsize : w.heap.size ≤ w'.heap.size)
  (hfr : ∀ j,j < w.heap.size → j ≠ g → w'.heap[j]? = w.heap[j]?) (hshape : ∀ s,w.shape? g = some s → w'.shape? g = some s) {y : ABlk} {G : Nat → Prop} (hG : ∀ j,G j → (j = g ∧ y.mut = false) ∨ w.heap.size ≤ j) (hGl : ∀ j,G j → j < w'.heap.size)
  (hy : zGF w' M (fun j=>I j ∨ G j) H.length b y) :
  Grow w M I H w' M (fun j=>I j ∨ G j) (H.set b y) ∧ Sim GT w' M (fun j=>I j ∨ G j) (H.set b y):=by
 obtain ⟨cur,hcur,hnI,hglt⟩:=hS.mut_at hb hm hM
 have hblt:=(zg hb).1
 have live : zC2 H M g:=⟨b,x,o,hb,hm,hM⟩
 have shp : ∀ j s,w.shape? j = some s → w'.shape? j = some s:=fun j s hs=>by
  by_cases hj : j = g
  ·subst hj; exact hshape s hs
  ·have hlt : j < w.heap.size:=by
    rcases Nat.lt_or_ge j w.heap.size with h | h
    ·exact h
    ·simp [World.shape?,Array.getElem?_eq_none h] at hs
   rw [zd (hfr j hlt hj)]; exact hs
 have hIh : ∀ k,I k → w'.heap[k]? = w.heap[k]?:=fun k hk=>hfr k (hS.idom k hk) (fun e=>hnI (e ▸ hk))
 have other : ∀ b' x',(H.set b y)[b']? = some x' → b' ≠ b → H[b']? = some x':=fun b' x' h hne=>by rwa [List.getElem?_set_ne (Ne.symm hne)] at h
 have at_b : (H.set b y)[b]? = some y:=List.getElem?_set_self hblt
 refine ⟨⟨hos,htape,hout,hsize,fun _ _=>rfl,fun _ h=>.inl h,fun j hj hlt=>?_,fun j hlt hn=>hfr j hlt (fun e=>hn (e ▸ live)),fun j hlt hl=>?_,shp,by rw [List.length_set]; exact Nat.le_refl _⟩, ?_⟩
 ·rcases hj with hj | hj
  ·exact .inl hj
  ·rcases hG j hj with ⟨rfl,_⟩ | h
   ·exact .inr live
   ·omega
 ·obtain ⟨b',x',o',h1,h2,h3⟩:=hl
  by_cases e : b' = b
  ·subst e
   rw [hM] at h3
   cases h3
   exact live
  ·exact ⟨b',x',o',other b' x' h1 e,h2,h3⟩
 ·refine ⟨fun q z hz=>?_,fun k hk=>?_,fun b' x' hx=>?_,fun b1 b2 x1 x2 g1 o1 o2 h1 m1 h2 m2 e1 e2=>?_,fun q z hz=>?_⟩
  ·exact (hS.glob q z hz).mono (M':=M) (n:=0) (fun _ h=>.inl h) hIh (fun _ h=>absurd h (Nat.not_lt_zero _)) (Nat.zero_le _) shp
  ·rcases hk with hk | hk
   ·exact Nat.lt_of_lt_of_le (hS.idom k hk) hsize
   ·exact hGl k hk
  ·rw [List.length_set]
   by_cases e : b' = b
   ·subst e
    rw [at_b] at hx
    cases hx
    exact hy
   ·have hx':=other b' x' hx e
    have far : ∀ g1 o1,M b' = some (g1,o1) → x'.mut = true → g1 ≠ g ∧ g1 < w.heap.size:=fun g1 o1 h1 hm1=>by
     refine ⟨fun eg=>?_,(hS.mut_at hx' hm1 h1).choose_spec.2.2⟩
     subst eg
     exact e (hS.inj b' b x' x g1 o1 o hx' hm1 hb hm h1 hM)
    refine (hS.blk b' x' hx').mono (zg hx').1 (fun _ h=>.inl h) hIh (fun _ _=>rfl) (Nat.le_refl _) shp (fun g1 o1 h1 hm1=>?_) (fun g1 o1 h1 hm1 hn=>?_)
    ·exact hfr g1 (far g1 o1 h1 hm1).2 (far g1 o1 h1 hm1).1
    ·rintro (h | h)
     ·exact hn h
     ·rcases hG g1 h with ⟨rfl,_⟩ | h'
      ·exact (far _ o1 h1 hm1).1 rfl
      ·have:=(far g1 o1 h1 hm1).2
       omega
  ·have key : ∀ {b1 b2 : Nat} {x1 x2 : ABlk} {g1 o1 o2 : Nat},(H.set b y)[b1]? = some x1 → x1.mut = true → (H.set b y)[b2]? = some x2 → x2.mut = true → M b1 = some (g1,o1) → M b2 = some (g1,o2) → b1 = b → b2 = b:=by
    intro b1 b2 x1 x2 g1 o1 o2 h1 m1 h2 m2 e1 e2 e
    subst e
    by_cases e' : b2 = b1
    ·exact e'
    ·rw [hM] at e1
     cases e1
     exact hS.inj b2 b1 x2 x g o2 o (other b2 x2 h2 e') m2 hb hm e2 hM
   by_cases c1 : b1 = b
   ·exact c1.trans (key h1 m1 h2 m2 e1 e2 c1).symm
   ·by_cases c2 : b2 = b
    ·exact absurd (key h2 m2 h1 m1 e2 e1 c2) c1
    ·exact hS.inj b1 b2 x1 x2 g1 o1 o2 (other b1 x1 h1 c1) m1 (other b2 x2 h2 c2) m2 e1 e2
  ·obtain ⟨e,h⟩:=hS.shp q z hz
   exact ⟨e,shp q _ h⟩
theorem zKW (hS : Sim GT w M I H) {b k : Nat} {xs : List AV} (hb : H[b]? = some (.row k xs)) {g o : Nat} (hM : M b = some (g,o)) (hos : w'.os = w.os) (htape : w'.tape = w.tape) (hout : w'.output = w.output) (hsize : w.heap.size ≤ w'.heap.size)
  (hfr : ∀ j,j < w.heap.size → j ≠ g → w'.heap[j]? = w.heap[j]?) (hshape : ∀ s,w.shape? g = some s → w'.shape? g = some s) {ys : List AV} (he : Elems k ys) {cur' : Array Value} (hcur : Cells w' g cur' k) (hfit : o + ys.length * k ≤ cur'.size)
  (hcells : ∀ i j y c,ys[i]? = some y → y.cells[j]? = some c → ∃ v,cur'[o + i * k + j]? = some v ∧ ∀ M I n,Rel w' M I n c v) :
  ∃ M' I',Grow w M I H w' M' I' (H.set b (.row k ys)) ∧ Sim GT w' M' I' (H.set b (.row k ys)):=by
 obtain ⟨_,_,hnI,_⟩:=hS.mut_at hb rfl hM
 obtain ⟨h1,h2⟩:=zMJ (y:=.row k ys) (G:=fun _=>False) hS hb rfl hM hos htape hout hsize hfr hshape (fun _ hj=>hj.elim) (fun _ hj=>hj.elim) ⟨he,.inr ⟨g,o,cur',hM,hcur,by simpa using hnI,hfit,fun i j x c hx hj=>by
  obtain ⟨v,e1,e2⟩:=hcells i j x c hx hj
  exact ⟨v,e1,e2 _ _ _⟩⟩⟩
 exact ⟨M,_,h1,h2⟩
end
end Go.AM
