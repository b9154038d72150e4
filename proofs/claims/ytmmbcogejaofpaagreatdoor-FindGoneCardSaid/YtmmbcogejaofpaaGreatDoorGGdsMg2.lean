/- Several texts of mine in one (Gds, Mg0, Mg1, Mgc, Mg2). Own work. -/
import Derived.Test.YtmmbcogejaofpaaGreatDoorGAm33Wt0
import Derived.Test.YtmmbcogejaofpaaGreatDoorProg
import Derived.WalkKit
import Derived.Handy
import Derived.Sort.WalkC4
import Derived.StillTailTactics
import Derived.Sort.Grow
set_option linter.all false
namespace Go.AM
structure Goods (l : List Fil) : Prop where
 srt : Srtd l
 len : l.length ≤ 200
 each : ∀ f ∈ l,mayN f = 0 ∧ f.text ≠ []
theorem fils_of : ∀ (l : List Fil) (prev : Option Fil),Srtd l → (∀ f ∈ l,mayN f = 0 ∧ f.text ≠ []) → (∀ p,prev = some p → ∀ f ∈ l,p.row < f.row ∨ (p.row = f.row ∧ p.col < f.col)) → zEt prev l = 0
 | [],_,_,_,_=>rfl
 | f :: r,prev,hs,he,hp=>by
  have h0 : filN prev f = 0:=by
   obtain ⟨h1,h2⟩:=he f (List.mem_cons_self ..)
   unfold mayN at h1
   unfold filN
   cases hc : okC f.col f.row with
   | false=>rw [hc] at h1; cases h1
   | true=>
    rw [hc,if_pos rfl] at h1
    rw [if_neg (by simp)]
    cases prev with
    | none=>
     show (if f.text = [] then 3 else zBh f.text) = 0
     rw [if_neg h2]; exact h1
    | some p=>
     have hl:=(lessC_iff p f).2 (hp p rfl f (List.mem_cons_self ..))
     show (if zEs p f = false then 5 else if f.text = [] then 3 else zBh f.text) = 0
     rw [hl,if_neg (by simp),if_neg h2]
     exact h1
  unfold zEt
  rw [if_pos h0]
  exact fils_of r (some f) (List.pairwise_cons.1 hs).2 (fun g hg=>he g (List.mem_cons_of_mem _ hg)) (fun p hpe g hg=>by cases hpe; exact (List.pairwise_cons.1 hs).1 g hg)
theorem Goods.check {l : List Fil} (h : Goods l) : zAV l = 0:=by
 unfold zAV
 rw [if_neg (by have:=h.len; omega)]
 exact fils_of l none h.srt h.each (fun p hp=>by cases hp)
theorem filsN_each : ∀ (l : List Fil) (prev : Option Fil),zEt prev l = 0 → ∀ f ∈ l,mayN f = 0 ∧ f.text ≠ []
 | [],_,_,f,hf=>absurd hf (by simp)
 | g :: r,prev,h,f,hf=>by
  unfold zEt at h
  by_cases h0 : filN prev g = 0
  ·rw [if_pos h0] at h
   rcases List.mem_cons.1 hf with rfl | hf
   ·unfold filN at h0
    unfold mayN
    cases hc : okC f.col f.row with
    | false=>rw [hc,if_pos rfl] at h0; cases h0
    | true=>
     rw [hc,if_neg (by simp)] at h0
     rw [if_pos rfl]
     have h0 : (if f.text = [] then 3 else zBh f.text) = 0:=by
      cases prev with
      | none=>exact h0
      | some p=>
       have h0 : (if zEs p f = false then 5 else if f.text = [] then 3 else zBh f.text) = 0:=h0
       by_cases hp : zEs p f = false
       ·rw [if_pos hp] at h0; cases h0
       ·rwa [if_neg hp] at h0
     by_cases he : f.text = []
     ·rw [if_pos he] at h0; cases h0
     ·rw [if_neg he] at h0; exact ⟨h0,he⟩
   ·exact filsN_each r _ h f hf
  ·rw [if_neg h0] at h; exact absurd h h0
theorem goods_of {l : List Fil} (h : zAV l = 0) : Goods l:=by
 refine ⟨srtd_check h,(zIF h).1, ?_⟩
 unfold zAV at h
 by_cases h1 : 200 < l.length
 ·rw [if_pos h1] at h; cases h
 ·rw [if_neg h1] at h; exact filsN_each l none h
theorem Goods.nil : Goods []:=⟨Srtd.nil,by simp,fun f hf=>absurd hf (by simp)⟩
theorem Goods.take {l : List Fil} (h : Goods l) (n : Nat) : Goods (l.take n):=⟨h.srt.sublist (List.take_sublist n l),by rw [List.length_take]; have:=h.len; omega,fun f hf=>h.each f (List.mem_of_mem_take hf)⟩
end Go.AM
namespace Go.AM
def zB1 (f : Fil) : Int × Int:=(f.col,f.row)
def zAE (l : List Fil) (p : Int × Int) : Bs:=match l with
 | []=>[]
 | f :: r=>if p = zB1 f then f.text else zAE r p
def ltK (p q : Int × Int) : Prop:=p.2 < q.2 ∨ (p.2 = q.2 ∧ p.1 < q.1)
theorem zEl (p : Int × Int) : ¬ ltK p p:=by unfold ltK; omega
theorem ltK_trans {p q r : Int × Int} (h : ltK p q) (k : ltK q r) : ltK p r:=by unfold ltK at *; omega
def Asc (l : List (Int × Int)) : Prop:=l.Pairwise ltK
theorem asc_ext : ∀ {a b : List (Int × Int)},Asc a → Asc b → (∀ p,p ∈ a ↔ p ∈ b) → a = b
 | [],[],_,_,_=>rfl
 | [],q :: b,_,_,h=>absurd ((h q).2 (by simp)) (by simp)
 | p :: a,[],_,_,h=>absurd ((h p).1 (by simp)) (by simp)
 | p :: a,q :: b,ha,hb,h=>by
  have ha':=List.pairwise_cons.1 ha
  have hb':=List.pairwise_cons.1 hb
  have e : p = q:=by
   have h1:=(h p).1 (by simp)
   have h2:=(h q).2 (by simp)
   rcases List.mem_cons.1 h1 with h1 | h1
   ·exact h1
   ·rcases List.mem_cons.1 h2 with h2 | h2
    ·exact h2.symm
    ·exact absurd (ltK_trans (ha'.1 q h2) (hb'.1 p h1)) (zEl p)
  subst e
  rw [asc_ext ha'.2 hb'.2 fun r=>?_]
  constructor
  ·intro hr
   rcases List.mem_cons.1 ((h r).1 (List.mem_cons_of_mem _ hr)) with rfl | h2
   ·exact absurd (ha'.1 r hr) (zEl r)
   ·exact h2
  ·intro hr
   rcases List.mem_cons.1 ((h r).2 (List.mem_cons_of_mem _ hr)) with rfl | h2
   ·exact absurd (hb'.1 r hr) (zEl r)
   ·exact h2
theorem srtd_keys {l : List Fil} (h : Srtd l) : Asc (l.map zB1):=List.pairwise_map.2 (h.imp fun {a b} k=>k)
theorem zCX {l : List Fil} (h : Srtd l) {f : Fil} (hf : f ∈ l) : zAE l (zB1 f) = f.text:=by
 induction l with
 | nil=>cases hf
 | cons g r ih=>
  have hp:=List.pairwise_cons.1 h
  unfold zAE
  rcases List.mem_cons.1 hf with rfl | hf
  ·rw [if_pos rfl]
  ·have : zB1 f ≠ zB1 g:=fun e=>by
    have:=hp.1 f hf
    have e1 : f.col = g.col:=congrArg Prod.fst e
    have e2 : f.row = g.row:=congrArg Prod.snd e
    omega
   rw [if_neg this]
   exact ih hp.2 hf
theorem zF5 {l : List Fil} {p : Int × Int} (h : p ∉ l.map zB1) : zAE l p = []:=by
 induction l with
 | nil=>rfl
 | cons g r ih=>
  simp only [List.map_cons,List.mem_cons,not_or] at h
  unfold zAE
  rw [if_neg h.1]
  exact ih h.2
theorem textAt_some {l : List Fil} {p : Int × Int} (h : zAE l p ≠ []) : p ∈ l.map zB1:=Classical.byContradiction fun k=>h (zF5 k)
theorem mfind_no {p : Int × Int} : ∀ {ks : List (Int × Int)},p ∉ ks → mfind p ks = none
 | [],_=>rfl
 | x :: ks,h=>by
  simp only [List.mem_cons,not_or] at h
  unfold mfind
  rw [if_neg h.1,mfind_no h.2]
  rfl
def txV (f : Fil) : AV:=.str f.text
theorem mget_text (l : List Fil) (p : Int × Int) : (match mfind p (l.map zB1) with
  | some i=>((l.map txV)[i]?).map fun v=>if false then AV.tup [v,.bool true] else v
  | none=>some (if false then AV.tup [.str [],.bool false] else .str [])) = some (.str (zAE l p)):=by
 induction l with
 | nil=>rfl
 | cons f r ih=>
  simp only [List.map_cons,mfind,zAE]
  by_cases h : p = zB1 f
  ·rw [if_pos h,if_pos h]; rfl
  ·rw [if_neg h,if_neg h]
   cases hm : mfind p (r.map zB1) with
   | none=>rw [hm] at ih; exact ih
   | some i=>rw [hm] at ih; exact ih
theorem mgetV_text {H : Heap} {m : AV} {l : List Fil} (hm : mview H m = some (l.map zB1,l.map txV)) (c r : Int) : mgetV H (.str []) false m (zB7 c r) = some (.str (zAE l (c,r))):=by
 have e : keyAV (zB7 c r) = some (c,r):=rfl
 unfold mgetV
 rw [hm]
 simp only [e]
 exact mget_text l (c,r)
theorem mput_new {l : List Fil} {f : Fil} (h : Srtd (l ++ [f])) : mput (zB1 f) (txV f) (l.map zB1) (l.map txV) = ((l ++ [f]).map zB1,(l ++ [f]).map txV):=by
 have hp:=List.pairwise_append.1 h
 have hn : zB1 f ∉ l.map zB1:=fun hm=>by
  obtain ⟨g,hg,e⟩:=List.mem_map.1 hm
  have:=hp.2.2 g hg f (by simp)
  have e1 : g.col = f.col:=congrArg Prod.fst e
  have e2 : g.row = f.row:=congrArg Prod.snd e
  omega
 unfold mput
 rw [mfind_no hn]
 simp
def zGy (a b : List Fil) (cs : List (Int × Int)) : List Fil:=(cs.filter fun p=>decide (zAE a p ≠ zAE b p)).map fun p=>⟨p.1,p.2,zAE b p⟩
def IsCells (ls : List (List Fil)) (cs : List (Int × Int)) : Prop:=Asc cs ∧ ∀ p,p ∈ cs ↔ ∃ l ∈ ls,p ∈ l.map zB1
end Go.AM
namespace Go.AM
theorem textAt_of {l : List Fil} (h : Srtd l) {p : Int × Int} {t : Bs} (hm : ∃ f ∈ l,zB1 f = p ∧ f.text = t) : zAE l p = t:=by
 obtain ⟨f,hf,rfl,rfl⟩:=hm
 exact zCX h hf
def leK (p q : Int × Int) : Bool:=decide (p.2 < q.2 ∨ (p.2 = q.2 ∧ p.1 ≤ q.1))
def zBi (l : List (Int × Int)) : List (Int × Int):=l.mergeSort leK
def zM : List (Int × Int) → List (Int × Int)
 | []=>[]
 | [x]=>[x]
 | x :: y :: r=>if x = y then zM (y :: r) else x :: zM (y :: r)
theorem leK_trans (p q r : Int × Int) (h : leK p q = true) (k : leK q r = true) : leK p r = true:=by unfold leK at *; simp only [decide_eq_true_eq] at *; omega
theorem leK_total (p q : Int × Int) : (leK p q || leK q p) = true:=by unfold leK; simp only [Bool.or_eq_true,decide_eq_true_eq]; omega
theorem leK_anti {p q : Int × Int} (h : leK p q = true) (k : leK q p = true) : p = q:=by
 unfold leK at *
 simp only [decide_eq_true_eq] at *
 exact Prod.ext tO tO
theorem zCY (l : List (Int × Int)) : (zBi l).Perm l:=List.mergeSort_perm l leK
theorem sortK_asc (l : List (Int × Int)) : (zBi l).Pairwise fun a b=>leK a b = true:=List.pairwise_mergeSort leK_trans leK_total l
theorem zBm : ∀ (l : List (Int × Int)) (p : Int × Int),p ∈ zM l ↔ p ∈ l
 | [],p=>by simp [zM]
 | [x],p=>by simp [zM]
 | x :: y :: r,p=>by
  unfold zM
  by_cases e : x = y
  ·rw [if_pos e,zBm (y :: r) p,e]; simp
  ·rw [if_neg e,List.mem_cons,zBm (y :: r) p,← List.mem_cons]
theorem zGh : ∀ (l : List (Int × Int)),(l.Pairwise fun a b=>leK a b = true) → Asc (zM l)
 | [],_=>List.Pairwise.nil
 | [x],_=>List.pairwise_singleton _ _
 | x :: y :: r,h=>by
  have hp:=List.pairwise_cons.1 h
  have ih:=zGh (y :: r) hp.2
  unfold zM
  by_cases e : x = y
  ·rw [if_pos e]; exact ih
  ·rw [if_neg e]
   refine List.pairwise_cons.2 ⟨fun q hq=>?_,ih⟩
   have hq:=(zBm _ _).1 hq
   have h1:=hp.1 q hq
   have hne : x ≠ q:=fun ee=>by
    subst ee
    have h2:=hp.1 y (by simp)
    rcases List.mem_cons.1 hq with h3 | h3
    ·exact e h3
    ·exact e (leK_anti h2 ((List.pairwise_cons.1 hp.2).1 x h3))
   unfold leK at h1
   simp only [decide_eq_true_eq] at h1
   have : ¬ (x.1 = q.1 ∧ x.2 = q.2):=fun k=>hne (Prod.ext k.1 k.2)
   unfold ltK
   omega
def zCH (ls : List (List Fil)) : List (Int × Int):=zM (zBi (ls.flatMap fun l=>l.map zB1))
theorem cellsS_is (ls : List (List Fil)) : IsCells ls (zCH ls):=by
 refine ⟨zGh _ (sortK_asc _),fun p=>?_⟩
 unfold zCH
 rw [zBm,(zCY _).mem_iff,List.mem_flatMap]
theorem sortK_eq {a l : List (Int × Int)} (hp : a.Perm l) (hs : a.Pairwise fun p q=>leK p q = true) : a = zBi l:=
 List.Perm.eq_of_pairwise (fun p q _ _ h k=>leK_anti h k) hs (sortK_asc l) (hp.trans (zCY l).symm)
theorem zF6 : ∀ (l : List (Int × Int)) (x y : Int × Int),zM (l ++ [x,y]) = if x = y then zM (l ++ [x]) else zM (l ++ [x]) ++ [y]
 | [],x,y=>by
  show zM [x,y] = _
  unfold zM
  by_cases e : x = y
  ·rw [if_pos e,if_pos e]; simp [zM,e]
  ·rw [if_neg e,if_neg e]; simp [zM]
 | [z],x,y=>by
  show zM [z,x,y] = if x = y then zM [z,x] else zM [z,x] ++ [y]
  have e3 : ∀ p q : Int × Int,zM [p,q] = if p = q then [q] else [p,q]:=fun p q=>by simp [zM]
  rw [show zM [z,x,y] = if z = x then zM [x,y] else z :: zM [x,y] from zM.eq_3 z x [y],e3,e3]
  by_cases e : x = y <;> by_cases e2 : z = x <;> simp [e,e2]
 | z :: w :: l,x,y=>by
  have ih:=zF6 (w :: l) x y
  show zM (z :: w :: (l ++ [x,y])) = if x = y then zM (z :: w :: (l ++ [x])) else zM (z :: w :: (l ++ [x])) ++ [y]
  rw [zM.eq_3,zM.eq_3]
  have ih : zM (w :: (l ++ [x,y])) = if x = y then zM (w :: (l ++ [x])) else zM (w :: (l ++ [x])) ++ [y]:=ih
  rw [ih]
  by_cases e : x = y <;> by_cases e2 : z = w <;> simp [e,e2]
end Go.AM
set_option maxRecDepth 100000
namespace Go.Proofs.YtmmbcogejaofpaaGreatDoor
open Go.AM Go.RowKit Go.Proofs Go.Sort Go.Lib
theorem nan_calls (x : Int) (W : World) : Calls Tryz.prog 67 #[.int .i64 x] W fun e w'=>e = .returned (.bool false) ∧ w' = W:=by
 go_enter Tryz.func67,Tryz.ntmps67
 go_wp2
 go_ret
 exact ⟨by simp,rfl⟩
set_option maxHeartbeats 1000000 in
theorem ccmp_calls (x y : Int) (W : World) : Calls Tryz.prog 44 #[.int .i64 x,.int .i64 y] W fun e w'=>e = .returned (.int .i64 (cmp3 x y)) ∧ w' = W:=by
 have hcon:=fun (x : Int) W'=>nan_calls x W'
 go_enter Tryz.func44,Tryz.ntmps44
 go_wp2_with (go_at_call 67; refine (hcon _ _).mono ?_; rintro e w' ⟨rfl,rfl⟩)
 all_goals (go_ret; refine ⟨?_,rfl⟩; unfold cmp3; (repeat' split) <;> first | rfl | (exfalso; omega))
set_option maxHeartbeats 1000000 in
theorem cor_calls (blk : Nat) (x y : Int) (W : World) (h0 : W.cell? ⟨blk,0,none⟩ = some (.int .i64 x)) (h1 : W.cell? ⟨blk,1,none⟩ = some (.int .i64 y)) :
  Calls Tryz.prog 43 #[.slice (some ⟨blk,0,none⟩) 2 2] W fun e w'=>e = .returned (.int .i64 (if x ≠ 0 then x else y)) ∧ w' = W:=by
 by_cases hx : x = 0 <;> by_cases hy : y = 0
 all_goals
  go_enter Tryz.func43,Tryz.ntmps43
  go_wp2
  go_rounds 3
  all_goals (try go_ret)
 all_goals first | (exfalso; omega) | (refine ⟨?_,rfl⟩; simp [hx,hy]; done) | (refine ⟨?_,rfl⟩; simp [hx]; done)
theorem two_cells (W : World) (a b c d : Value) (t : TypeId) (n : Nat) (W3 : World) (h : ({ (W.alloc (.cells #[a,b] t)).alloc (.cells #[c,d] t) with drawn:=n } : World) = W3) :
  W3.cell? ⟨W.heap.size,0,none⟩ = some a ∧ W3.cell? ⟨W.heap.size,1,none⟩ = some b ∧ W3.cell? ⟨W.heap.size + 1,0,none⟩ = some c ∧ W3.cell? ⟨W.heap.size + 1,1,none⟩ = some d:=by
 have hh : W3.heap = (W.heap.push (.cells #[a,b] t)).push (.cells #[c,d] t):=by rw [← h]; rfl
 have g0 : W3.heap[W.heap.size]? = some (.cells #[a,b] t):=by rw [hh,Array.getElem?_push,Array.size_push,if_neg tO,Array.getElem?_push,if_pos rfl]
 have g1 : W3.heap[W.heap.size + 1]? = some (.cells #[c,d] t):=by rw [hh,Array.getElem?_push,Array.size_push,if_pos rfl]
 refine ⟨?_, ?_, ?_, ?_⟩
 ·simp only [World.cell?,g0]; rfl
 ·simp only [World.cell?,g0]; rfl
 ·simp only [World.cell?,g1]; rfl
 ·simp only [World.cell?,g1]; rfl
theorem new_cells (W : World) (a b : Value) (t : TypeId) : (W.alloc (.cells #[a,b] t)).cell? ⟨W.heap.size,0,none⟩ = some a ∧ (W.alloc (.cells #[a,b] t)).cell? ⟨W.heap.size,1,none⟩ = some b:=by
 have hh : (W.alloc (.cells #[a,b] t)).heap = W.heap.push (.cells #[a,b] t):=rfl
 have g0 : (W.alloc (.cells #[a,b] t)).heap[W.heap.size]? = some (.cells #[a,b] t):=by rw [hh,Array.getElem?_push,if_pos rfl]
 refine ⟨?_, ?_⟩
 ·simp only [World.cell?,g0]; rfl
 ·simp only [World.cell?,g0]; rfl
theorem three_grow (W : World) (A B X : Obj) : ({ (W.alloc A).alloc B with drawn:=((W.alloc A).alloc B).drawn + 1 } : World).alloc X = grow (W.drewN 1) #[A,B,X]:=by
 have : ((W.heap.push A).push B).push X = W.heap ++ #[A,B,X]:=by apply Array.ext'; simp only [Array.toList_push,Array.toList_append,List.append_assoc,List.cons_append,List.nil_append]
 unfold World.alloc grow World.drewN
 simp only [this]
set_option maxHeartbeats 2000000 in
theorem acmp_calls (x y : Int × Int) (W : World) : Calls Tryz.prog 28 #[.agg #[.int .i64 x.1,.int .i64 x.2],.agg #[.int .i64 y.1,.int .i64 y.2]] W fun e w'=>e = .returned (.int .i64 (cmpC x.1 x.2 y.1 y.2)) ∧ ∃ q os',w' = grow (W.drewN q) os':=by
 have hcon:=fun (x y : Int) W'=>ccmp_calls x y W'
 go_enter Tryz.func28,Tryz.ntmps28
 go_wp2_with (first | (go_at_call 44; refine (hcon _ _ _).mono ?_; rintro e w' ⟨rfl,rfl⟩))
 obtain ⟨W2,hW2⟩ : ∃ W2,(W.alloc (.cells #[.int .i64 x.1,.int .i64 x.2] 34)).alloc (.cells #[.int .i64 y.1,.int .i64 y.2] 34) = W2:=⟨_,rfl⟩
 rw [hW2]
 refine wp_region_still_tail 10 (by kernel_rfl) (by kernel_rfl) ?_
 simp only [List.take_succ_cons,List.take_zero,List.drop_succ_cons,List.drop_zero]
 obtain ⟨W3,hW3⟩ : ∃ W3,({ W2 with drawn:=W2.drawn + 1 } : World) = W3:=⟨_,rfl⟩
 rw [hW3]
 obtain ⟨x0,x1,y0,y1⟩:=two_cells W _ _ _ _ _ _ W3 (by rw [← hW3,← hW2])
 still_step; still_step; still_step; still_step
 still_call (hcon x.2 y.2 _)
 still_step; still_step; still_step; still_step
 still_call (hcon x.1 y.1 _)
 refine wpStill_nil ?_
 have hor:=fun (a b : Int) (t : TypeId)=>cor_calls W3.heap.size a b (W3.alloc (.cells #[.int .i64 a,.int .i64 b] t)) (new_cells W3 _ _ t).1 (new_cells W3 _ _ t).2
 go_wp2_with (first | (go_at_call 43; refine (hor _ _ _).mono ?_; rintro e w' ⟨rfl,rfl⟩))
 all_goals
  go_ret
  rw [← hW3,← hW2,three_grow]
  refine ⟨?_,1,_,rfl⟩
  unfold cmpC
  simp_all
end Go.Proofs.YtmmbcogejaofpaaGreatDoor
namespace Go.AM
def bothP (w a b : List Fil) (p : Int × Int) : Prop:=zAE a p ≠ zAE w p ∧ zAE b p ≠ zAE w p ∧ zAE a p ≠ zAE b p
instance (w a b : List Fil) (p : Int × Int) : Decidable (bothP w a b p):=by unfold bothP; infer_instance
end Go.AM
