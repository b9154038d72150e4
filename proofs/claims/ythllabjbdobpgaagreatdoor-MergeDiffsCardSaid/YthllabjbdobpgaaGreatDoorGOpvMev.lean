/- Several texts of mine in one (Opv, Mg4, MsL, Msf, Mev). Own work. -/
import Derived.Test.YthllabjbdobpgaaGreatDoorWt0
import Derived.Test.YthllabjbdobpgaaGreatDoorGGdsMg2
import Derived.Shelf.SlLaysF0
import Derived.Ground.SlsfProg
import Derived.Ground.NamesProg
import Derived.Test.YthllabjbdobpgaaGreatDoorProg
import Derived.Test.YthllabjbdobpgaaGreatDoorGGqBe0
import Derived.Shelf.SlSortCmp.WholeK
import Derived.Test.YthllabjbdobpgaaGreatDoorGAm30Fp1
import Derived.Test.YthllabjbdobpgaaGreatDoorGAm23Am29
set_option linter.all false
namespace Go.AM
theorem withS_nil (c r : Int) : zBj [] c r [] = []:=by simp [zBj]
def opV (q : Bool) (l : List Fil) : AV:=.lst (some q) (if q = true then 0 else 3) (l.map zR)
theorem withV_op (q : Bool) (l : List Fil) (hq : q = true → l = []) (c r : Int) (t : Bs) : (if q = true ∧ t = [] then AV.lst (some true) 0 [] else .lst (some false) 3 ((zBj l c r t).map zR)) = opV (q && decide (t = [])) (zBj l c r t):=by
 by_cases h : q = true ∧ t = []
 ·obtain ⟨rfl,rfl⟩:=h
  rw [hq rfl,withS_nil]
  rfl
 ·rw [if_neg h]
  have : (q && decide (t = [])) = false:=by
   cases q
   ·rfl
   ·simp only [true_and] at h
    simp [h]
  rw [this]
  rfl
end Go.AM
namespace Go.AM
def cV (p : Int × Int) : AV:=zn p.1 p.2
def zAb : List (List Fil) → Nat
 | []=>0
 | l :: r=>if zAP l = 0 then zAb r else zAP l
theorem checkAll_drop (ls : List (List Fil)) (i : Nat) (l : List Fil) (h : ls[i]? = some l) : zAb (ls.drop i) = if zAP l = 0 then zAb (ls.drop (i + 1)) else zAP l:=by
 have hi:=(zg h).1
 rw [List.drop_eq_getElem_cons hi,(zg h).2]
 rfl
theorem zIm : ∀ {ls : List (List Fil)},zAb ls = 0 → ∀ l ∈ ls,Goods l
 | [],_,l,h=>absurd h (by simp)
 | g :: ls,h,l,hl=>by
  unfold zAb at h
  by_cases h0 : zAP g = 0
  ·rw [if_pos h0] at h
   rcases List.mem_cons.1 hl with rfl | hl
   ·exact zJq h0
   ·exact zIm h l hl
  ·rw [if_neg h0] at h; exact absurd h h0
theorem zIM : ∀ {ls : List (List Fil)},(∀ l ∈ ls,Goods l) → zAb ls = 0
 | [],_=>rfl
 | g :: ls,h=>by
  unfold zAb
  rw [if_pos (h g (by simp)).check]
  exact zIM fun l hl=>h l (List.mem_cons_of_mem _ hl)
def zKT (a b : List Fil) : List Fil:=zEv a b (zDt [a,b])
def zLG (a b : List Fil) : AV:=if zAb [a,b] = 0 then zIo 3 ((zKT a b).map zR) else .lst (some true) 0 []
theorem diffL_keys (a b : List Fil) : (zKT a b).map zDa = (zDt [a,b]).filter fun p=>decide (zAJ a p ≠ zAJ b p):=by
 unfold zKT zEv
 rw [List.map_map]
 exact List.map_id _
theorem compactL_len (xs : List (Int × Int)) : (zk xs).length ≤ xs.length:=by
 induction xs using zk.induct with
 | case1=>simp [zk]
 | case2 x=>simp [zk]
 | case3 x r ih=>rw [zk,if_pos rfl]; simp only [List.length_cons] at *; omega
 | case4 x y r h ih=>rw [zk,if_neg h]; simp only [List.length_cons] at *; omega
theorem cellsS_len (ls : List (List Fil)) : (zDt ls).length ≤ (ls.map List.length).sum:=by
 unfold zDt
 have h1:=compactL_len (zDR (ls.flatMap fun l=>l.map zDa))
 have h2:=(zEa (ls.flatMap fun l=>l.map zDa)).length_eq
 have h3 : (ls.flatMap fun l=>l.map zDa).length = (ls.map List.length).sum:=by
  rw [List.length_flatMap]
  simp
 omega
theorem diffL_len {a b : List Fil} (ha : Goods a) (hb : Goods b) : (zKT a b).length ≤ 400:=by
 have h0 : ((zKT a b).map zDa).length ≤ (zDt [a,b]).length:=by rw [diffL_keys]; exact List.length_filter_le _ _
 have h1:=cellsS_len [a,b]
 have h2:=ha.len
 have h3:=hb.len
 simp only [List.length_map] at h0
 simp at h1
 omega
end Go.AM
namespace Go.Proofs
open Go.Shelf
def Tryz.ownSort_ren : Go.Shelf.Ren:=⟨fun | 6=>31 | 15=>46 | 14=>45 | 28=>70 | 29=>71 | 20=>62 | 21=>63 | 22=>64 | 23=>65 | 24=>66 | 25=>67 | 26=>68 | 27=>69 | 46=>88 | 47=>89 | 48=>90 | 49=>91 | 50=>92 | 57=>108 | n=>n,fun | 22=>24 | 24=>41 | 25=>68 | 3=>3 | 39=>89 | 0=>0 | 53=>117 | 55=>119 | 4=>4 | 46=>111 | 45=>110 | 50=>74 | 5=>5 | 9=>9 | 66=>144 | 70=>148 | 76=>177 | 77=>178 | n=>n,fun | n=>n⟩
theorem Tryz.ownSort : Go.Proofs.SlLaysF0.n6 Tryz.prog Tryz.ownSort_ren:={
 mixed:=by kernel_rfl
 f6:=⟨Tryz.f31.name,by decide,Tryz.func31.trans (congrArg some (by kernel_rfl))⟩
 f14:=⟨Tryz.f45.name,by decide,Tryz.func45.trans (congrArg some (by kernel_rfl))⟩
 f15:=Tryz.func46.trans (congrArg some (by kernel_rfl))
 f20:=⟨Tryz.f62.name,by decide,Tryz.func62.trans (congrArg some (by kernel_rfl))⟩
 f21:=⟨Tryz.f63.name,by decide,Tryz.func63.trans (congrArg some (by kernel_rfl))⟩
 f22:=⟨Tryz.f64.name,by decide,Tryz.func64.trans (congrArg some (by kernel_rfl))⟩
 f23:=⟨Tryz.f65.name,by decide,Tryz.func65.trans (congrArg some (by kernel_rfl))⟩
 f24:=⟨Tryz.f66.name,by decide,Tryz.func66.trans (congrArg some (by kernel_rfl))⟩
 f25:=⟨Tryz.f67.name,by decide,Tryz.func67.trans (congrArg some (by kernel_rfl))⟩
 f26:=⟨Tryz.f68.name,by decide,Tryz.func68.trans (congrArg some (by kernel_rfl))⟩
 f27:=⟨Tryz.f69.name,by decide,Tryz.func69.trans (congrArg some (by kernel_rfl))⟩
 f28:=Tryz.func70.trans (congrArg some (by kernel_rfl))
 f29:=Tryz.func71.trans (congrArg some (by kernel_rfl))
 f46:=⟨Tryz.f88.name,by decide,Tryz.func88.trans (congrArg some (by kernel_rfl))⟩
 f47:=Tryz.func89.trans (congrArg some (by kernel_rfl))
 f48:=Tryz.func90.trans (congrArg some (by kernel_rfl))
 f49:=⟨Tryz.f91.name,by decide,Tryz.func91.trans (congrArg some (by kernel_rfl))⟩
 f50:=⟨Tryz.f92.name,by decide,Tryz.func92.trans (congrArg some (by kernel_rfl))⟩
 f57:=⟨Tryz.f108.name,by decide,Tryz.func108.trans (congrArg some (by kernel_rfl))⟩
 t0:=Tryz.underlying0
 a0:=Tryz.isAgg0
 z0:=Tryz.sizeOf0
 v0:=Tryz.zeroValue0
 t3:=Tryz.underlying3
 a3:=Tryz.isAgg3
 z3:=Tryz.sizeOf3
 v3:=Tryz.zeroValue3
 t4:=Tryz.underlying4
 a4:=Tryz.isAgg4
 z4:=Tryz.sizeOf4
 v4:=Tryz.zeroValue4
 t5:=Tryz.underlying5
 a5:=Tryz.isAgg5
 z5:=Tryz.sizeOf5
 v5:=Tryz.zeroValue5
 t9:=Tryz.underlying9
 a9:=Tryz.isAgg9
 z9:=Tryz.sizeOf9
 v9:=Tryz.zeroValue9
 t22:=Tryz.underlying24
 a22:=Tryz.isAgg24
 z22:=Tryz.sizeOf24
 v22:=Tryz.zeroValue24
 t25:=Tryz.underlying68
 a25:=Tryz.isAgg68
 z25:=Tryz.sizeOf68
 v25:=Tryz.zeroValue68
 t39:=Tryz.underlying89
 a39:=Tryz.isAgg89
 z39:=Tryz.sizeOf89
 v39:=Tryz.zeroValue89
 t45:=Tryz.underlying110
 a45:=Tryz.isAgg110
 z45:=Tryz.sizeOf110
 v45:=Tryz.zeroValue110
 t46:=Tryz.underlying111
 a46:=Tryz.isAgg111
 z46:=Tryz.sizeOf111
 v46:=Tryz.zeroValue111
 t50:=Tryz.underlying74
 a50:=Tryz.isAgg74
 z50:=Tryz.sizeOf74
 v50:=Tryz.zeroValue74
 t53:=Tryz.underlying117
 a53:=Tryz.isAgg117
 z53:=Tryz.sizeOf117
 v53:=Tryz.zeroValue117
 t55:=Tryz.underlying119
 a55:=Tryz.isAgg119
 z55:=Tryz.sizeOf119
 v55:=Tryz.zeroValue119
 t66:=Tryz.underlying144
 a66:=Tryz.isAgg144
 z66:=Tryz.sizeOf144
 v66:=Tryz.zeroValue144
 t70:=Tryz.underlying148
 a70:=Tryz.isAgg148
 z70:=Tryz.sizeOf148
 v70:=Tryz.zeroValue148
 t76:=Tryz.underlying177
 a76:=Tryz.isAgg177
 z76:=Tryz.sizeOf177
 v76:=Tryz.zeroValue177
 t77:=Tryz.underlying178
 a77:=Tryz.isAgg178
 z77:=Tryz.sizeOf178
 v77:=Tryz.zeroValue178 }
end Go.Proofs
set_option maxRecDepth 100000
namespace Go.Proofs.YthllabjbdobpgaaGreatDoor
open Go.AM Go.Shelf Go.RowKit Go.Lib Go.Sort Go.Proofs
def encK (x : Int × Int) : List Value:=[.int .i64 x.1,.int .i64 x.2]
def cfK (x y : Int × Int) : Int:=zMd x.1 x.2 y.1 y.2
instance (p q : Int × Int) : Decidable (ltK p q):=by unfold ltK; infer_instance
theorem ltK_of (x y : Int × Int) : ltOf cfK x y = decide (ltK x y):=by
 unfold ltOf cfK
 rw [decide_eq_decide,zMe]
 rfl
theorem swoK : SWO (ltOf cfK) where
 irrefl x:=by rw [ltK_of]; exact tF (zHr x)
 trans x y z h1 h2:=by rw [ltK_of] at *; simp only [decide_eq_true_eq] at *; exact ltK_trans h1 h2
 ntrans x y z h1 h2:=by rw [ltK_of] at *; simp only [decide_eq_false_iff_not] at *; unfold ltK at *; omega
theorem cmp_lays (blk off size : Nat) (w : World) : CmpLays Tryz.prog 32 #[] encK 2 cfK blk off size w:=fun _ _ _ _ x y=>acmp_calls x y _
theorem sort_calls (blk off cap : Nat) (d : List (Int × Int)) (w : World) (hH : HoldsK encK 2 w blk off d.toArray) (hblk : blk < w.heap.size) (hsz : d.length ≤ 1000) :
  Calls Tryz.prog 31 #[.slice (some ⟨blk,off,none⟩) d.length cap,.func (.func 32) #[] #[]] w fun e w'=>e = .returned (.tuple #[]) ∧ ∃ n os,w' = sortWorldK encK 2 w blk off n (zDR d).toArray os:=by
 have eg : ∀ args w,(callFunc 32 args).run Tryz.prog w = .ok (.enter 32 args) w:=enters_of Tryz.func32 (by kernel_rfl) rfl
 have hcon:=AnyQ.slices_SortFunc Tryz.ownSort 2 (by intro w; kernel_rfl) (by intro w; kernel_rfl) encK (fun _=>rfl) (fun x v hv=>by simp [encK] at hv; rcases hv with rfl | rfl <;> rfl) cfK swoK 32 #[] blk off cap d.toArray w eg (cmp_lays blk off _ w) hH hblk (by simp; omega)
 refine hcon.mono ?_
 rintro e w' ⟨he,d',n,os,hp,hs,hw⟩
 refine ⟨he,n,os, ?_⟩
 have hsz' : d'.size = d.length:=by simpa using hp.1
 have e1 : d'.toList = zDR d:=by
  refine sortK_eq ?_ ?_
  ·have:=hp.2.2
   have x1 : d'.extract 0 d.toArray.size = d':=by apply Array.ext' ; simp [← hsz']
   have x2 : d.toArray.extract 0 d.toArray.size = d.toArray:=by apply Array.ext'; simp
   rw [x1,x2] at this
   simpa using this
  ·rw [List.pairwise_iff_getElem]
   intro i j hi hj hij
   have:=hs i j (Nat.zero_le _) hij (by simp at hj; simpa [hsz'] using hj)
   rw [ltK_of,decide_eq_false_iff_not] at this
   have hi' : i < d'.size:=by simpa using hi
   have hj' : j < d'.size:=by simpa using hj
   rw [getElem!_pos d' i hi',getElem!_pos d' j hj'] at this
   simp only [Array.getElem_toList]
   unfold leK
   unfold ltK at this
   simp only [decide_eq_true_eq]
   omega
 rw [hw,← e1]
theorem sort_world (w : World) (blk off n : Nat) (dk : Array (Int × Int)) (os : Array Obj) {cur : Array Value} {e : TypeId} {fz : Nat × Nat} (hg : w.heap[blk]? = some (.cells cur e fz)) {w' : World} (h : w' = sortWorldK encK 2 w blk off n dk os) :
  w'.os = w.os ∧ w'.tape = w.tape ∧ w'.output = w.output ∧ w.heap.size ≤ w'.heap.size ∧ (∀ j,j < w.heap.size → j ≠ blk → w'.heap[j]? = w.heap[j]?) ∧ w'.heap[blk]? = some (.cells (putCells id off (flatK encK 2 dk) cur) e fz):=by
 subst h
 have hh : (sortWorldK encK 2 w blk off n dk os).heap = w.heap.modify blk (onCells (putCells id off (flatK encK 2 dk))) ++ os:=rfl
 have hlt:=(Array.getElem?_eq_some_iff.1 hg).1
 refine ⟨rfl,rfl,rfl,by rw [hh]; simp,fun j hj hne=>?_, ?_⟩
 ·rw [hh,Array.getElem?_append_left (by simpa using hj),Array.getElem?_modify,if_neg (Ne.symm hne)]
 ·rw [hh,Array.getElem?_append_left (by simpa using hlt),Array.getElem?_modify,if_pos rfl,hg]
  rfl
theorem cV_elems (l : List (Int × Int)) : Elems 2 (l.map cV):=by
 intro x hx
 obtain ⟨f,_,rfl⟩:=List.mem_map.1 hx
 rfl
theorem flat_get2 (d : Array (Int × Int)) (i j : Nat) (p : Int × Int) (v : Value) (hp : d[i]? = some p) (hv : (encK p)[j]? = some v) : i * 2 + j < (flatK encK 2 d).size ∧ (flatK encK 2 d)[i * 2 + j]! = v:=by
 have hi:=(Array.getElem?_eq_some_iff.1 hp).1
 have hj : j < 2:=by have:=(zg hv).1; simpa [encK] using this
 have hlt : i * 2 + j < d.size * 2:=by omega
 refine ⟨by rw [size_flatK]; exact hlt, ?_⟩
 rw [get_flatK _ _ _ _ hlt,show (i * 2 + j) / 2 = i by omega,show (i * 2 + j) % 2 = j by omega,getElem!_pos d i hi,(Array.getElem?_eq_some_iff.1 hp).2]
 obtain ⟨h1,h2⟩:=zg hv
 rw [getElem!_pos (encK p) j h1,h2]
theorem good_sort {GT : Nat → Option AV} (b : Nat) (xs : List (Int × Int)) (H : Heap) (hb : H[b]? = some (.row 2 (xs.map cV))) (hne : xs ≠ []) (hl : xs.length ≤ 1000) :
  Go.AM.Good Tryz.prog GT 31 [.sl (some true) b 2 0 xs.length,.fn 32 [] []] H (.tup []) (H.set b (.row 2 ((zDR xs).map cV))):=by
 refine zD6 Tryz.func31 (by kernel_rfl) (by kernel_rfl) rfl fun w M I cargs hS hA=>?_
 obtain ⟨v1,v2,rfl,r1,r2⟩:=relL_two hA
 have hn0 : 0 < xs.length:=List.length_pos_iff.2 hne
 have hfn : v2 = .func (.func 32) #[] #[]:=by
  cases r2 with
  | fn _ _ _ vs us h1 h2 _ _=>
   have e1 : vs = []:=List.length_eq_zero_iff.1 h1.symm
   have e2 : us = []:=List.length_eq_zero_iff.1 h2.symm
   subst e1 e2
   rfl
 subst hfn
 obtain ⟨he,⟨_,h⟩ | ⟨g,o,cur,hM,⟨e,fz,h1,h2⟩,hI,hfit,hc⟩⟩:=hS.blk b _ hb
 ·exact absurd (List.map_eq_nil_iff.1 h) hne
 rw [List.length_map] at hfit
 obtain ⟨cap,rfl⟩ : ∃ cap,v1 = .slice (some ⟨g,o,none⟩) xs.length cap:=by
  generalize xs.length = n at r1 hn0
  cases r1 with
  | sln=>exact absurd hn0 (Nat.lt_irrefl _)
  | sl _ _ _ _ _ g' o' p cap hb' hM' hcl hm hq ha=>
   rw [hM] at hM'
   simp only [Option.some.injEq,Prod.mk.injEq] at hM'
   obtain ⟨rfl,rfl⟩:=hM'
   obtain ⟨hp,_⟩:=ha tO
   subst hp
   exact ⟨cap,by simp⟩
 have hgl:=(Array.getElem?_eq_some_iff.1 h1).1
 have hget : ∀ i j p v,xs[i]? = some p → (encK p)[j]? = some v → cur[o + i * 2 + j]? = some v:=fun i j p v hp hv=>by
  have hcv : (xs.map cV)[i]? = some (cV p):=by rw [List.getElem?_map,hp]; rfl
  match j,hv with
  | 0,hv=>
   cases hv
   obtain ⟨u,hu,hr⟩:=hc i 0 (cV p) (zJ p.1) hcv rfl
   cases hr
   exact hu
  | 1,hv=>
   cases hv
   obtain ⟨u,hu,hr⟩:=hc i 1 (cV p) (zJ p.2) hcv rfl
   cases hr
   exact hu
  | j + 2,hv=>simp [encK] at hv
 have hH : HoldsK encK 2 w g o xs.toArray:=fun t ht=>by
  rw [size_flatK] at ht
  have ht : t < xs.length * 2:=by simpa using ht
  obtain ⟨p,hp⟩ : ∃ p,xs[t / 2]? = some p:=⟨_,List.getElem?_eq_getElem tO⟩
  obtain ⟨v,hv⟩ : ∃ v,(encK p)[t % 2]? = some v:=⟨_,List.getElem?_eq_getElem (by simp [encK]; omega)⟩
  have:=hget _ _ p v hp hv
  have hf:=(flat_get2 xs.toArray (t / 2) (t % 2) p v (by simpa using hp) hv).2
  rw [show t / 2 * 2 + t % 2 = t by omega] at hf
  refine ⟨?_, ?_⟩
  ·rw [hf]
   simp only [World.cell?,h1]
   rw [show o + t = o + t / 2 * 2 + t % 2 by omega]
   simpa using this
  ·have:=h2 (o + t) tO
   simp only [World.frozen?,h1]
   simpa using this
 refine Calls.mono (sort_calls g o cap xs w hH hgl hl) ?_
 rintro e' w' ⟨rfl,n,os,hw⟩
 obtain ⟨q1,q2,q3,q4,q5,q6⟩:=sort_world w g o n _ os h1 hw
 have hsl : (zDR xs).length = xs.length:=(zEa xs).length_eq
 have hsize : (putCells id o (flatK encK 2 (zDR xs).toArray) cur).size = cur.size:=by simp [putCells]
 refine ⟨_,rfl, ?_⟩
 have hsh : ∀ s,w.shape? g = some s → w'.shape? g = some s:=fun s hs=>by
  simp only [World.shape?,h1] at hs
  simp only [World.shape?,q6,hsize]
  exact hs
 obtain ⟨M',I',G,S⟩:=row_written (ys:=(zDR xs).map cV) hS hb hM q1 q2 q3 q4 (fun j hj hn=>q5 j hj hn) hsh (cV_elems _) ⟨e,fz,q6,by rw [hsize]; exact h2⟩ (by rw [List.length_map,hsl,hsize]; exact hfit) (fun i j y c hy hcc=>by
  rw [List.getElem?_map] at hy
  obtain ⟨p,hp,rfl⟩:=Option.map_eq_some_iff.1 hy
  have hil:=(zg hp).1
  have put : ∀ v,(encK p)[j]? = some v → (putCells id o (flatK encK 2 (zDR xs).toArray) cur)[o + i * 2 + j]? = some v:=fun v hv=>by
   obtain ⟨f1,f2⟩:=flat_get2 (zDR xs).toArray i j p v (by simpa using hp) hv
   have hcs : o + i * 2 + j < cur.size:=by
    rw [size_flatK] at f1
    have f1 : i * 2 + j < (zDR xs).length * 2:=by simpa using f1
    omega
   simp only [putCells,Array.getElem?_mapIdx,Array.getElem?_eq_getElem hcs,Option.map_some]
   rw [if_pos ⟨by omega,by omega⟩,show o + i * 2 + j - o = i * 2 + j by omega,f2]
   rfl
  match j,hcc with
  | 0,hcc=>cases hcc; exact ⟨_,put _ rfl,fun _ _ _=>.int _ _⟩
  | 1,hcc=>cases hcc; exact ⟨_,put _ rfl,fun _ _ _=>.int _ _⟩
  | j + 2,hcc=>simp [cV,zn,AV.cells] at hcc)
 exact ⟨M',I',G,S,.tup [] [] rfl fun i c v h _=>by simp at h⟩
end Go.Proofs.YthllabjbdobpgaaGreatDoor
namespace Go.AM
theorem sMkmap {H : Heap} {K : AV → Heap → Prop} (q : K (.mp H.length) (H ++ [.mp [] []])) : actP .mkmap [] H K:=sAct rfl q
theorem sMset {b : Nat} {ks : List (Int × Int)} {vs : List AV} {p : Int × Int} {v kv : AV} {H : Heap} {K : AV → Heap → Prop} (hb : H[b]? = some (.mp ks vs)) (hk : keyAV kv = some p) (hn : v.noRef = true) {ks' : List (Int × Int)} {vs' : List AV} (hp : mput p v ks vs = (ks',vs'))
  (q : K .undef (H.set b (.mp ks' vs'))) : actP .mset [.mp b,kv,v] H K:=sAct (by simp only [astep,msetV,hb,hk,hn,if_true,Option.map_some,hp]) q
theorem sMget {m kv r z : AV} {ok : Bool} {H : Heap} {K : AV → Heap → Prop} (h : mgetV H z ok m kv = some r) (q : K r H) : actP (.mget z ok) [m,kv] H K:=sAct (by simp only [astep,h,Option.map_some]) q
theorem frz_mp {n0 b : Nat} {H : Heap} {ks : List (Int × Int)} {vs : List AV} (hb : n0 ≤ b) (h : H[b]? = some (.mp ks vs)) : zDJ n0 (.mp b) H = some (.mps ks vs,H.set b .dead):=by
 simp only [zDJ]
 rw [if_neg tO,h]
theorem sClear {q : Option Bool} {b k off len : Nat} {z : AV} {xs : List AV} {H : Heap} {K : AV → Heap → Prop} (h : H[b]? = some (.row k xs)) (hl : off + len ≤ xs.length) (h0 : 0 < len) (hz : z.elem k = true)
  (hk : K (.tup []) (H.set b (.row k (xs.take off ++ List.replicate len z ++ xs.drop (off + len))))) : actP (.clear k z) [.sl q b k off len] H K:=
 sAct (by simp only [astep,h]; rw [if_pos ⟨trivial,trivial,hl,h0,hz⟩]) hk
end Go.AM
