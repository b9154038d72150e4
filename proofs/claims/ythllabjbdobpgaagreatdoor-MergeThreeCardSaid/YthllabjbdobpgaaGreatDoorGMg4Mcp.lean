/- Several texts of mine in one (Mg4, MsL, Msf, Mev, Mcp). Own work. -/
import Derived.Test.YthllabjbdobpgaaGreatDoorGMg0Opv
import Derived.Shelf.SlLaysF0
import Derived.Ground.SlsfProg
import Derived.Ground.NamesProg
import Derived.Test.YthllabjbdobpgaaGreatDoorProg
import Derived.Test.YthllabjbdobpgaaGreatDoorGSk1Ins
import Derived.Shelf.SlSortCmp.WholeK
import Derived.Test.YthllabjbdobpgaaGreatDoorGFp0Trm
import Derived.Test.YthllabjbdobpgaaGreatDoorGAm23Am29
import Derived.Test.YthllabjbdobpgaaGreatDoorGWt1Wt2
set_option linter.all false
namespace Go.AM
def cV (p : Int × Int) : AV:=zr p.1 p.2
def zAa : List (List Fil) → Nat
 | []=>0
 | l :: r=>if zBH l = 0 then zAa r else zBH l
theorem checkAll_drop (ls : List (List Fil)) (i : Nat) (l : List Fil) (h : ls[i]? = some l) : zAa (ls.drop i) = if zBH l = 0 then zAa (ls.drop (i + 1)) else zBH l:=by
 have hi:=(zg h).1
 rw [List.drop_eq_getElem_cons hi,(zg h).2]
 rfl
theorem zGg : ∀ {ls : List (List Fil)},zAa ls = 0 → ∀ l ∈ ls,Goods l
 | [],_,l,h=>absurd h (by simp)
 | g :: ls,h,l,hl=>by
  unfold zAa at h
  by_cases h0 : zBH g = 0
  ·rw [if_pos h0] at h
   rcases List.mem_cons.1 hl with rfl | hl
   ·exact zLM h0
   ·exact zGg h l hl
  ·rw [if_neg h0] at h; exact absurd h h0
theorem zIK : ∀ {ls : List (List Fil)},(∀ l ∈ ls,Goods l) → zAa ls = 0
 | [],_=>rfl
 | g :: ls,h=>by
  unfold zAa
  rw [if_pos (h g (by simp)).check]
  exact zIK fun l hl=>h l (List.mem_cons_of_mem _ hl)
def zBA (a b : List Fil) : List Fil:=zD5 a b (zB6 [a,b])
def zFF (w a b : List Fil) : List Fil:=zCW w a b (zB6 [w,a,b])
def zGm (w a b : List Fil) : List (Int × Int):=zF8 w a b (zB6 [w,a,b])
def zHf (w a b : List Fil) : Nat:=if zAa [w,a,b] ≠ 0 then zAa [w,a,b] else if 200 < (zFF w a b).length then 4 else 0
theorem diffL_keys (a b : List Fil) : (zBA a b).map zAj = (zB6 [a,b]).filter fun p=>decide (zh a p ≠ zh b p):=by
 unfold zBA zD5
 rw [List.map_map]
 exact List.map_id _
theorem zEm {a b : List Fil} {p : Int × Int} : p ∈ (zBA a b).map zAj ↔ zh a p ≠ zh b p:=by
 rw [diffL_keys,List.mem_filter,decide_eq_true_eq]
 constructor
 ·exact fun h=>h.2
 ·intro h
  refine ⟨Classical.byContradiction fun k=>h ?_,h⟩
  rw [zCg (zBS [a,b]) k (l:=a) (by simp),zCg (zBS [a,b]) k (l:=b) (by simp)]
theorem diffL_done {a b : List Fil} (ha : Goods a) (hb : Goods b) : zDo a (zBA a b) = b:=diff_done ha hb (zBS _)
theorem compactL_len (xs : List (Int × Int)) : (zj xs).length ≤ xs.length:=by
 induction xs using zj.induct with
 | case1=>simp [zj]
 | case2 x=>simp [zj]
 | case3 x r ih=>rw [zj,if_pos rfl]; simp only [List.length_cons] at *; omega
 | case4 x y r h ih=>rw [zj,if_neg h]; simp only [List.length_cons] at *; omega
theorem zKI (ls : List (List Fil)) : (zB6 ls).length ≤ (ls.map List.length).sum:=by
 unfold zB6
 have h1:=compactL_len (zDI (ls.flatMap fun l=>l.map zAj))
 have h2:=(zER (ls.flatMap fun l=>l.map zAj)).length_eq
 have h3 : (ls.flatMap fun l=>l.map zAj).length = (ls.map List.length).sum:=by
  rw [List.length_flatMap]
  simp
 omega
theorem diffL_len {a b : List Fil} (ha : Goods a) (hb : Goods b) : (zBA a b).length ≤ 400:=by
 have h0 : ((zBA a b).map zAj).length ≤ (zB6 [a,b]).length:=by rw [diffL_keys]; exact List.length_filter_le _ _
 have h1:=zKI [a,b]
 have h2:=ha.len
 have h3:=hb.len
 simp only [List.length_map] at h0
 simp at h1
 omega
end Go.AM
namespace Go.Proofs
open Go.Shelf
def Tryz.ownSort_ren : Go.Shelf.Ren:=⟨fun | 6=>31 | 15=>46 | 14=>45 | 28=>70 | 29=>71 | 20=>62 | 21=>63 | 22=>64 | 23=>65 | 24=>66 | 25=>67 | 26=>68 | 27=>69 | 46=>88 | 47=>89 | 48=>90 | 49=>91 | 50=>92 | 57=>108 | n=>n,fun | 22=>24 | 24=>41 | 25=>68 | 3=>3 | 39=>89 | 0=>0 | 53=>117 | 55=>119 | 4=>4 | 46=>111 | 45=>110 | 50=>74 | 5=>5 | 9=>9 | 66=>144 | 70=>148 | 76=>177 | 77=>178 | n=>n,fun | n=>n⟩
theorem Tryz.ownSort : Go.Proofs.SlLaysF0.n6 Tryz.prog Tryz.ownSort_ren:={
 mixed:=by kernel_rfl
 f6:=⟨Tryz.f31.name,by decide,Tryz.func31.trans (congrArg some (by kernel_rfl))⟩
 f14:=⟨Tryz.f45.name,by decide,Tryz.func45.trans (congrArg some (by kernel_rfl))⟩
 f15:=Tryz.func46.trans (congrArg some (by kernel_rfl))
 f20:=⟨Tryz.f62.name,by decide,Tryz.func62.trans (congrArg some (by kernel_rfl))⟩
 f21:=⟨Tryz.f63.name,by decide,Tryz.func63.trans (congrArg some (by kernel_rfl))⟩
 f22:=⟨Tryz.f64.name,by decide,Tryz.func64.trans (congrArg some (by kernel_rfl))⟩
 f23:=⟨Tryz.f65.name,by decide,Tryz.func65.trans (congrArg some (by kernel_rfl))⟩
 f24:=⟨Tryz.f66.name,by decide,Tryz.func66.trans (congrArg some (by kernel_rfl))⟩
 f25:=⟨Tryz.f67.name,by decide,Tryz.func67.trans (congrArg some (by kernel_rfl))⟩
 f26:=⟨Tryz.f68.name,by decide,Tryz.func68.trans (congrArg some (by kernel_rfl))⟩
 f27:=⟨Tryz.f69.name,by decide,Tryz.func69.trans (congrArg some (by kernel_rfl))⟩
 f28:=Tryz.func70.trans (congrArg some (by kernel_rfl))
 f29:=Tryz.func71.trans (congrArg some (by kernel_rfl))
 f46:=⟨Tryz.f88.name,by decide,Tryz.func88.trans (congrArg some (by kernel_rfl))⟩
 f47:=Tryz.func89.trans (congrArg some (by kernel_rfl))
 f48:=Tryz.func90.trans (congrArg some (by kernel_rfl))
 f49:=⟨Tryz.f91.name,by decide,Tryz.func91.trans (congrArg some (by kernel_rfl))⟩
 f50:=⟨Tryz.f92.name,by decide,Tryz.func92.trans (congrArg some (by kernel_rfl))⟩
 f57:=⟨Tryz.f108.name,by decide,Tryz.func108.trans (congrArg some (by kernel_rfl))⟩
 t0:=Tryz.underlying0
 a0:=Tryz.isAgg0
 z0:=Tryz.sizeOf0
 v0:=Tryz.zeroValue0
 t3:=Tryz.underlying3
 a3:=Tryz.isAgg3
 z3:=Tryz.sizeOf3
 v3:=Tryz.zeroValue3
 t4:=Tryz.underlying4
 a4:=Tryz.isAgg4
 z4:=Tryz.sizeOf4
 v4:=Tryz.zeroValue4
 t5:=Tryz.underlying5
 a5:=Tryz.isAgg5
 z5:=Tryz.sizeOf5
 v5:=Tryz.zeroValue5
 t9:=Tryz.underlying9
 a9:=Tryz.isAgg9
 z9:=Tryz.sizeOf9
 v9:=Tryz.zeroValue9
 t22:=Tryz.underlying24
 a22:=Tryz.isAgg24
 z22:=Tryz.sizeOf24
 v22:=Tryz.zeroValue24
 t25:=Tryz.underlying68
 a25:=Tryz.isAgg68
 z25:=Tryz.sizeOf68
 v25:=Tryz.zeroValue68
 t39:=Tryz.underlying89
 a39:=Tryz.isAgg89
 z39:=Tryz.sizeOf89
 v39:=Tryz.zeroValue89
 t45:=Tryz.underlying110
 a45:=Tryz.isAgg110
 z45:=Tryz.sizeOf110
 v45:=Tryz.zeroValue110
 t46:=Tryz.underlying111
 a46:=Tryz.isAgg111
 z46:=Tryz.sizeOf111
 v46:=Tryz.zeroValue111
 t50:=Tryz.underlying74
 a50:=Tryz.isAgg74
 z50:=Tryz.sizeOf74
 v50:=Tryz.zeroValue74
 t53:=Tryz.underlying117
 a53:=Tryz.isAgg117
 z53:=Tryz.sizeOf117
 v53:=Tryz.zeroValue117
 t55:=Tryz.underlying119
 a55:=Tryz.isAgg119
 z55:=Tryz.sizeOf119
 v55:=Tryz.zeroValue119
 t66:=Tryz.underlying144
 a66:=Tryz.isAgg144
 z66:=Tryz.sizeOf144
 v66:=Tryz.zeroValue144
 t70:=Tryz.underlying148
 a70:=Tryz.isAgg148
 z70:=Tryz.sizeOf148
 v70:=Tryz.zeroValue148
 t76:=Tryz.underlying177
 a76:=Tryz.isAgg177
 z76:=Tryz.sizeOf177
 v76:=Tryz.zeroValue177
 t77:=Tryz.underlying178
 a77:=Tryz.isAgg178
 z77:=Tryz.sizeOf178
 v77:=Tryz.zeroValue178 }
end Go.Proofs
set_option maxRecDepth 100000
namespace Go.Proofs.YthllabjbdobpgaaGreatDoor
open Go.AM Go.Shelf Go.RowKit Go.Lib Go.Sort Go.Proofs
def encK (x : Int × Int) : List Value:=[.int .i64 x.1,.int .i64 x.2]
def cfK (x y : Int × Int) : Int:=cmpC x.1 x.2 y.1 y.2
instance (p q : Int × Int) : Decidable (ltK p q):=by unfold ltK; infer_instance
theorem ltK_of (x y : Int × Int) : ltOf cfK x y = decide (ltK x y):=by
 unfold ltOf cfK
 rw [decide_eq_decide,cmpC_lt]
 rfl
theorem swoK : SWO (ltOf cfK) where
 irrefl x:=by rw [ltK_of]; exact tF (zHo x)
 trans x y z h1 h2:=by rw [ltK_of] at *; simp only [decide_eq_true_eq] at *; exact ltK_trans h1 h2
 ntrans x y z h1 h2:=by rw [ltK_of] at *; simp only [decide_eq_false_iff_not] at *; unfold ltK at *; omega
theorem cmp_lays (blk off size : Nat) (w : World) : CmpLays Tryz.prog 32 #[] encK 2 cfK blk off size w:=fun _ _ _ _ x y=>acmp_calls x y _
theorem sort_calls (blk off cap : Nat) (d : List (Int × Int)) (w : World) (hH : HoldsK encK 2 w blk off d.toArray) (hblk : blk < w.heap.size) (hsz : d.length ≤ 1000) :
  Calls Tryz.prog 31 #[.slice (some ⟨blk,off,none⟩) d.length cap,.func (.func 32) #[] #[]] w fun e w'=>e = .returned (.tuple #[]) ∧ ∃ n os,w' = sortWorldK encK 2 w blk off n (zDI d).toArray os:=by
 have eg : ∀ args w,(callFunc 32 args).run Tryz.prog w = .ok (.enter 32 args) w:=enters_of Tryz.func32 (by kernel_rfl) rfl
 have hcon:=AnyQ.slices_SortFunc Tryz.ownSort 2 (by intro w; kernel_rfl) (by intro w; kernel_rfl) encK (fun _=>rfl) (fun x v hv=>by simp [encK] at hv; rcases hv with rfl | rfl <;> rfl) cfK swoK 32 #[] blk off cap d.toArray w eg (cmp_lays blk off _ w) hH hblk (by simp; omega)
 refine hcon.mono ?_
 rintro e w' ⟨he,d',n,os,hp,hs,hw⟩
 refine ⟨he,n,os, ?_⟩
 have hsz' : d'.size = d.length:=by simpa using hp.1
 have e1 : d'.toList = zDI d:=by
  refine sortK_eq ?_ ?_
  ·have:=hp.2.2
   have x1 : d'.extract 0 d.toArray.size = d':=by apply Array.ext' ; simp [← hsz']
   have x2 : d.toArray.extract 0 d.toArray.size = d.toArray:=by apply Array.ext'; simp
   rw [x1,x2] at this
   simpa using this
  ·rw [List.pairwise_iff_getElem]
   intro i j hi hj hij
   have:=hs i j (Nat.zero_le _) hij (by simp at hj; simpa [hsz'] using hj)
   rw [ltK_of,decide_eq_false_iff_not] at this
   have hi' : i < d'.size:=by simpa using hi
   have hj' : j < d'.size:=by simpa using hj
   rw [getElem!_pos d' i hi',getElem!_pos d' j hj'] at this
   simp only [Array.getElem_toList]
   unfold leK
   unfold ltK at this
   simp only [decide_eq_true_eq]
   omega
 rw [hw,← e1]
theorem sort_world (w : World) (blk off n : Nat) (dk : Array (Int × Int)) (os : Array Obj) {cur : Array Value} {e : TypeId} {fz : Nat × Nat} (hg : w.heap[blk]? = some (.cells cur e fz)) {w' : World} (h : w' = sortWorldK encK 2 w blk off n dk os) :
  w'.os = w.os ∧ w'.tape = w.tape ∧ w'.output = w.output ∧ w.heap.size ≤ w'.heap.size ∧ (∀ j,j < w.heap.size → j ≠ blk → w'.heap[j]? = w.heap[j]?) ∧ w'.heap[blk]? = some (.cells (putCells id off (flatK encK 2 dk) cur) e fz):=by
 subst h
 have hh : (sortWorldK encK 2 w blk off n dk os).heap = w.heap.modify blk (onCells (putCells id off (flatK encK 2 dk))) ++ os:=rfl
 have hlt:=(Array.getElem?_eq_some_iff.1 hg).1
 refine ⟨rfl,rfl,rfl,by rw [hh]; simp,fun j hj hne=>?_, ?_⟩
 ·rw [hh,Array.getElem?_append_left (by simpa using hj),Array.getElem?_modify,if_neg (Ne.symm hne)]
 ·rw [hh,Array.getElem?_append_left (by simpa using hlt),Array.getElem?_modify,if_pos rfl,hg]
  rfl
theorem cV_elems (l : List (Int × Int)) : Elems 2 (l.map cV):=by
 intro x hx
 obtain ⟨f,_,rfl⟩:=List.mem_map.1 hx
 rfl
theorem flat_get2 (d : Array (Int × Int)) (i j : Nat) (p : Int × Int) (v : Value) (hp : d[i]? = some p) (hv : (encK p)[j]? = some v) : i * 2 + j < (flatK encK 2 d).size ∧ (flatK encK 2 d)[i * 2 + j]! = v:=by
 have hi:=(Array.getElem?_eq_some_iff.1 hp).1
 have hj : j < 2:=by have:=(zg hv).1; simpa [encK] using this
 have hlt : i * 2 + j < d.size * 2:=by omega
 refine ⟨by rw [size_flatK]; exact hlt, ?_⟩
 rw [get_flatK _ _ _ _ hlt,show (i * 2 + j) / 2 = i by omega,show (i * 2 + j) % 2 = j by omega,getElem!_pos d i hi,(Array.getElem?_eq_some_iff.1 hp).2]
 obtain ⟨h1,h2⟩:=zg hv
 rw [getElem!_pos (encK p) j h1,h2]
theorem good_sort {GT : Nat → Option AV} (b : Nat) (xs : List (Int × Int)) (H : Heap) (hb : H[b]? = some (.row 2 (xs.map cV))) (hne : xs ≠ []) (hl : xs.length ≤ 1000) :
  Go.AM.Good Tryz.prog GT 31 [.sl (some true) b 2 0 xs.length,.fn 32 [] []] H (.tup []) (H.set b (.row 2 ((zDI xs).map cV))):=by
 refine zIJ Tryz.func31 (by kernel_rfl) (by kernel_rfl) rfl fun w M I cargs hS hA=>?_
 obtain ⟨v1,v2,rfl,r1,r2⟩:=relL_two hA
 have hn0 : 0 < xs.length:=List.length_pos_iff.2 hne
 have hfn : v2 = .func (.func 32) #[] #[]:=by
  cases r2 with
  | fn _ _ _ vs us h1 h2 _ _=>
   have e1 : vs = []:=List.length_eq_zero_iff.1 h1.symm
   have e2 : us = []:=List.length_eq_zero_iff.1 h2.symm
   subst e1 e2
   rfl
 subst hfn
 obtain ⟨he,⟨_,h⟩ | ⟨g,o,cur,hM,⟨e,fz,h1,h2⟩,hI,hfit,hc⟩⟩:=hS.blk b _ hb
 ·exact absurd (List.map_eq_nil_iff.1 h) hne
 rw [List.length_map] at hfit
 obtain ⟨cap,rfl⟩ : ∃ cap,v1 = .slice (some ⟨g,o,none⟩) xs.length cap:=by
  generalize xs.length = n at r1 hn0
  cases r1 with
  | sln=>exact absurd hn0 (Nat.lt_irrefl _)
  | sl _ _ _ _ _ g' o' p cap hb' hM' hcl hm hq ha=>
   rw [hM] at hM'
   simp only [Option.some.injEq,Prod.mk.injEq] at hM'
   obtain ⟨rfl,rfl⟩:=hM'
   obtain ⟨hp,_⟩:=ha tO
   subst hp
   exact ⟨cap,by simp⟩
 have hgl:=(Array.getElem?_eq_some_iff.1 h1).1
 have hget : ∀ i j p v,xs[i]? = some p → (encK p)[j]? = some v → cur[o + i * 2 + j]? = some v:=fun i j p v hp hv=>by
  have hcv : (xs.map cV)[i]? = some (cV p):=by rw [List.getElem?_map,hp]; rfl
  match j,hv with
  | 0,hv=>
   cases hv
   obtain ⟨u,hu,hr⟩:=hc i 0 (cV p) (zK p.1) hcv rfl
   cases hr
   exact hu
  | 1,hv=>
   cases hv
   obtain ⟨u,hu,hr⟩:=hc i 1 (cV p) (zK p.2) hcv rfl
   cases hr
   exact hu
  | j + 2,hv=>simp [encK] at hv
 have hH : HoldsK encK 2 w g o xs.toArray:=fun t ht=>by
  rw [size_flatK] at ht
  have ht : t < xs.length * 2:=by simpa using ht
  obtain ⟨p,hp⟩ : ∃ p,xs[t / 2]? = some p:=⟨_,List.getElem?_eq_getElem tO⟩
  obtain ⟨v,hv⟩ : ∃ v,(encK p)[t % 2]? = some v:=⟨_,List.getElem?_eq_getElem (by simp [encK]; omega)⟩
  have:=hget _ _ p v hp hv
  have hf:=(flat_get2 xs.toArray (t / 2) (t % 2) p v (by simpa using hp) hv).2
  rw [show t / 2 * 2 + t % 2 = t by omega] at hf
  refine ⟨?_, ?_⟩
  ·rw [hf]
   simp only [World.cell?,h1]
   rw [show o + t = o + t / 2 * 2 + t % 2 by omega]
   simpa using this
  ·have:=h2 (o + t) tO
   simp only [World.frozen?,h1]
   simpa using this
 refine Calls.mono (sort_calls g o cap xs w hH hgl hl) ?_
 rintro e' w' ⟨rfl,n,os,hw⟩
 obtain ⟨q1,q2,q3,q4,q5,q6⟩:=sort_world w g o n _ os h1 hw
 have hsl : (zDI xs).length = xs.length:=(zER xs).length_eq
 have hsize : (putCells id o (flatK encK 2 (zDI xs).toArray) cur).size = cur.size:=by simp [putCells]
 refine ⟨_,rfl, ?_⟩
 have hsh : ∀ s,w.shape? g = some s → w'.shape? g = some s:=fun s hs=>by
  simp only [World.shape?,h1] at hs
  simp only [World.shape?,q6,hsize]
  exact hs
 obtain ⟨M',I',G,S⟩:=row_written (ys:=(zDI xs).map cV) hS hb hM q1 q2 q3 q4 (fun j hj hn=>q5 j hj hn) hsh (cV_elems _) ⟨e,fz,q6,by rw [hsize]; exact h2⟩ (by rw [List.length_map,hsl,hsize]; exact hfit) (fun i j y c hy hcc=>by
  rw [List.getElem?_map] at hy
  obtain ⟨p,hp,rfl⟩:=Option.map_eq_some_iff.1 hy
  have hil:=(zg hp).1
  have put : ∀ v,(encK p)[j]? = some v → (putCells id o (flatK encK 2 (zDI xs).toArray) cur)[o + i * 2 + j]? = some v:=fun v hv=>by
   obtain ⟨f1,f2⟩:=flat_get2 (zDI xs).toArray i j p v (by simpa using hp) hv
   have hcs : o + i * 2 + j < cur.size:=by
    rw [size_flatK] at f1
    have f1 : i * 2 + j < (zDI xs).length * 2:=by simpa using f1
    omega
   simp only [putCells,Array.getElem?_mapIdx,Array.getElem?_eq_getElem hcs,Option.map_some]
   rw [if_pos ⟨by omega,by omega⟩,show o + i * 2 + j - o = i * 2 + j by omega,f2]
   rfl
  match j,hcc with
  | 0,hcc=>cases hcc; exact ⟨_,put _ rfl,fun _ _ _=>.int _ _⟩
  | 1,hcc=>cases hcc; exact ⟨_,put _ rfl,fun _ _ _=>.int _ _⟩
  | j + 2,hcc=>simp [cV,zr,AV.cells] at hcc)
 exact ⟨M',I',G,S,.tup [] [] rfl fun i c v h _=>by simp at h⟩
end Go.Proofs.YthllabjbdobpgaaGreatDoor
namespace Go.AM
theorem sMkmap {H : Heap} {K : AV → Heap → Prop} (q : K (.mp H.length) (H ++ [.mp [] []])) : actP .mkmap [] H K:=sAct rfl q
theorem sMset {b : Nat} {ks : List (Int × Int)} {vs : List AV} {p : Int × Int} {v kv : AV} {H : Heap} {K : AV → Heap → Prop} (hb : H[b]? = some (.mp ks vs)) (hk : keyAV kv = some p) (hn : v.noRef = true) {ks' : List (Int × Int)} {vs' : List AV} (hp : mput p v ks vs = (ks',vs'))
  (q : K .undef (H.set b (.mp ks' vs'))) : actP .mset [.mp b,kv,v] H K:=sAct (by simp only [astep,msetV,hb,hk,hn,if_true,Option.map_some,hp]) q
theorem zEn {m kv r z : AV} {ok : Bool} {H : Heap} {K : AV → Heap → Prop} (h : mgetV H z ok m kv = some r) (q : K r H) : actP (.mget z ok) [m,kv] H K:=sAct (by simp only [astep,h,Option.map_some]) q
theorem frz_mp {n0 b : Nat} {H : Heap} {ks : List (Int × Int)} {vs : List AV} (hb : n0 ≤ b) (h : H[b]? = some (.mp ks vs)) : zDR n0 (.mp b) H = some (.mps ks vs,H.set b .dead):=by
 simp only [zDR]
 rw [if_neg tO,h]
theorem sClear {q : Option Bool} {b k off len : Nat} {z : AV} {xs : List AV} {H : Heap} {K : AV → Heap → Prop} (h : H[b]? = some (.row k xs)) (hl : off + len ≤ xs.length) (h0 : 0 < len) (hz : z.elem k = true)
  (hk : K (.tup []) (H.set b (.row k (xs.take off ++ List.replicate len z ++ xs.drop (off + len))))) : actP (.clear k z) [.sl q b k off len] H K:=
 sAct (by simp only [astep,h]; rw [if_pos ⟨trivial,trivial,hl,h0,hz⟩]) hk
end Go.AM
set_option maxRecDepth 20000
namespace Go.AM
theorem set_old {H : Heap} {b : Nat} (hb : b < H.length) (k : Nat) (ys : List AV) : OldOK H (H.set b (.row k ys)) ∧ H.set b (.row k ys) = (H.set b (.row k ys)).take H.length:=by
 refine ⟨fun c hc=>?_, ?_⟩
 ·by_cases e : b = c
  ·subst e; exact .inr ⟨_,List.getElem?_set_self hc,rfl⟩
  ·exact .inl (List.getElem?_set_ne e)
 ·exact (List.take_of_length_le (by rw [List.length_set]; exact Nat.le_refl _)).symm
theorem sStoreK2 {b i : Nat} (j : Nat) (p q : Int × Int) {H : Heap} {xs : List AV} {K : AV → Heap → Prop} (hi : i = j) (h : H[b]? = some (.row 2 xs)) (hx : xs[j]? = some (cV q)) (k : K .undef (H.set b (.row 2 (xs.set j (cV p))))) : actP (.store 2) [.ref b 2 i 0,cV p] H K:=by
 subst hi
 refine sAct ?_ k
 have e : zDR 0 (cV p) H = some (cV p,H):=rfl
 simp only [astep]
 rw [if_pos ⟨rfl,rfl⟩,h]
 simp only [e,h,hx]
 rw [if_pos ⟨trivial,by omega,by omega,rfl⟩]
 rfl
theorem sl_from {b k n : Nat} (h : k < n) : zAy (some 2) (.sl (some true) b 2 0 n) (some (zJ k)) none = some (.sl (some true) b 2 k (n - k)):=by
 have hb : zDA n (some (zJ k)) none = some (k,n):=by
  have : k ≤ n:=by omega
  simp [zDA,aHi,aLo,zJ,this]
 simp only [zAy,if_true]
 rw [hb]
 simp [cutQ,h]
theorem sl_to {b k n : Nat} (h0 : 0 < k) (h : k ≤ n) : zAy (some 2) (.sl (some true) b 2 0 n) none (some (zJ k)) = some (.sl (some true) b 2 0 k):=by
 have hb : zDA n none (some (zJ k)) = some (0,k):=by simp [zDA,aHi,aLo,zJ,h]
 simp only [zAy,if_true]
 rw [hb]
 simp [cutQ,h0]
theorem cell_ne {p q : Int × Int} (h : q ≠ p) : (p.1 == q.1 && (p.2 == q.2 && true)) = false:=by
 rw [Bool.and_true]
 cases hx : (p.1 == q.1)
 ·rfl
 ·cases hy : (p.2 == q.2)
  ·rfl
  ·exact absurd (Prod.ext (beq_iff_eq.1 hx).symm (beq_iff_eq.1 hy).symm) h
theorem zMb {n0 b k off len : Nat} {q : Option Bool} {H : Heap} (h : b < n0) : zDR n0 (.sl q b k off len) H = some (.sl q b k off len,H):=by simp only [zDR]; rw [if_pos h]
def padL (xs : List (Int × Int)) : List (Int × Int):=zj xs ++ List.replicate (xs.length - (zj xs).length) (0,0)
theorem take_two {xs : List (Int × Int)} {k : Nat} {p q : Int × Int} (h1 : 1 ≤ k) (hp : xs[k]? = some p) (hq : xs[k - 1]? = some q) : xs.take (k + 1) = xs.take (k - 1) ++ [q,p] ∧ xs.take k = xs.take (k - 1) ++ [q]:=by
 have e1 : xs.take k = xs.take (k - 1) ++ [q]:=by
  conv=>lhs; rw [show k = k - 1 + 1 by omega]
  rw [List.take_succ,hq]; rfl
 refine ⟨?_,e1⟩
 rw [List.take_succ,hp,e1]; simp
theorem zKe {xs : List (Int × Int)} {k : Nat} {p q : Int × Int} (h1 : 1 ≤ k) (hp : xs[k]? = some p) (hq : xs[k - 1]? = some q) : zj (xs.take (k + 1)) = if q = p then zj (xs.take k) else zj (xs.take k) ++ [p]:=by
 obtain ⟨e1,e2⟩:=take_two h1 hp hq
 rw [e1,zJe,e2]
section
variable {C : CSpec} {GT : Nat → Option AV}
set_option maxHeartbeats 4000000 in
theorem compact_ev (b : Nat) (xs : List (Int × Int)) (H : Heap) (hb : H[b]? = some (.row 2 (xs.map cV))) (hne : xs ≠ []) (hl : xs.length ≤ 1000) :
  EFun C GT zAX [.sl (some true) b 2 0 xs.length] H (.sl (some true) b 2 0 (zj xs).length) (H.set b (.row 2 ((padL xs).map cV))):=by
 obtain ⟨n,hn⟩ : ∃ n,xs.length = n:=⟨_,rfl⟩
 have hn0 : 0 < n:=by rw [← hn]; exact List.length_pos_iff.2 hne
 have hbl:=(zg hb).1
 have hsame : zj xs = xs → AV.sl (some true) b 2 0 (zj xs).length = .sl (some true) b 2 0 n ∧ H.set b (.row 2 ((padL xs).map cV)) = H:=fun e=>by
  refine ⟨by rw [e,hn], ?_⟩
  unfold padL
  rw [e,Nat.sub_self,List.replicate_zero,List.append_nil]
  exact zLH hb
 have hO0 : OldOK H H ∧ H = H.take H.length:=⟨fun c _=>.inl rfl,(List.take_length).symm⟩
 rw [hn]
 refine zc ?_
 by_cases h2 : n < 2
 ·have e : zj xs = xs:=by
   match xs,hn with
   | [],hn=>simp at hn; omega
   | [x],_=>rfl
   | x :: y :: r,hn=>simp at hn; omega
  obtain ⟨e1,e2⟩:=hsame e
  rw [e1,e2]
  refine zEV ?_; refine zP (tT) ?_
  exact sRetW rfl rfl (zMb hbl) (by simp [AV.bel,hbl]) hO0.1 hO0.2
 ·refine zEV ?_; refine zO (tF) ?_; refine zBB (fun k : Nat=>[(3,zJ k),(0,.sl (some true) b 2 0 n)]) (fun k H'=>H' = H ∧ 1 ≤ k ∧ k ≤ n ∧ zj (xs.take k) = xs.take k) (fun k=>n - k) 1 rfl ⟨rfl,by omega,by omega,by
   obtain ⟨x,r,rfl⟩:=List.exists_cons_of_ne_nil hne
   rfl⟩ (fun k H1 hi=>?_)
  obtain ⟨hH,hk1,hkn,hck⟩:=hi
  subst hH
  dsimp only
  by_cases hlt : k < n
  ·obtain ⟨p,hp⟩ : ∃ p,xs[k]? = some p:=⟨_,List.getElem?_eq_getElem tO⟩
   obtain ⟨q,hq⟩ : ∃ q,xs[k - 1]? = some q:=⟨_,List.getElem?_eq_getElem tO⟩
   have hpm : (xs.map cV)[k]? = some (cV p):=by rw [List.getElem?_map,hp]; rfl
   have hqm : (xs.map cV)[k - 1]? = some (cV q):=by rw [List.getElem?_map,hq]; rfl
   have hst:=zKe hk1 hp hq
   have hS2 : zAy (some 2) (.sl (some true) b 2 0 n) (some (zJ k)) none = some (.sl (some true) b 2 k (n - k)):=sl_from hlt
   by_cases he : q = p
   ·rw [if_pos he] at hst
    have ex : zG6 false (p.1 == q.1 && (p.2 == q.2 && true)) = true:=by subst he; simp [zG6]
    refine zEV ?_; refine zP tT ?_; refine sAt ⟨by omega,by omega⟩ ?_; refine zA5 k (cV p) (cV p) tO hb hpm rfl ?_; refine zM (r:=k - 1) tO tO ?_; refine sAt ⟨by omega,by omega⟩ ?_; refine zA5 (k - 1) (cV q) (cV q) tO hb hqm rfl ?_; refine zS rfl ?_; refine zP ex ?_; refine zS hS2 ?_; refine zBB (fun x : Nat × Nat × List (Int × Int)=>[(5,zJ x.1),(3,zJ x.2.1),(4,.sl (some true) b 2 k (n - k)),(0,.sl (some true) b 2 0 n)]) (fun x H'=>H' = H1.set b (.row 2 (x.2.2.map cV)) ∧ x.2.2.length = n ∧ 1 ≤ x.1 ∧ k + x.1 ≤ n ∧ x.2.2.take x.2.1 = zj (xs.take (k + x.1)) ∧ x.2.1 = (zj (xs.take (k + x.1))).length ∧ x.2.1 + 1 ≤ k + x.1 ∧ ∀ j,k + x.1 ≤ j + 1 → x.2.2[j]? = xs[j]?) (fun x=>n - x.1) (1,k,xs) rfl ⟨(zLH hb).symm,hn,by simp,by simp only; omega,by simp only; rw [hst,hck],by simp only; rw [hst,hck,List.length_take]; omega,by simp only; omega,fun _ _=>rfl⟩ (fun x H2 hi2=>?_)
    obtain ⟨k2,k',ys⟩:=x
    dsimp only at hi2 ⊢
    obtain ⟨hH2,hy,hk2,hkk,ht,hk',hkb,hsame2⟩:=hi2
    have hb2 : H2[b]? = some (.row 2 (ys.map cV)):=by rw [hH2]; exact List.getElem?_set_self hbl
    have hk'0 : 0 < k':=by
     rw [hk']
     refine List.length_pos_iff.2 fun e=>?_
     have:=(zDN (xs.take (k + k2)) (xs[0]'tO)).2 (by
      rw [List.mem_iff_getElem]
      exact ⟨0,by rw [List.length_take]; omega,by rw [List.getElem_take]⟩)
     rw [e] at this; simp at this
    by_cases hlt2 : k + k2 < n
    ·obtain ⟨p2,hp2⟩ : ∃ p,xs[k + k2]? = some p:=⟨_,List.getElem?_eq_getElem tO⟩
     obtain ⟨q2,hq2⟩ : ∃ q,xs[k + k2 - 1]? = some q:=⟨_,List.getElem?_eq_getElem tO⟩
     obtain ⟨r2,hr2⟩ : ∃ q,ys[k']? = some q:=⟨_,List.getElem?_eq_getElem tO⟩
     have hpm2 : (ys.map cV)[k + k2]? = some (cV p2):=by rw [List.getElem?_map,hsame2 _ tO,hp2]; rfl
     have hqm2 : (ys.map cV)[k + k2 - 1]? = some (cV q2):=by rw [List.getElem?_map,hsame2 _ tO,hq2]; rfl
     have hrm2 : (ys.map cV)[k']? = some (cV r2):=by rw [List.getElem?_map,hr2]; rfl
     have hst2:=zKe (k:=k + k2) tO hp2 hq2
     by_cases he2 : q2 = p2
     ·rw [if_pos he2] at hst2
      have ex2 : zG6 true (p2.1 == q2.1 && (p2.2 == q2.2 && true)) = false:=by subst he2; simp [zG6]
      refine zEV ?_; refine zP tT ?_; refine sAt ⟨by omega,by omega⟩ ?_; refine zA5 (k + k2) (cV p2) (cV p2) tO hb2 hpm2 rfl ?_; refine zM (r:=k2 - 1) tO tO ?_; refine sAt ⟨by omega,by omega⟩ ?_; refine zA5 (k + k2 - 1) (cV q2) (cV q2) tO hb2 hqm2 rfl ?_; refine zS rfl ?_; refine zO ex2 ?_; refine zM (r:=k2 + 1) rfl tO ?_; refine zAA (k2 + 1,k',ys) rfl ⟨hH2,hy,by simp only; omega,by simp only; omega,by simp only; rw [ht]; exact hst2.symm,by simp only; rw [hk']; exact congrArg List.length hst2.symm,by simp only; omega,fun j hj=>hsame2 j (by simp only at hj; omega)⟩ (by simp only; omega)
     ·rw [if_neg he2] at hst2
      have ex2 : zG6 true (p2.1 == q2.1 && (p2.2 == q2.2 && true)) = true:=by rw [cell_ne he2]; rfl
      refine zEV ?_; refine zP tT ?_; refine sAt ⟨by omega,by omega⟩ ?_; refine zA5 (k + k2) (cV p2) (cV p2) tO hb2 hpm2 rfl ?_; refine zM (r:=k2 - 1) tO tO ?_; refine sAt ⟨by omega,by omega⟩ ?_; refine zA5 (k + k2 - 1) (cV q2) (cV q2) tO hb2 hqm2 rfl ?_; refine zS rfl ?_; refine zP ex2 ?_; refine sAt ⟨by omega,by omega⟩ ?_; refine zA5 (k + k2) (cV p2) (cV p2) tO hb2 hpm2 rfl ?_; refine sAt ⟨by omega,by omega⟩ ?_
      refine sStoreK2 k' p2 r2 tO hb2 hrm2 ?_; refine zM (r:=k' + 1) rfl tO ?_; refine zM (r:=k2 + 1) rfl tO ?_; refine zAA (k2 + 1,k' + 1,ys.set k' p2) rfl ⟨?_,by simp only [List.length_set]; exact hy,by simp only; omega,by simp only; omega, ?_, ?_,by simp only; omega,fun j hj=>?_⟩ (by simp only; omega)
      ·simp only
       rw [hH2,List.set_set,List.map_set]
      ·simp only
       rw [show k + (k2 + 1) = k + k2 + 1 by omega,hst2,← ht,List.take_succ,List.getElem?_set_self tO,List.take_set_of_le tO]
       rfl
      ·simp only
       rw [show k + (k2 + 1) = k + k2 + 1 by omega,hst2,List.length_append,← hk']; rfl
      ·simp only at hj ⊢
       rw [List.getElem?_set_ne tO]
       exact hsame2 j tO
    ·have hfull : xs.take (k + k2) = xs:=List.take_of_length_le tO
     rw [hfull] at ht hk'
     have hS3 : zAy (some 2) (.sl (some true) b 2 0 n) (some (zJ k')) none = some (.sl (some true) b 2 k' (n - k')):=sl_from tO
     have hS4 : zAy (some 2) (.sl (some true) b 2 0 n) none (some (zJ k')) = some (.sl (some true) b 2 0 k'):=sl_to hk'0 tO
     have hrow : (ys.map cV).take k' ++ List.replicate (n - k') (AV.agg zV10) ++ (ys.map cV).drop (k' + (n - k')) = (padL xs).map cV:=by
      rw [show k' + (n - k') = n by omega,List.drop_of_length_le (by simp; omega),List.append_nil,← List.map_take,ht]
      unfold padL
      rw [List.map_append,List.map_replicate,hn,← hk']
      rfl
     obtain ⟨o1,o2⟩:=set_old hbl 2 ((padL xs).map cV)
     rw [← hk']
     refine zEV ?_; refine zO tF ?_; refine zS hS3 ?_; refine sClear hb2 (by simp; omega) tO rfl ?_; refine zS hS4 ?_; refine sRetW rfl rfl (zMb hbl) (by simp [AV.bel,hbl]) ?_ ?_
     ·rw [hrow,hH2,List.set_set]; exact o1
     ·rw [hrow,hH2,List.set_set]; exact o2
   ·rw [if_neg he] at hst
    have ex : zG6 false (p.1 == q.1 && (p.2 == q.2 && true)) = false:=by rw [cell_ne he]; rfl
    refine zEV ?_; refine zP tT ?_; refine sAt ⟨by omega,by omega⟩ ?_; refine zA5 k (cV p) (cV p) tO hb hpm rfl ?_; refine zM (r:=k - 1) tO tO ?_; refine sAt ⟨by omega,by omega⟩ ?_; refine zA5 (k - 1) (cV q) (cV q) tO hb hqm rfl ?_; refine zS rfl ?_; refine zO ex ?_; refine zM (r:=k + 1) rfl tO ?_; refine zAA (k + 1) rfl ⟨rfl,by omega,by omega, ?_⟩ tO
    rw [hst,hck,List.take_succ,hp]; rfl
  ·have hfull : xs.take k = xs:=List.take_of_length_le tO
   rw [hfull] at hck
   obtain ⟨e1,e2⟩:=hsame hck
   rw [e1,e2]
   refine zEV ?_; refine zO tF ?_
   exact sRetW rfl rfl (zMb hbl) (by simp [AV.bel,hbl]) hO0.1 hO0.2
end
end Go.AM
