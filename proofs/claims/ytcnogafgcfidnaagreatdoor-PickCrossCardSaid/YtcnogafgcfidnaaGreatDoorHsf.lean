/- slices.SortFunc of values by value.Compare, by the kit's shelf: the row holds the same values, sorted. A contract shown by hand. Own work. -/
import Derived.Test.YtcnogafgcfidnaaGreatDoorGHgcAm33
import Derived.Test.YtcnogafgcfidnaaGreatDoorGSk0Skg
import Derived.Shelf.SlSortCmp.WholeK
set_option linter.all false
set_option maxRecDepth 100000
namespace Go.Proofs.YtcnogafgcfidnaaGreatDoor
open Go.AM Go.Shelf Go.RowKit Go.Lib Go.Sort Go.Proofs
def zG1 (x : Val) : List Value:=[.int .i64 x.kind,.int .i64 x.num,.string ⟨x.text.toArray⟩]
def cfK (x y : Val) : Int:=zEq x y
theorem zLK (x y : Val) : ltOf cfK x y = decide (zEq x y < 0):=by
 unfold ltOf cfK
 rfl
theorem swoK : SWO (ltOf cfK) where
 irrefl x:=by rw [zLK]; refine decide_eq_false ?_; have:=zAi.anti x x; omega
 trans x y z h1 h2:=by
  rw [zLK] at *
  simp only [decide_eq_true_eq] at *
  have h3:=zAi.trans x y z tO tO
  have a1:=zAi.anti x y
  have a2:=zAi.anti x z
  by_cases e : zEq x z = 0
  ·have:=zAi.trans z x y tO tO
   have:=zAi.anti y z
   omega
  ·omega
 ntrans x y z h1 h2:=by
  rw [zLK] at *
  simp only [decide_eq_false_iff_not] at *
  have a1:=zAi.anti x y
  have a2:=zAi.anti y z
  have a3:=zAi.anti x z
  have:=zAi.trans z y x tO tO
  omega
theorem zPB (blk off size : Nat) (w : World) : CmpLays Tryz.prog 23 #[] zG1 3 cfK blk off size w:=fun _ _ _ _ x y=>zMH x y _
theorem zMK (blk off cap : Nat) (d : List Val) (w : World) (hH : HoldsK zG1 3 w blk off d.toArray) (hblk : blk < w.heap.size) (hsz : d.length ≤ 1000) :
  Calls Tryz.prog 22 #[.slice (some ⟨blk,off,none⟩) d.length cap,.func (.func 23) #[] #[]] w fun e w'=>e = .returned (.tuple #[]) ∧ ∃ n os,w' = sortWorldK zG1 3 w blk off n (zAq d).toArray os:=by
 have eg : ∀ args w,(callFunc 23 args).run Tryz.prog w = .ok (.enter 23 args) w:=enters_of Tryz.func23 (by kernel_rfl) rfl
 have hcon:=AnyQ.slices_SortFunc Tryz.ownSort 3 (by intro w; kernel_rfl) (by intro w; kernel_rfl) zG1 (fun _=>rfl) (fun x v hv=>by simp [zG1] at hv; rcases hv with rfl | rfl | rfl <;> rfl) cfK swoK 23 #[] blk off cap d.toArray w eg (zPB blk off _ w) hH hblk (by simp; omega)
 refine hcon.mono ?_
 rintro e w' ⟨he,d',n,os,hp,hs,hw⟩
 refine ⟨he,n,os, ?_⟩
 have hsz' : d'.size = d.length:=by simpa using hp.1
 have e1 : d'.toList = zAq d:=by
  refine zLB ?_ ?_
  ·have:=hp.2.2
   have x1 : d'.extract 0 d.toArray.size = d':=by apply Array.ext' ; simp [← hsz']
   have x2 : d.toArray.extract 0 d.toArray.size = d.toArray:=by apply Array.ext'; simp
   rw [x1,x2] at this
   simpa using this
  ·rw [List.pairwise_iff_getElem]
   intro i j hi hj hij
   have:=hs i j (Nat.zero_le _) hij (by simp at hj; simpa [hsz'] using hj)
   rw [zLK,decide_eq_false_iff_not] at this
   have hi' : i < d'.size:=by simpa using hi
   have hj' : j < d'.size:=by simpa using hj
   rw [getElem!_pos d' i hi',getElem!_pos d' j hj'] at this
   simp only [Array.getElem_toList]
   unfold leW
   rw [decide_eq_true_eq]
   have h2:=zAi.anti d'[i] d'[j]
   omega
 rw [hw,← e1]
theorem zML (w : World) (blk off n : Nat) (dk : Array Val) (os : Array Obj) {cur : Array Value} {e : TypeId} {fz : Nat × Nat} (hg : w.heap[blk]? = some (.cells cur e fz)) {w' : World} (h : w' = sortWorldK zG1 3 w blk off n dk os) :
  w'.os = w.os ∧ w'.tape = w.tape ∧ w'.output = w.output ∧ w.heap.size ≤ w'.heap.size ∧ (∀ j,j < w.heap.size → j ≠ blk → w'.heap[j]? = w.heap[j]?) ∧ w'.heap[blk]? = some (.cells (putCells id off (flatK zG1 3 dk) cur) e fz):=by
 subst h
 have hh : (sortWorldK zG1 3 w blk off n dk os).heap = w.heap.modify blk (onCells (putCells id off (flatK zG1 3 dk))) ++ os:=rfl
 have hlt:=(Array.getElem?_eq_some_iff.1 hg).1
 refine ⟨rfl,rfl,rfl,by rw [hh]; simp,fun j hj hne=>?_, ?_⟩
 ·rw [hh,Array.getElem?_append_left (by simpa using hj),Array.getElem?_modify,if_neg (Ne.symm hne)]
 ·rw [hh,Array.getElem?_append_left (by simpa using hlt),Array.getElem?_modify,if_pos rfl,hg]
  rfl
theorem zMM (l : List Val) : Elems 3 (l.map zB):=by
 intro x hx
 obtain ⟨f,_,rfl⟩:=List.mem_map.1 hx
 rfl
theorem zJq (d : Array Val) (i j : Nat) (p : Val) (v : Value) (hp : d[i]? = some p) (hv : (zG1 p)[j]? = some v) : i * 3 + j < (flatK zG1 3 d).size ∧ (flatK zG1 3 d)[i * 3 + j]! = v:=by
 have hi:=(Array.getElem?_eq_some_iff.1 hp).1
 have hj : j < 3:=by have:=(zg hv).1; simpa [zG1] using this
 have hlt : i * 3 + j < d.size * 3:=by omega
 refine ⟨by rw [size_flatK]; exact hlt, ?_⟩
 rw [get_flatK _ _ _ _ hlt,show (i * 3 + j) / 3 = i by omega,show (i * 3 + j) % 3 = j by omega,getElem!_pos d i hi,(Array.getElem?_eq_some_iff.1 hp).2]
 obtain ⟨h1,h2⟩:=zg hv
 rw [getElem!_pos (zG1 p) j h1,h2]
theorem zNs {GT : Nat → Option AV} (b : Nat) (xs : List Val) (H : Heap) (hb : H[b]? = some (.row 3 (xs.map zB))) (hne : xs ≠ []) (hl : xs.length ≤ 1000) :
  Go.AM.Good Tryz.prog GT 22 [.sl (some true) b 3 0 xs.length,.fn 23 [] []] H (.tup []) (H.set b (.row 3 ((zAq xs).map zB))):=by
 refine zD5 Tryz.func22 (by kernel_rfl) (by kernel_rfl) rfl fun w M I cargs hS hA=>?_
 obtain ⟨v1,v2,rfl,r1,r2⟩:=zIk hA
 have hn0 : 0 < xs.length:=List.length_pos_iff.2 hne
 have hfn : v2 = .func (.func 23) #[] #[]:=by
  cases r2 with
  | fn _ _ _ vs us h1 h2 _ _=>
   have e1 : vs = []:=List.length_eq_zero_iff.1 h1.symm
   have e2 : us = []:=List.length_eq_zero_iff.1 h2.symm
   subst e1 e2
   rfl
 subst hfn
 obtain ⟨he,⟨_,h⟩ | ⟨g,o,cur,hM,⟨e,fz,h1,h2⟩,hI,hfit,hc⟩⟩:=hS.blk b _ hb
 ·exact absurd (List.map_eq_nil_iff.1 h) hne
 rw [List.length_map] at hfit
 obtain ⟨cap,rfl⟩ : ∃ cap,v1 = .slice (some ⟨g,o,none⟩) xs.length cap:=by
  generalize xs.length = n at r1 hn0
  cases r1 with
  | sln=>exact absurd hn0 (Nat.lt_irrefl _)
  | sl _ _ _ _ _ g' o' p cap hb' hM' hcl hm hq ha=>
   rw [hM] at hM'
   simp only [Option.some.injEq,Prod.mk.injEq] at hM'
   obtain ⟨rfl,rfl⟩:=hM'
   obtain ⟨hp,_⟩:=ha tO
   subst hp
   exact ⟨cap,by simp⟩
 have hgl:=(Array.getElem?_eq_some_iff.1 h1).1
 have hget : ∀ i j p v,xs[i]? = some p → (zG1 p)[j]? = some v → cur[o + i * 3 + j]? = some v:=fun i j p v hp hv=>by
  have hcv : (xs.map zB)[i]? = some (zB p):=by rw [List.getElem?_map,hp]; rfl
  match j,hv with
  | 0,hv=>
   cases hv
   obtain ⟨u,hu,hr⟩:=hc i 0 (zB p) (zJ p.kind) hcv rfl
   cases hr
   exact hu
  | 1,hv=>
   cases hv
   obtain ⟨u,hu,hr⟩:=hc i 1 (zB p) (zJ p.num) hcv rfl
   cases hr
   exact hu
  | 2,hv=>
   cases hv
   obtain ⟨u,hu,hr⟩:=hc i 2 (zB p) (.str p.text) hcv rfl
   cases hr
   exact hu
  | j + 3,hv=>simp [zG1] at hv
 have hH : HoldsK zG1 3 w g o xs.toArray:=fun t ht=>by
  rw [size_flatK] at ht
  have ht : t < xs.length * 3:=by simpa using ht
  obtain ⟨p,hp⟩ : ∃ p,xs[t / 3]? = some p:=⟨_,List.getElem?_eq_getElem tO⟩
  obtain ⟨v,hv⟩ : ∃ v,(zG1 p)[t % 3]? = some v:=⟨_,List.getElem?_eq_getElem (by simp [zG1]; omega)⟩
  have:=hget _ _ p v hp hv
  have hf:=(zJq xs.toArray (t / 3) (t % 3) p v (by simpa using hp) hv).2
  rw [show t / 3 * 3 + t % 3 = t by omega] at hf
  refine ⟨?_, ?_⟩
  ·rw [hf]
   simp only [World.cell?,h1]
   rw [show o + t = o + t / 3 * 3 + t % 3 by omega]
   simpa using this
  ·have:=h2 (o + t) tO
   simp only [World.frozen?,h1]
   simpa using this
 refine Calls.mono (zMK g o cap xs w hH hgl hl) ?_
 rintro e' w' ⟨rfl,n,os,hw⟩
 obtain ⟨q1,q2,q3,q4,q5,q6⟩:=zML w g o n _ os h1 hw
 have hsl : (zAq xs).length = xs.length:=(zBO xs).length_eq
 have hsize : (putCells id o (flatK zG1 3 (zAq xs).toArray) cur).size = cur.size:=by simp [putCells]
 refine ⟨_,rfl, ?_⟩
 have hsh : ∀ s,w.shape? g = some s → w'.shape? g = some s:=fun s hs=>by
  simp only [World.shape?,h1] at hs
  simp only [World.shape?,q6,hsize]
  exact hs
 obtain ⟨M',I',G,S⟩:=zKW (ys:=(zAq xs).map zB) hS hb hM q1 q2 q3 q4 (fun j hj hn=>q5 j hj hn) hsh (zMM _) ⟨e,fz,q6,by rw [hsize]; exact h2⟩ (by rw [List.length_map,hsl,hsize]; exact hfit) (fun i j y c hy hcc=>by
  rw [List.getElem?_map] at hy
  obtain ⟨p,hp,rfl⟩:=Option.map_eq_some_iff.1 hy
  have hil:=(zg hp).1
  have put : ∀ v,(zG1 p)[j]? = some v → (putCells id o (flatK zG1 3 (zAq xs).toArray) cur)[o + i * 3 + j]? = some v:=fun v hv=>by
   obtain ⟨f1,f2⟩:=zJq (zAq xs).toArray i j p v (by simpa using hp) hv
   have hcs : o + i * 3 + j < cur.size:=by
    rw [size_flatK] at f1
    have f1 : i * 3 + j < (zAq xs).length * 3:=by simpa using f1
    omega
   simp only [putCells,Array.getElem?_mapIdx,Array.getElem?_eq_getElem hcs,Option.map_some]
   rw [if_pos ⟨by omega,by omega⟩,show o + i * 3 + j - o = i * 3 + j by omega,f2]
   rfl
  match j,hcc with
  | 0,hcc=>cases hcc; exact ⟨_,put _ rfl,fun _ _ _=>.int _ _⟩
  | 1,hcc=>cases hcc; exact ⟨_,put _ rfl,fun _ _ _=>.int _ _⟩
  | 2,hcc=>cases hcc; exact ⟨_,put _ rfl,fun _ _ _=>.str _⟩
  | j + 3,hcc=>simp [zB,AV.cells] at hcc)
 exact ⟨M',I',G,S,.tup [] [] rfl fun i c v h _=>by simp at h⟩
end Go.Proofs.YtcnogafgcfidnaaGreatDoor
