/- Several texts of mine in one (Mg4, MsL, Msf, Mev, Mcp). Own work. -/
import Derived.Test.YtmmbcogejaofpaaGreatDoorGMg0Opv
import Derived.Shelf.SlLaysF0
import Derived.Ground.SlsfProg
import Derived.Ground.NamesProg
import Derived.Test.YtmmbcogejaofpaaGreatDoorProg
import Derived.Test.YtmmbcogejaofpaaGreatDoorGAm33Wt0
import Derived.Shelf.SlSortCmp.WholeK
import Derived.Test.YtmmbcogejaofpaaGreatDoorGAm29Fq0
import Derived.Test.YtmmbcogejaofpaaGreatDoorGMkAm27
import Derived.Test.YtmmbcogejaofpaaGreatDoorGInsDlg
set_option linter.all false
namespace Go.AM
def cV (p : Int × Int) : AV:=zAu p.1 p.2
def zk : List (List Fil) → Nat
 | []=>0
 | l :: r=>if zCl l = 0 then zk r else zCl l
theorem checkAll_drop (ls : List (List Fil)) (i : Nat) (l : List Fil) (h : ls[i]? = some l) : zk (ls.drop i) = if zCl l = 0 then zk (ls.drop (i + 1)) else zCl l:=by
 have hi:=(zg h).1
 rw [List.drop_eq_getElem_cons hi,(zg h).2]
 rfl
theorem zA6 : ∀ {ls : List (List Fil)},zk ls = 0 → ∀ l ∈ ls,Goods l
 | [],_,l,h=>absurd h (by simp)
 | g :: ls,h,l,hl=>by
  unfold zk at h
  by_cases h0 : zCl g = 0
  ·rw [if_pos h0] at h
   rcases List.mem_cons.1 hl with rfl | hl
   ·exact goods_of h0
   ·exact zA6 h l hl
  ·rw [if_neg h0] at h; exact absurd h h0
theorem zCv : ∀ {ls : List (List Fil)},(∀ l ∈ ls,Goods l) → zk ls = 0
 | [],_=>rfl
 | g :: ls,h=>by
  unfold zk
  rw [if_pos (h g (by simp)).check]
  exact zCv fun l hl=>h l (List.mem_cons_of_mem _ hl)
def zAP (a b : List Fil) : List Fil:=zDG a b (zA5 [a,b])
def diffV (a b : List Fil) : AV:=if zk [a,b] = 0 then zCU 3 ((zAP a b).map zO) else .lst (some true) 0 []
def zAx (w a b : List Fil) : List Fil:=zAN w a b (zA5 [w,a,b])
def zBV (w a b : List Fil) : List (Int × Int):=zB3 w a b (zA5 [w,a,b])
def zAU (w a b : List Fil) : Nat:=if zk [w,a,b] ≠ 0 then zk [w,a,b] else if 200 < (zAx w a b).length then 4 else 0
theorem zHe (a b : List Fil) : (zAP a b).map zA1 = (zA5 [a,b]).filter fun p=>decide (zS a p ≠ zS b p):=by
 unfold zAP zDG
 rw [List.map_map]
 exact List.map_id _
theorem zFc {a b : List Fil} {p : Int × Int} : p ∈ (zAP a b).map zA1 ↔ zS a p ≠ zS b p:=by
 rw [zHe,List.mem_filter,decide_eq_true_eq]
 constructor
 ·exact fun h=>h.2
 ·intro h
  refine ⟨Classical.byContradiction fun k=>h ?_,h⟩
  rw [zCg (zAM [a,b]) k (l:=a) (by simp),zCg (zAM [a,b]) k (l:=b) (by simp)]
theorem zJj (a b : List Fil) : Asc ((zAP a b).map zA1):=by
 rw [zHe]
 exact (zAM [a,b]).1.filter _
theorem diffL_swap (a b : List Fil) : (zAP b a).length = (zAP a b).length:=by
 have : (zAP b a).map zA1 = (zAP a b).map zA1:=zHc (zJj b a) (zJj a b) fun p=>by
  rw [zFc,zFc]
  exact ⟨fun h e=>h e.symm,fun h e=>h e.symm⟩
 have:=congrArg List.length this
 simpa using this
theorem diffL_self (a : List Fil) : zAP a a = []:=by
 have : (zAP a a).map zA1 = []:=by
  rw [List.eq_nil_iff_forall_not_mem]
  intro p hp
  exact zFc.1 hp rfl
 exact List.map_eq_nil_iff.1 this
theorem diffL_nil {b : List Fil} (h : Goods b) : (zAP [] b).length = b.length:=by
 have : (zAP [] b).map zA1 = b.map zA1:=zHc (zJj [] b) (zJh h.srt) fun p=>by
  rw [zFc]
  constructor
  ·intro k
   exact zEr fun e=>k (by rw [e]; rfl)
  ·intro k e
   obtain ⟨f,hf,rfl⟩:=List.mem_map.1 k
   rw [zCq h.srt hf] at e
   exact (h.each f hf).2 e.symm
 have:=congrArg List.length this
 simpa using this
theorem diffL_done {a b : List Fil} (ha : Goods a) (hb : Goods b) : zCA a (zAP a b) = b:=diff_done ha hb (zAM _)
theorem compactL_len (xs : List (Int × Int)) : (zT xs).length ≤ xs.length:=by
 induction xs using zT.induct with
 | case1=>simp [zT]
 | case2 x=>simp [zT]
 | case3 x r ih=>rw [zT,if_pos rfl]; simp only [List.length_cons] at *; omega
 | case4 x y r h ih=>rw [zT,if_neg h]; simp only [List.length_cons] at *; omega
theorem zHf (ls : List (List Fil)) : (zA5 ls).length ≤ (ls.map List.length).sum:=by
 unfold zA5
 have h1:=compactL_len (zCO (ls.flatMap fun l=>l.map zA1))
 have h2:=(zDI (ls.flatMap fun l=>l.map zA1)).length_eq
 have h3 : (ls.flatMap fun l=>l.map zA1).length = (ls.map List.length).sum:=by
  rw [List.length_flatMap]
  simp
 omega
theorem zFd {a b : List Fil} (ha : Goods a) (hb : Goods b) : (zAP a b).length ≤ 400:=by
 have h0 : ((zAP a b).map zA1).length ≤ (zA5 [a,b]).length:=by rw [zHe]; exact List.length_filter_le _ _
 have h1:=zHf [a,b]
 have h2:=ha.len
 have h3:=hb.len
 simp only [List.length_map] at h0
 simp at h1
 omega
theorem diffL_each {a b : List Fil} (ha : Goods a) (hb : Goods b) : ∀ f ∈ zAP a b,okC f.col f.row = true ∧ zCe f.text = 0:=by
 intro f hf
 have hk : zA1 f ∈ (zAP a b).map zA1:=List.mem_map.2 ⟨f,hf,rfl⟩
 have hd:=zFc.1 hk
 have hft : f.text = zS b (zA1 f):=by
  unfold zAP zDG at hf
  obtain ⟨p,_,rfl⟩:=List.mem_map.1 hf
  rfl
 have good : ∀ {l : List Fil},Goods l → zA1 f ∈ l.map zA1 → okC f.col f.row = true:=fun {l} hl hm=>by
  obtain ⟨g,hg,e⟩:=List.mem_map.1 hm
  have h1:=(hl.each g hg).1
  have e1 : g.col = f.col:=congrArg Prod.fst e
  have e2 : g.row = f.row:=congrArg Prod.snd e
  rw [← e1,← e2]
  unfold mayN at h1
  cases hc : okC g.col g.row with
  | true=>rfl
  | false=>rw [hc] at h1; cases h1
 refine ⟨?_, ?_⟩
 ·by_cases h1 : zA1 f ∈ a.map zA1
  ·exact good ha h1
  ·refine good hb (zEr fun e=>hd ?_)
   rw [zCF h1,e]
 ·rw [hft]
  by_cases h1 : zA1 f ∈ b.map zA1
  ·obtain ⟨g,hg,e⟩:=List.mem_map.1 h1
   rw [← e,zCq hb.srt hg]
   have h2:=(hb.each g hg).1
   unfold mayN at h2
   cases hc : okC g.col g.row with
   | true=>rw [hc,if_pos rfl] at h2; exact h2
   | false=>rw [hc] at h2; cases h2
  ·rw [zCF h1]; rfl
end Go.AM
namespace Go.Proofs
open Go.Shelf
def Tryz.ownSort_ren : Go.Shelf.Ren:=⟨fun | 6=>27 | 15=>42 | 14=>41 | 28=>65 | 29=>66 | 20=>57 | 21=>58 | 22=>59 | 23=>60 | 24=>61 | 25=>62 | 26=>63 | 27=>64 | 46=>79 | 47=>80 | 48=>81 | 49=>82 | 50=>83 | 57=>92 | n=>n,fun | 22=>29 | 24=>34 | 25=>61 | 3=>3 | 39=>82 | 0=>0 | 53=>111 | 55=>113 | 4=>4 | 46=>105 | 45=>104 | 50=>72 | 5=>5 | 9=>9 | 66=>121 | 70=>125 | 76=>138 | 77=>139 | n=>n,fun | n=>n⟩
theorem Tryz.ownSort : Go.Proofs.SlLaysF0.n6 Tryz.prog Tryz.ownSort_ren:={
 mixed:=by kernel_rfl
 f6:=⟨Tryz.f27.name,by decide,Tryz.func27.trans (congrArg some (by kernel_rfl))⟩
 f14:=⟨Tryz.f41.name,by decide,Tryz.func41.trans (congrArg some (by kernel_rfl))⟩
 f15:=Tryz.func42.trans (congrArg some (by kernel_rfl))
 f20:=⟨Tryz.f57.name,by decide,Tryz.func57.trans (congrArg some (by kernel_rfl))⟩
 f21:=⟨Tryz.f58.name,by decide,Tryz.func58.trans (congrArg some (by kernel_rfl))⟩
 f22:=⟨Tryz.f59.name,by decide,Tryz.func59.trans (congrArg some (by kernel_rfl))⟩
 f23:=⟨Tryz.f60.name,by decide,Tryz.func60.trans (congrArg some (by kernel_rfl))⟩
 f24:=⟨Tryz.f61.name,by decide,Tryz.func61.trans (congrArg some (by kernel_rfl))⟩
 f25:=⟨Tryz.f62.name,by decide,Tryz.func62.trans (congrArg some (by kernel_rfl))⟩
 f26:=⟨Tryz.f63.name,by decide,Tryz.func63.trans (congrArg some (by kernel_rfl))⟩
 f27:=⟨Tryz.f64.name,by decide,Tryz.func64.trans (congrArg some (by kernel_rfl))⟩
 f28:=Tryz.func65.trans (congrArg some (by kernel_rfl))
 f29:=Tryz.func66.trans (congrArg some (by kernel_rfl))
 f46:=⟨Tryz.f79.name,by decide,Tryz.func79.trans (congrArg some (by kernel_rfl))⟩
 f47:=Tryz.func80.trans (congrArg some (by kernel_rfl))
 f48:=Tryz.func81.trans (congrArg some (by kernel_rfl))
 f49:=⟨Tryz.f82.name,by decide,Tryz.func82.trans (congrArg some (by kernel_rfl))⟩
 f50:=⟨Tryz.f83.name,by decide,Tryz.func83.trans (congrArg some (by kernel_rfl))⟩
 f57:=⟨Tryz.f92.name,by decide,Tryz.func92.trans (congrArg some (by kernel_rfl))⟩
 t0:=Tryz.underlying0
 a0:=Tryz.isAgg0
 z0:=Tryz.sizeOf0
 v0:=Tryz.zeroValue0
 t3:=Tryz.underlying3
 a3:=Tryz.isAgg3
 z3:=Tryz.sizeOf3
 v3:=Tryz.zeroValue3
 t4:=Tryz.underlying4
 a4:=Tryz.isAgg4
 z4:=Tryz.sizeOf4
 v4:=Tryz.zeroValue4
 t5:=Tryz.underlying5
 a5:=Tryz.isAgg5
 z5:=Tryz.sizeOf5
 v5:=Tryz.zeroValue5
 t9:=Tryz.underlying9
 a9:=Tryz.isAgg9
 z9:=Tryz.sizeOf9
 v9:=Tryz.zeroValue9
 t22:=Tryz.underlying29
 a22:=Tryz.isAgg29
 z22:=Tryz.sizeOf29
 v22:=Tryz.zeroValue29
 t25:=Tryz.underlying61
 a25:=Tryz.isAgg61
 z25:=Tryz.sizeOf61
 v25:=Tryz.zeroValue61
 t39:=Tryz.underlying82
 a39:=Tryz.isAgg82
 z39:=Tryz.sizeOf82
 v39:=Tryz.zeroValue82
 t45:=Tryz.underlying104
 a45:=Tryz.isAgg104
 z45:=Tryz.sizeOf104
 v45:=Tryz.zeroValue104
 t46:=Tryz.underlying105
 a46:=Tryz.isAgg105
 z46:=Tryz.sizeOf105
 v46:=Tryz.zeroValue105
 t50:=Tryz.underlying72
 a50:=Tryz.isAgg72
 z50:=Tryz.sizeOf72
 v50:=Tryz.zeroValue72
 t53:=Tryz.underlying111
 a53:=Tryz.isAgg111
 z53:=Tryz.sizeOf111
 v53:=Tryz.zeroValue111
 t55:=Tryz.underlying113
 a55:=Tryz.isAgg113
 z55:=Tryz.sizeOf113
 v55:=Tryz.zeroValue113
 t66:=Tryz.underlying121
 a66:=Tryz.isAgg121
 z66:=Tryz.sizeOf121
 v66:=Tryz.zeroValue121
 t70:=Tryz.underlying125
 a70:=Tryz.isAgg125
 z70:=Tryz.sizeOf125
 v70:=Tryz.zeroValue125
 t76:=Tryz.underlying138
 a76:=Tryz.isAgg138
 z76:=Tryz.sizeOf138
 v76:=Tryz.zeroValue138
 t77:=Tryz.underlying139
 a77:=Tryz.isAgg139
 z77:=Tryz.sizeOf139
 v77:=Tryz.zeroValue139 }
end Go.Proofs
set_option maxRecDepth 100000
namespace Go.Proofs.YtmmbcogejaofpaaGreatDoor
open Go.AM Go.Shelf Go.RowKit Go.Lib Go.Sort Go.Proofs
def encK (x : Int × Int) : List Value:=[.int .i64 x.1,.int .i64 x.2]
def cfK (x y : Int × Int) : Int:=cmpC x.1 x.2 y.1 y.2
instance (p q : Int × Int) : Decidable (ltK p q):=by unfold ltK; infer_instance
theorem ltK_of (x y : Int × Int) : ltOf cfK x y = decide (ltK x y):=by
 unfold ltOf cfK
 rw [decide_eq_decide,zJa]
 rfl
theorem swoK : SWO (ltOf cfK) where
 irrefl x:=by rw [ltK_of]; exact tF (zFn x)
 trans x y z h1 h2:=by rw [ltK_of] at *; simp only [decide_eq_true_eq] at *; exact ltK_trans h1 h2
 ntrans x y z h1 h2:=by rw [ltK_of] at *; simp only [decide_eq_false_iff_not] at *; unfold ltK at *; omega
theorem cmp_lays (blk off size : Nat) (w : World) : CmpLays Tryz.prog 28 #[] encK 2 cfK blk off size w:=fun _ _ _ _ x y=>acmp_calls x y _
theorem sort_calls (blk off cap : Nat) (d : List (Int × Int)) (w : World) (hH : HoldsK encK 2 w blk off d.toArray) (hblk : blk < w.heap.size) (hsz : d.length ≤ 1000) :
  Calls Tryz.prog 27 #[.slice (some ⟨blk,off,none⟩) d.length cap,.func (.func 28) #[] #[]] w fun e w'=>e = .returned (.tuple #[]) ∧ ∃ n os,w' = sortWorldK encK 2 w blk off n (zCO d).toArray os:=by
 have eg : ∀ args w,(callFunc 28 args).run Tryz.prog w = .ok (.enter 28 args) w:=enters_of Tryz.func28 (by kernel_rfl) rfl
 have hcon:=AnyQ.slices_SortFunc Tryz.ownSort 2 (by intro w; kernel_rfl) (by intro w; kernel_rfl) encK (fun _=>rfl) (fun x v hv=>by simp [encK] at hv; rcases hv with rfl | rfl <;> rfl) cfK swoK 28 #[] blk off cap d.toArray w eg (cmp_lays blk off _ w) hH hblk (by simp; omega)
 refine hcon.mono ?_
 rintro e w' ⟨he,d',n,os,hp,hs,hw⟩
 refine ⟨he,n,os, ?_⟩
 have hsz' : d'.size = d.length:=by simpa using hp.1
 have e1 : d'.toList = zCO d:=by
  refine sortK_eq ?_ ?_
  ·have:=hp.2.2
   have x1 : d'.extract 0 d.toArray.size = d':=by apply Array.ext' ; simp [← hsz']
   have x2 : d.toArray.extract 0 d.toArray.size = d.toArray:=by apply Array.ext'; simp
   rw [x1,x2] at this
   simpa using this
  ·rw [List.pairwise_iff_getElem]
   intro i j hi hj hij
   have:=hs i j (Nat.zero_le _) hij (by simp at hj; simpa [hsz'] using hj)
   rw [ltK_of,decide_eq_false_iff_not] at this
   have hi' : i < d'.size:=by simpa using hi
   have hj' : j < d'.size:=by simpa using hj
   rw [getElem!_pos d' i hi',getElem!_pos d' j hj'] at this
   simp only [Array.getElem_toList]
   unfold leK
   unfold ltK at this
   simp only [decide_eq_true_eq]
   omega
 rw [hw,← e1]
theorem sort_world (w : World) (blk off n : Nat) (dk : Array (Int × Int)) (os : Array Obj) {cur : Array Value} {e : TypeId} {fz : Nat × Nat} (hg : w.heap[blk]? = some (.cells cur e fz)) {w' : World} (h : w' = sortWorldK encK 2 w blk off n dk os) :
  w'.os = w.os ∧ w'.tape = w.tape ∧ w'.output = w.output ∧ w.heap.size ≤ w'.heap.size ∧ (∀ j,j < w.heap.size → j ≠ blk → w'.heap[j]? = w.heap[j]?) ∧ w'.heap[blk]? = some (.cells (putCells id off (flatK encK 2 dk) cur) e fz):=by
 subst h
 have hh : (sortWorldK encK 2 w blk off n dk os).heap = w.heap.modify blk (onCells (putCells id off (flatK encK 2 dk))) ++ os:=rfl
 have hlt:=(Array.getElem?_eq_some_iff.1 hg).1
 refine ⟨rfl,rfl,rfl,by rw [hh]; simp,fun j hj hne=>?_, ?_⟩
 ·rw [hh,Array.getElem?_append_left (by simpa using hj),Array.getElem?_modify,if_neg (Ne.symm hne)]
 ·rw [hh,Array.getElem?_append_left (by simpa using hlt),Array.getElem?_modify,if_pos rfl,hg]
  rfl
theorem cV_elems (l : List (Int × Int)) : Elems 2 (l.map cV):=by
 intro x hx
 obtain ⟨f,_,rfl⟩:=List.mem_map.1 hx
 rfl
theorem flat_get2 (d : Array (Int × Int)) (i j : Nat) (p : Int × Int) (v : Value) (hp : d[i]? = some p) (hv : (encK p)[j]? = some v) : i * 2 + j < (flatK encK 2 d).size ∧ (flatK encK 2 d)[i * 2 + j]! = v:=by
 have hi:=(Array.getElem?_eq_some_iff.1 hp).1
 have hj : j < 2:=by have:=(zg hv).1; simpa [encK] using this
 have hlt : i * 2 + j < d.size * 2:=by omega
 refine ⟨by rw [size_flatK]; exact hlt, ?_⟩
 rw [get_flatK _ _ _ _ hlt,show (i * 2 + j) / 2 = i by omega,show (i * 2 + j) % 2 = j by omega,getElem!_pos d i hi,(Array.getElem?_eq_some_iff.1 hp).2]
 obtain ⟨h1,h2⟩:=zg hv
 rw [getElem!_pos (encK p) j h1,h2]
theorem good_sort {GT : Nat → Option AV} (b : Nat) (xs : List (Int × Int)) (H : Heap) (hb : H[b]? = some (.row 2 (xs.map cV))) (hne : xs ≠ []) (hl : xs.length ≤ 1000) :
  Go.AM.Good Tryz.prog GT 27 [.sl (some true) b 2 0 xs.length,.fn 28 [] []] H (.tup []) (H.set b (.row 2 ((zCO xs).map cV))):=by
 refine zCu Tryz.func27 (by kernel_rfl) (by kernel_rfl) rfl fun w M I cargs hS hA=>?_
 obtain ⟨v1,v2,rfl,r1,r2⟩:=relL_two hA
 have hn0 : 0 < xs.length:=List.length_pos_iff.2 hne
 have hfn : v2 = .func (.func 28) #[] #[]:=by
  cases r2 with
  | fn _ _ _ vs us h1 h2 _ _=>
   have e1 : vs = []:=List.length_eq_zero_iff.1 h1.symm
   have e2 : us = []:=List.length_eq_zero_iff.1 h2.symm
   subst e1 e2
   rfl
 subst hfn
 obtain ⟨he,⟨_,h⟩ | ⟨g,o,cur,hM,⟨e,fz,h1,h2⟩,hI,hfit,hc⟩⟩:=hS.blk b _ hb
 ·exact absurd (List.map_eq_nil_iff.1 h) hne
 rw [List.length_map] at hfit
 obtain ⟨cap,rfl⟩ : ∃ cap,v1 = .slice (some ⟨g,o,none⟩) xs.length cap:=by
  generalize xs.length = n at r1 hn0
  cases r1 with
  | sln=>exact absurd hn0 (Nat.lt_irrefl _)
  | sl _ _ _ _ _ g' o' p cap hb' hM' hcl hm hq ha=>
   rw [hM] at hM'
   simp only [Option.some.injEq,Prod.mk.injEq] at hM'
   obtain ⟨rfl,rfl⟩:=hM'
   obtain ⟨hp,_⟩:=ha tO
   subst hp
   exact ⟨cap,by simp⟩
 have hgl:=(Array.getElem?_eq_some_iff.1 h1).1
 have hget : ∀ i j p v,xs[i]? = some p → (encK p)[j]? = some v → cur[o + i * 2 + j]? = some v:=fun i j p v hp hv=>by
  have hcv : (xs.map cV)[i]? = some (cV p):=by rw [List.getElem?_map,hp]; rfl
  match j,hv with
  | 0,hv=>
   cases hv
   obtain ⟨u,hu,hr⟩:=hc i 0 (cV p) (zr p.1) hcv rfl
   cases hr
   exact hu
  | 1,hv=>
   cases hv
   obtain ⟨u,hu,hr⟩:=hc i 1 (cV p) (zr p.2) hcv rfl
   cases hr
   exact hu
  | j + 2,hv=>simp [encK] at hv
 have hH : HoldsK encK 2 w g o xs.toArray:=fun t ht=>by
  rw [size_flatK] at ht
  have ht : t < xs.length * 2:=by simpa using ht
  obtain ⟨p,hp⟩ : ∃ p,xs[t / 2]? = some p:=⟨_,List.getElem?_eq_getElem tO⟩
  obtain ⟨v,hv⟩ : ∃ v,(encK p)[t % 2]? = some v:=⟨_,List.getElem?_eq_getElem (by simp [encK]; omega)⟩
  have:=hget _ _ p v hp hv
  have hf:=(flat_get2 xs.toArray (t / 2) (t % 2) p v (by simpa using hp) hv).2
  rw [show t / 2 * 2 + t % 2 = t by omega] at hf
  refine ⟨?_, ?_⟩
  ·rw [hf]
   simp only [World.cell?,h1]
   rw [show o + t = o + t / 2 * 2 + t % 2 by omega]
   simpa using this
  ·have:=h2 (o + t) tO
   simp only [World.frozen?,h1]
   simpa using this
 refine Calls.mono (sort_calls g o cap xs w hH hgl hl) ?_
 rintro e' w' ⟨rfl,n,os,hw⟩
 obtain ⟨q1,q2,q3,q4,q5,q6⟩:=sort_world w g o n _ os h1 hw
 have hsl : (zCO xs).length = xs.length:=(zDI xs).length_eq
 have hsize : (putCells id o (flatK encK 2 (zCO xs).toArray) cur).size = cur.size:=by simp [putCells]
 refine ⟨_,rfl, ?_⟩
 have hsh : ∀ s,w.shape? g = some s → w'.shape? g = some s:=fun s hs=>by
  simp only [World.shape?,h1] at hs
  simp only [World.shape?,q6,hsize]
  exact hs
 obtain ⟨M',I',G,S⟩:=row_written (ys:=(zCO xs).map cV) hS hb hM q1 q2 q3 q4 (fun j hj hn=>q5 j hj hn) hsh (cV_elems _) ⟨e,fz,q6,by rw [hsize]; exact h2⟩ (by rw [List.length_map,hsl,hsize]; exact hfit) (fun i j y c hy hcc=>by
  rw [List.getElem?_map] at hy
  obtain ⟨p,hp,rfl⟩:=Option.map_eq_some_iff.1 hy
  have hil:=(zg hp).1
  have put : ∀ v,(encK p)[j]? = some v → (putCells id o (flatK encK 2 (zCO xs).toArray) cur)[o + i * 2 + j]? = some v:=fun v hv=>by
   obtain ⟨f1,f2⟩:=flat_get2 (zCO xs).toArray i j p v (by simpa using hp) hv
   have hcs : o + i * 2 + j < cur.size:=by
    rw [size_flatK] at f1
    have f1 : i * 2 + j < (zCO xs).length * 2:=by simpa using f1
    omega
   simp only [putCells,Array.getElem?_mapIdx,Array.getElem?_eq_getElem hcs,Option.map_some]
   rw [if_pos ⟨by omega,by omega⟩,show o + i * 2 + j - o = i * 2 + j by omega,f2]
   rfl
  match j,hcc with
  | 0,hcc=>cases hcc; exact ⟨_,put _ rfl,fun _ _ _=>.int _ _⟩
  | 1,hcc=>cases hcc; exact ⟨_,put _ rfl,fun _ _ _=>.int _ _⟩
  | j + 2,hcc=>simp [cV,zAu,AV.cells] at hcc)
 exact ⟨M',I',G,S,.tup [] [] rfl fun i c v h _=>by simp at h⟩
end Go.Proofs.YtmmbcogejaofpaaGreatDoor
namespace Go.AM
theorem sMkmap {H : Heap} {K : AV → Heap → Prop} (q : K (.mp H.length) (H ++ [.mp [] []])) : actP .mkmap [] H K:=sAct rfl q
theorem sMset {b : Nat} {ks : List (Int × Int)} {vs : List AV} {p : Int × Int} {v kv : AV} {H : Heap} {K : AV → Heap → Prop} (hb : H[b]? = some (.mp ks vs)) (hk : keyAV kv = some p) (hn : v.noRef = true) {ks' : List (Int × Int)} {vs' : List AV} (hp : mput p v ks vs = (ks',vs'))
  (q : K .undef (H.set b (.mp ks' vs'))) : actP .mset [.mp b,kv,v] H K:=sAct (by simp only [astep,msetV,hb,hk,hn,if_true,Option.map_some,hp]) q
theorem zCk {m kv r z : AV} {ok : Bool} {H : Heap} {K : AV → Heap → Prop} (h : zIV H z ok m kv = some r) (q : K r H) : actP (.mget z ok) [m,kv] H K:=sAct (by simp only [astep,h,Option.map_some]) q
theorem frz_mp {n0 b : Nat} {H : Heap} {ks : List (Int × Int)} {vs : List AV} (hb : n0 ≤ b) (h : H[b]? = some (.mp ks vs)) : zCh n0 (.mp b) H = some (.mps ks vs,H.set b .dead):=by
 simp only [zCh]
 rw [if_neg tO,h]
theorem sClear {q : Option Bool} {b k off len : Nat} {z : AV} {xs : List AV} {H : Heap} {K : AV → Heap → Prop} (h : H[b]? = some (.row k xs)) (hl : off + len ≤ xs.length) (h0 : 0 < len) (hz : z.elem k = true)
  (hk : K (.tup []) (H.set b (.row k (xs.take off ++ List.replicate len z ++ xs.drop (off + len))))) : actP (.clear k z) [.sl q b k off len] H K:=
 sAct (by simp only [astep,h]; rw [if_pos ⟨trivial,trivial,hl,h0,hz⟩]) hk
end Go.AM
set_option maxRecDepth 20000
namespace Go.AM
theorem set_old {H : Heap} {b : Nat} (hb : b < H.length) (k : Nat) (ys : List AV) : OldOK H (H.set b (.row k ys)) ∧ H.set b (.row k ys) = (H.set b (.row k ys)).take H.length:=by
 refine ⟨fun c hc=>?_, ?_⟩
 ·by_cases e : b = c
  ·subst e; exact .inr ⟨_,List.getElem?_set_self hc,rfl⟩
  ·exact .inl (List.getElem?_set_ne e)
 ·exact (List.take_of_length_le (by rw [List.length_set]; exact Nat.le_refl _)).symm
theorem sStoreK2 {b i : Nat} (j : Nat) (p q : Int × Int) {H : Heap} {xs : List AV} {K : AV → Heap → Prop} (hi : i = j) (h : H[b]? = some (.row 2 xs)) (hx : xs[j]? = some (cV q)) (k : K .undef (H.set b (.row 2 (xs.set j (cV p))))) : actP (.store 2) [.ref b 2 i 0,cV p] H K:=by
 subst hi
 refine sAct ?_ k
 have e : zCh 0 (cV p) H = some (cV p,H):=rfl
 simp only [astep]
 rw [if_pos ⟨rfl,rfl⟩,h]
 simp only [e,h,hx]
 rw [if_pos ⟨trivial,by omega,by omega,rfl⟩]
 rfl
theorem sl_from {b k n : Nat} (h : k < n) : zA9 (some 2) (.sl (some true) b 2 0 n) (some (zR k)) none = some (.sl (some true) b 2 k (n - k)):=by
 have hb : zCH n (some (zR k)) none = some (k,n):=by
  have : k ≤ n:=by omega
  simp [zCH,aHi,aLo,zR,this]
 simp only [zA9,if_true]
 rw [hb]
 simp [cutQ,h]
theorem sl_to {b k n : Nat} (h0 : 0 < k) (h : k ≤ n) : zA9 (some 2) (.sl (some true) b 2 0 n) none (some (zR k)) = some (.sl (some true) b 2 0 k):=by
 have hb : zCH n none (some (zR k)) = some (0,k):=by simp [zCH,aHi,aLo,zR,h]
 simp only [zA9,if_true]
 rw [hb]
 simp [cutQ,h0]
theorem cell_ne {p q : Int × Int} (h : q ≠ p) : (p.1 == q.1 && (p.2 == q.2 && true)) = false:=by
 rw [Bool.and_true]
 cases hx : (p.1 == q.1)
 ·rfl
 ·cases hy : (p.2 == q.2)
  ·rfl
  ·exact absurd (Prod.ext (beq_iff_eq.1 hx).symm (beq_iff_eq.1 hy).symm) h
theorem zJk {n0 b k off len : Nat} {q : Option Bool} {H : Heap} (h : b < n0) : zCh n0 (.sl q b k off len) H = some (.sl q b k off len,H):=by simp only [zCh]; rw [if_pos h]
def padL (xs : List (Int × Int)) : List (Int × Int):=zT xs ++ List.replicate (xs.length - (zT xs).length) (0,0)
theorem take_two {xs : List (Int × Int)} {k : Nat} {p q : Int × Int} (h1 : 1 ≤ k) (hp : xs[k]? = some p) (hq : xs[k - 1]? = some q) : xs.take (k + 1) = xs.take (k - 1) ++ [q,p] ∧ xs.take k = xs.take (k - 1) ++ [q]:=by
 have e1 : xs.take k = xs.take (k - 1) ++ [q]:=by
  conv=>lhs; rw [show k = k - 1 + 1 by omega]
  rw [List.take_succ,hq]; rfl
 refine ⟨?_,e1⟩
 rw [List.take_succ,hp,e1]; simp
theorem zH0 {xs : List (Int × Int)} {k : Nat} {p q : Int × Int} (h1 : 1 ≤ k) (hp : xs[k]? = some p) (hq : xs[k - 1]? = some q) : zT (xs.take (k + 1)) = if q = p then zT (xs.take k) else zT (xs.take k) ++ [p]:=by
 obtain ⟨e1,e2⟩:=take_two h1 hp hq
 rw [e1,zHD,e2]
section
variable {C : CSpec} {GT : Nat → Option AV}
set_option maxHeartbeats 4000000 in
theorem compact_ev (b : Nat) (xs : List (Int × Int)) (H : Heap) (hb : H[b]? = some (.row 2 (xs.map cV))) (hne : xs ≠ []) (hl : xs.length ≤ 1000) :
  EFun C GT zAD [.sl (some true) b 2 0 xs.length] H (.sl (some true) b 2 0 (zT xs).length) (H.set b (.row 2 ((padL xs).map cV))):=by
 obtain ⟨n,hn⟩ : ∃ n,xs.length = n:=⟨_,rfl⟩
 have hn0 : 0 < n:=by rw [← hn]; exact List.length_pos_iff.2 hne
 have hbl:=(zg hb).1
 have hsame : zT xs = xs → AV.sl (some true) b 2 0 (zT xs).length = .sl (some true) b 2 0 n ∧ H.set b (.row 2 ((padL xs).map cV)) = H:=fun e=>by
  refine ⟨by rw [e,hn], ?_⟩
  unfold padL
  rw [e,Nat.sub_self,List.replicate_zero,List.append_nil]
  exact zIR hb
 have hO0 : OldOK H H ∧ H = H.take H.length:=⟨fun c _=>.inl rfl,(List.take_length).symm⟩
 rw [hn]
 refine zW ?_
 by_cases h2 : n < 2
 ·have e : zT xs = xs:=by
   match xs,hn with
   | [],hn=>simp at hn; omega
   | [x],_=>rfl
   | x :: y :: r,hn=>simp at hn; omega
  obtain ⟨e1,e2⟩:=hsame e
  rw [e1,e2]
  refine zDi ?_; refine zi (tT) ?_
  exact sRetW rfl rfl (zJk hbl) (by simp [AV.bel,hbl]) hO0.1 hO0.2
 ·refine zDi ?_; refine zY (tF) ?_; refine zCC (fun k : Nat=>[(3,zR k),(0,.sl (some true) b 2 0 n)]) (fun k H'=>H' = H ∧ 1 ≤ k ∧ k ≤ n ∧ zT (xs.take k) = xs.take k) (fun k=>n - k) 1 rfl ⟨rfl,by omega,by omega,by
   obtain ⟨x,r,rfl⟩:=List.exists_cons_of_ne_nil hne
   rfl⟩ (fun k H1 hi=>?_)
  obtain ⟨hH,hk1,hkn,hck⟩:=hi
  subst hH
  dsimp only
  by_cases hlt : k < n
  ·obtain ⟨p,hp⟩ : ∃ p,xs[k]? = some p:=⟨_,List.getElem?_eq_getElem tO⟩
   obtain ⟨q,hq⟩ : ∃ q,xs[k - 1]? = some q:=⟨_,List.getElem?_eq_getElem tO⟩
   have hpm : (xs.map cV)[k]? = some (cV p):=by rw [List.getElem?_map,hp]; rfl
   have hqm : (xs.map cV)[k - 1]? = some (cV q):=by rw [List.getElem?_map,hq]; rfl
   have hst:=zH0 hk1 hp hq
   have hS2 : zA9 (some 2) (.sl (some true) b 2 0 n) (some (zR k)) none = some (.sl (some true) b 2 k (n - k)):=sl_from hlt
   by_cases he : q = p
   ·rw [if_pos he] at hst
    have ex : zH5 false (p.1 == q.1 && (p.2 == q.2 && true)) = true:=by subst he; simp [zH5]
    refine zDi ?_; refine zi tT ?_; refine sAt ⟨by omega,by omega⟩ ?_; refine zBM k (cV p) (cV p) tO hb hpm rfl ?_; refine zh (r:=k - 1) tO tO ?_; refine sAt ⟨by omega,by omega⟩ ?_; refine zBM (k - 1) (cV q) (cV q) tO hb hqm rfl ?_; refine zJ rfl ?_; refine zi ex ?_; refine zJ hS2 ?_; refine zCC (fun x : Nat × Nat × List (Int × Int)=>[(5,zR x.1),(3,zR x.2.1),(4,.sl (some true) b 2 k (n - k)),(0,.sl (some true) b 2 0 n)]) (fun x H'=>H' = H1.set b (.row 2 (x.2.2.map cV)) ∧ x.2.2.length = n ∧ 1 ≤ x.1 ∧ k + x.1 ≤ n ∧ x.2.2.take x.2.1 = zT (xs.take (k + x.1)) ∧ x.2.1 = (zT (xs.take (k + x.1))).length ∧ x.2.1 + 1 ≤ k + x.1 ∧ ∀ j,k + x.1 ≤ j + 1 → x.2.2[j]? = xs[j]?) (fun x=>n - x.1) (1,k,xs) rfl ⟨(zIR hb).symm,hn,by simp,by simp only; omega,by simp only; rw [hst,hck],by simp only; rw [hst,hck,List.length_take]; omega,by simp only; omega,fun _ _=>rfl⟩ (fun x H2 hi2=>?_)
    obtain ⟨k2,k',ys⟩:=x
    dsimp only at hi2 ⊢
    obtain ⟨hH2,hy,hk2,hkk,ht,hk',hkb,hsame2⟩:=hi2
    have hb2 : H2[b]? = some (.row 2 (ys.map cV)):=by rw [hH2]; exact List.getElem?_set_self hbl
    have hk'0 : 0 < k':=by
     rw [hk']
     refine List.length_pos_iff.2 fun e=>?_
     have:=(zCS (xs.take (k + k2)) (xs[0]'tO)).2 (by
      rw [List.mem_iff_getElem]
      exact ⟨0,by rw [List.length_take]; omega,by rw [List.getElem_take]⟩)
     rw [e] at this; simp at this
    by_cases hlt2 : k + k2 < n
    ·obtain ⟨p2,hp2⟩ : ∃ p,xs[k + k2]? = some p:=⟨_,List.getElem?_eq_getElem tO⟩
     obtain ⟨q2,hq2⟩ : ∃ q,xs[k + k2 - 1]? = some q:=⟨_,List.getElem?_eq_getElem tO⟩
     obtain ⟨r2,hr2⟩ : ∃ q,ys[k']? = some q:=⟨_,List.getElem?_eq_getElem tO⟩
     have hpm2 : (ys.map cV)[k + k2]? = some (cV p2):=by rw [List.getElem?_map,hsame2 _ tO,hp2]; rfl
     have hqm2 : (ys.map cV)[k + k2 - 1]? = some (cV q2):=by rw [List.getElem?_map,hsame2 _ tO,hq2]; rfl
     have hrm2 : (ys.map cV)[k']? = some (cV r2):=by rw [List.getElem?_map,hr2]; rfl
     have hst2:=zH0 (k:=k + k2) tO hp2 hq2
     by_cases he2 : q2 = p2
     ·rw [if_pos he2] at hst2
      have ex2 : zH5 true (p2.1 == q2.1 && (p2.2 == q2.2 && true)) = false:=by subst he2; simp [zH5]
      refine zDi ?_; refine zi tT ?_; refine sAt ⟨by omega,by omega⟩ ?_; refine zBM (k + k2) (cV p2) (cV p2) tO hb2 hpm2 rfl ?_; refine zh (r:=k2 - 1) tO tO ?_; refine sAt ⟨by omega,by omega⟩ ?_; refine zBM (k + k2 - 1) (cV q2) (cV q2) tO hb2 hqm2 rfl ?_; refine zJ rfl ?_; refine zY ex2 ?_; refine zh (r:=k2 + 1) rfl tO ?_; refine zAq (k2 + 1,k',ys) rfl ⟨hH2,hy,by simp only; omega,by simp only; omega,by simp only; rw [ht]; exact hst2.symm,by simp only; rw [hk']; exact congrArg List.length hst2.symm,by simp only; omega,fun j hj=>hsame2 j (by simp only at hj; omega)⟩ (by simp only; omega)
     ·rw [if_neg he2] at hst2
      have ex2 : zH5 true (p2.1 == q2.1 && (p2.2 == q2.2 && true)) = true:=by rw [cell_ne he2]; rfl
      refine zDi ?_; refine zi tT ?_; refine sAt ⟨by omega,by omega⟩ ?_; refine zBM (k + k2) (cV p2) (cV p2) tO hb2 hpm2 rfl ?_; refine zh (r:=k2 - 1) tO tO ?_; refine sAt ⟨by omega,by omega⟩ ?_; refine zBM (k + k2 - 1) (cV q2) (cV q2) tO hb2 hqm2 rfl ?_; refine zJ rfl ?_; refine zi ex2 ?_; refine sAt ⟨by omega,by omega⟩ ?_; refine zBM (k + k2) (cV p2) (cV p2) tO hb2 hpm2 rfl ?_; refine sAt ⟨by omega,by omega⟩ ?_
      refine sStoreK2 k' p2 r2 tO hb2 hrm2 ?_; refine zh (r:=k' + 1) rfl tO ?_; refine zh (r:=k2 + 1) rfl tO ?_; refine zAq (k2 + 1,k' + 1,ys.set k' p2) rfl ⟨?_,by simp only [List.length_set]; exact hy,by simp only; omega,by simp only; omega, ?_, ?_,by simp only; omega,fun j hj=>?_⟩ (by simp only; omega)
      ·simp only
       rw [hH2,List.set_set,List.map_set]
      ·simp only
       rw [show k + (k2 + 1) = k + k2 + 1 by omega,hst2,← ht,List.take_succ,List.getElem?_set_self tO,List.take_set_of_le tO]
       rfl
      ·simp only
       rw [show k + (k2 + 1) = k + k2 + 1 by omega,hst2,List.length_append,← hk']; rfl
      ·simp only at hj ⊢
       rw [List.getElem?_set_ne tO]
       exact hsame2 j tO
    ·have hfull : xs.take (k + k2) = xs:=List.take_of_length_le tO
     rw [hfull] at ht hk'
     have hS3 : zA9 (some 2) (.sl (some true) b 2 0 n) (some (zR k')) none = some (.sl (some true) b 2 k' (n - k')):=sl_from tO
     have hS4 : zA9 (some 2) (.sl (some true) b 2 0 n) none (some (zR k')) = some (.sl (some true) b 2 0 k'):=sl_to hk'0 tO
     have hrow : (ys.map cV).take k' ++ List.replicate (n - k') (AV.agg [.int .i64 0,.int .i64 0]) ++ (ys.map cV).drop (k' + (n - k')) = (padL xs).map cV:=by
      rw [show k' + (n - k') = n by omega,List.drop_of_length_le (by simp; omega),List.append_nil,← List.map_take,ht]
      unfold padL
      rw [List.map_append,List.map_replicate,hn,← hk']
      rfl
     obtain ⟨o1,o2⟩:=set_old hbl 2 ((padL xs).map cV)
     rw [← hk']
     refine zDi ?_; refine zY tF ?_; refine zJ hS3 ?_; refine sClear hb2 (by simp; omega) tO rfl ?_; refine zJ hS4 ?_; refine sRetW rfl rfl (zJk hbl) (by simp [AV.bel,hbl]) ?_ ?_
     ·rw [hrow,hH2,List.set_set]; exact o1
     ·rw [hrow,hH2,List.set_set]; exact o2
   ·rw [if_neg he] at hst
    have ex : zH5 false (p.1 == q.1 && (p.2 == q.2 && true)) = false:=by rw [cell_ne he]; rfl
    refine zDi ?_; refine zi tT ?_; refine sAt ⟨by omega,by omega⟩ ?_; refine zBM k (cV p) (cV p) tO hb hpm rfl ?_; refine zh (r:=k - 1) tO tO ?_; refine sAt ⟨by omega,by omega⟩ ?_; refine zBM (k - 1) (cV q) (cV q) tO hb hqm rfl ?_; refine zJ rfl ?_; refine zY ex ?_; refine zh (r:=k + 1) rfl tO ?_; refine zAq (k + 1) rfl ⟨rfl,by omega,by omega, ?_⟩ tO
    rw [hst,hck,List.take_succ,hp]; rfl
  ·have hfull : xs.take k = xs:=List.take_of_length_le tO
   rw [hfull] at hck
   obtain ⟨e1,e2⟩:=hsame hck
   rw [e1,e2]
   refine zDi ?_; refine zY tF ?_
   exact sRetW rfl rfl (zJk hbl) (by simp [AV.bel,hbl]) hO0.1 hO0.2
end
end Go.AM
