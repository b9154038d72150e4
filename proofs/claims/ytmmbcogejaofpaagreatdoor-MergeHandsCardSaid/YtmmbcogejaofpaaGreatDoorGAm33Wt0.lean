/- Several texts of mine in one (Am33, Sk0, Sk1, Be0, Wt0). Own work. -/
import Derived.Test.YtmmbcogejaofpaaGreatDoorGFmAm24
import Derived.Shelf.Spec.SlicesInsert
import Derived.Lib.AppendZerosOnto
import Derived.Laws.NewBlocks
import Derived.Test.YtmmbcogejaofpaaGreatDoorGMkAm27
import Derived.Test.YtmmbcogejaofpaaGreatDoorGAm31Gq
set_option linter.all false
namespace Go.AM
section
variable {P : Program} {GT : Nat → Option AV} {w w' : World} {M : AMap} {I : Nat → Prop} {H : Heap}
theorem Sim.mut_at (hS : Sim GT w M I H) {b : Nat} {x : ABlk} (hb : H[b]? = some x) (hm : x.mut = true) {g o : Nat} (hM : M b = some (g,o)) : ∃ _cur : Array Value,True ∧ ¬ I g ∧ g < w.heap.size:=by
 have h:=hS.blk b x hb
 cases x with
 | dead=>simp [ABlk.mut] at hm
 | frz=>simp [ABlk.mut] at hm
 | box cs=>
  obtain ⟨g1,o1,cur,h1,h2,h3,_⟩:=h
  rw [hM] at h1
  cases h1
  obtain ⟨e,fz,h4,h5⟩:=h2
  exact ⟨cur,trivial,h3,(Array.getElem?_eq_some_iff.1 h4).1⟩
 | mp ks vs=>
  obtain ⟨g1,es,cl,h1,h2,h3,_⟩:=h
  rw [hM] at h1
  simp only [Option.some.injEq,Prod.mk.injEq] at h1
  obtain ⟨rfl,_⟩:=h1
  exact ⟨#[],trivial,h3,(Array.getElem?_eq_some_iff.1 h2).1⟩
 | row k xs=>
  obtain ⟨_,⟨h1,_⟩ | ⟨g1,o1,cur,h1,h2,h3,_⟩⟩:=h
  ·rw [hM] at h1; cases h1
  ·rw [hM] at h1
   cases h1
   obtain ⟨e,fz,h4,h5⟩:=h2
   exact ⟨cur,trivial,h3,(Array.getElem?_eq_some_iff.1 h4).1⟩
theorem row_turned (hS : Sim GT w M I H) {b : Nat} {x : ABlk} (hb : H[b]? = some x) (hm : x.mut = true) {g o : Nat} (hM : M b = some (g,o)) (hos : w'.os = w.os) (htape : w'.tape = w.tape) (hout : w'.output = w.output) (hsize : w.heap.size ≤ w'.heap.size)
  (hfr : ∀ j,j < w.heap.size → j ≠ g → w'.heap[j]? = w.heap[j]?) (hshape : ∀ s,w.shape? g = some s → w'.shape? g = some s) {y : ABlk} {G : Nat → Prop} (hG : ∀ j,G j → (j = g ∧ y.mut = false) ∨ w.heap.size ≤ j) (hGl : ∀ j,G j → j < w'.heap.size)
  (hy : BlkOK w' M (fun j=>I j ∨ G j) H.length b y) :
  Grow w M I H w' M (fun j=>I j ∨ G j) (H.set b y) ∧ Sim GT w' M (fun j=>I j ∨ G j) (H.set b y):=by
 obtain ⟨cur,hcur,hnI,hglt⟩:=hS.mut_at hb hm hM
 have hblt:=(zg hb).1
 have live : zEv H M g:=⟨b,x,o,hb,hm,hM⟩
 have shp : ∀ j s,w.shape? j = some s → w'.shape? j = some s:=fun j s hs=>by
  by_cases hj : j = g
  ·subst hj; exact hshape s hs
  ·have hlt : j < w.heap.size:=by
    rcases Nat.lt_or_ge j w.heap.size with h | h
    ·exact h
    ·simp [World.shape?,Array.getElem?_eq_none h] at hs
   rw [zAQ (hfr j hlt hj)]; exact hs
 have hIh : ∀ k,I k → w'.heap[k]? = w.heap[k]?:=fun k hk=>hfr k (hS.idom k hk) (fun e=>hnI (e ▸ hk))
 have other : ∀ b' x',(H.set b y)[b']? = some x' → b' ≠ b → H[b']? = some x':=fun b' x' h hne=>by rwa [List.getElem?_set_ne (Ne.symm hne)] at h
 have at_b : (H.set b y)[b]? = some y:=List.getElem?_set_self hblt
 refine ⟨⟨hos,htape,hout,hsize,fun _ _=>rfl,fun _ h=>.inl h,fun j hj hlt=>?_,fun j hlt hn=>hfr j hlt (fun e=>hn (e ▸ live)),fun j hlt hl=>?_,shp,by rw [List.length_set]; exact Nat.le_refl _⟩, ?_⟩
 ·rcases hj with hj | hj
  ·exact .inl hj
  ·rcases hG j hj with ⟨rfl,_⟩ | h
   ·exact .inr live
   ·omega
 ·obtain ⟨b',x',o',h1,h2,h3⟩:=hl
  by_cases e : b' = b
  ·subst e
   rw [hM] at h3
   cases h3
   exact live
  ·exact ⟨b',x',o',other b' x' h1 e,h2,h3⟩
 ·refine ⟨fun q z hz=>?_,fun k hk=>?_,fun b' x' hx=>?_,fun b1 b2 x1 x2 g1 o1 o2 h1 m1 h2 m2 e1 e2=>?_,fun q z hz=>?_⟩
  ·exact (hS.glob q z hz).mono (M':=M) (n:=0) (fun _ h=>.inl h) hIh (fun _ h=>absurd h (Nat.not_lt_zero _)) (Nat.zero_le _) shp
  ·rcases hk with hk | hk
   ·exact Nat.lt_of_lt_of_le (hS.idom k hk) hsize
   ·exact hGl k hk
  ·rw [List.length_set]
   by_cases e : b' = b
   ·subst e
    rw [at_b] at hx
    cases hx
    exact hy
   ·have hx':=other b' x' hx e
    have far : ∀ g1 o1,M b' = some (g1,o1) → x'.mut = true → g1 ≠ g ∧ g1 < w.heap.size:=fun g1 o1 h1 hm1=>by
     refine ⟨fun eg=>?_,(hS.mut_at hx' hm1 h1).choose_spec.2.2⟩
     subst eg
     exact e (hS.inj b' b x' x g1 o1 o hx' hm1 hb hm h1 hM)
    refine (hS.blk b' x' hx').mono (zg hx').1 (fun _ h=>.inl h) hIh (fun _ _=>rfl) (Nat.le_refl _) shp (fun g1 o1 h1 hm1=>?_) (fun g1 o1 h1 hm1 hn=>?_)
    ·exact hfr g1 (far g1 o1 h1 hm1).2 (far g1 o1 h1 hm1).1
    ·rintro (h | h)
     ·exact hn h
     ·rcases hG g1 h with ⟨rfl,_⟩ | h'
      ·exact (far _ o1 h1 hm1).1 rfl
      ·have:=(far g1 o1 h1 hm1).2
       omega
  ·have key : ∀ {b1 b2 : Nat} {x1 x2 : ABlk} {g1 o1 o2 : Nat},(H.set b y)[b1]? = some x1 → x1.mut = true → (H.set b y)[b2]? = some x2 → x2.mut = true → M b1 = some (g1,o1) → M b2 = some (g1,o2) → b1 = b → b2 = b:=by
    intro b1 b2 x1 x2 g1 o1 o2 h1 m1 h2 m2 e1 e2 e
    subst e
    by_cases e' : b2 = b1
    ·exact e'
    ·rw [hM] at e1
     cases e1
     exact hS.inj b2 b1 x2 x g o2 o (other b2 x2 h2 e') m2 hb hm e2 hM
   by_cases c1 : b1 = b
   ·exact c1.trans (key h1 m1 h2 m2 e1 e2 c1).symm
   ·by_cases c2 : b2 = b
    ·exact absurd (key h2 m2 h1 m1 e2 e1 c2) c1
    ·exact hS.inj b1 b2 x1 x2 g1 o1 o2 (other b1 x1 h1 c1) m1 (other b2 x2 h2 c2) m2 e1 e2
  ·obtain ⟨e,h⟩:=hS.shp q z hz
   exact ⟨e,shp q _ h⟩
theorem row_gone (hS : Sim GT w M I H) {b k : Nat} {xs : List AV} (hb : H[b]? = some (.row k xs)) {g o : Nat} (hM : M b = some (g,o)) (hos : w'.os = w.os) (htape : w'.tape = w.tape) (hout : w'.output = w.output) (hsize : w.heap.size ≤ w'.heap.size)
  (hfr : ∀ j,j < w.heap.size → j ≠ g → w'.heap[j]? = w.heap[j]?) (hshape : ∀ s,w.shape? g = some s → w'.shape? g = some s) {ys : List AV} (he : Elems k ys) {g' o' cap : Nat} (hg : g' = g ∨ w.heap.size ≤ g') (hlt : g' < w'.heap.size) (hc : ys.length ≤ cap) (hm : cap ≤ maxLen)
  (hcells : ∀ i j y c,ys[i]? = some y → y.cells[j]? = some c → ∃ v,w'.cell? ⟨g',o' + i * k + j,none⟩ = some v ∧ ∀ M I n,Rel w' M I n c v) :
  ∃ M' I',Grow w M I H w' M' I' (H.set b .dead) ∧ Sim GT w' M' I' (H.set b .dead) ∧ Rel w' M' I' (H.set b .dead).length (.lst (some false) k ys) (.slice (some ⟨g',o',none⟩) ys.length cap):=by
 obtain ⟨h1,h2⟩:=row_turned (y:=.dead) (G:=fun j=>j = g') hS hb rfl hM hos htape hout hsize hfr hshape (fun j hj=>by
  rcases hg with h | h
  ·exact .inl ⟨hj.trans h,rfl⟩
  ·exact .inr tO) (fun j hj=>by omega) trivial
 refine ⟨M,_,h1,h2, ?_⟩
 exact Rel.mk_lst (by simp) hc hm (.inr rfl) he fun i j x c hx hj=>by
  obtain ⟨v,e1,e2⟩:=hcells i j x c hx hj
  exact ⟨v,e1,e2 _ _ _⟩
theorem row_written (hS : Sim GT w M I H) {b k : Nat} {xs : List AV} (hb : H[b]? = some (.row k xs)) {g o : Nat} (hM : M b = some (g,o)) (hos : w'.os = w.os) (htape : w'.tape = w.tape) (hout : w'.output = w.output) (hsize : w.heap.size ≤ w'.heap.size)
  (hfr : ∀ j,j < w.heap.size → j ≠ g → w'.heap[j]? = w.heap[j]?) (hshape : ∀ s,w.shape? g = some s → w'.shape? g = some s) {ys : List AV} (he : Elems k ys) {cur' : Array Value} (hcur : Cells w' g cur' k) (hfit : o + ys.length * k ≤ cur'.size)
  (hcells : ∀ i j y c,ys[i]? = some y → y.cells[j]? = some c → ∃ v,cur'[o + i * k + j]? = some v ∧ ∀ M I n,Rel w' M I n c v) :
  ∃ M' I',Grow w M I H w' M' I' (H.set b (.row k ys)) ∧ Sim GT w' M' I' (H.set b (.row k ys)):=by
 obtain ⟨_,_,hnI,_⟩:=hS.mut_at hb rfl hM
 obtain ⟨h1,h2⟩:=row_turned (y:=.row k ys) (G:=fun _=>False) hS hb rfl hM hos htape hout hsize hfr hshape (fun _ hj=>hj.elim) (fun _ hj=>hj.elim) ⟨he,.inr ⟨g,o,cur',hM,hcur,by simpa using hnI,hfit,fun i j x c hx hj=>by
  obtain ⟨v,e1,e2⟩:=hcells i j x c hx hj
  exact ⟨v,e1,e2 _ _ _⟩⟩⟩
 exact ⟨M,_,h1,h2⟩
end
end Go.AM
namespace Go.AM
open Go Go.Lib Go.Proofs
theorem zFl {P : Program} (w : World) (dT sT ty elem : TypeId) (size b o dLen dCap : Nat) (a : Addr) (sLen sCap : Nat) (cs : List Value)
  (hu : P.underlying dT = some (.slice elem)) (hs : (P.info? elem).map (·.size) = some size) (hn : cs.length = Nat.min sLen dLen * size)
  (hsrc : ∀ j v,cs[j]? = some v → w.cell? (a.add j) = some v) (hc : ∀ j,j < cs.length → (w.cell? ⟨b,o + j,none⟩).isSome = true) (hf : ∀ j,j < cs.length → w.frozen? ⟨b,o + j,none⟩ = false) (h1 : ∀ v ∈ cs,v.oneCell' = true) :
  (Builtin.copy_ #[dT,sT] ty #[.slice (some ⟨b,o,none⟩) dLen dCap,.slice (some a) sLen sCap]).run P w = .ok (goInt (Nat.min sLen dLen)) (w.setCells b o cs):=by
 have hl:=run_loadCells_list (P:=P) w a cs hsrc
 have hst:=run_storeCells_cells (P:=P) b o cs 0 w (by simpa using hc) (by simpa using hf) h1
 cases hq : P.info? elem with
 | none=>simp [hq] at hs
 | some i=>
  have hi : i.size = size:=by simpa [hq] using hs
  simp [Builtin.copy_,run_underlying hu,Builtin.lenOf,Builtin.firstCells,sizeOf,typeInfo,hq,hi,← hn,hl,hst]
theorem run_clear_k {P : Program} (w : World) (t e ty : TypeId) (z : Value) (zs : List Value) (ht : P.underlying t = some (.slice e)) (hv : ∀ w,(zeroValue e).run P w = .ok z w) (b o n c : Nat) (hn : 0 < n) (hz : (Builtin.zeroCells z.cells n).toList = zs) (h1 : ∀ v ∈ zs,v.oneCell' = true)
  (hc : ∀ j,j < zs.length → (w.cell? ⟨b,o + j,none⟩).isSome = true) (hf : ∀ j,j < zs.length → w.frozen? ⟨b,o + j,none⟩ = false) :
  (Builtin.clear_ #[t] ty #[.slice (some ⟨b,o,none⟩) n c]).run P w = .ok (.tuple #[]) (w.setCells b o zs):=by
 have hst:=run_storeCells_cells (P:=P) b o zs 0 w (by simpa using hc) (by simpa using hf) h1
 simp only [Nat.add_zero] at hst
 obtain ⟨m,rfl⟩ : ∃ m,n = m + 1:=⟨n - 1,by omega⟩
 simp [Builtin.clear_,run_underlying ht,hv,hz,hst]
end Go.AM
namespace Go.AM
open Go Go.Lib Go.Proofs
structure SameBut (g : Nat) (w w' : World) : Prop where
 os : w'.os = w.os
 tape : w'.tape = w.tape
 out : w'.output = w.output
 size : w.heap.size ≤ w'.heap.size
 other : ∀ j,j < w.heap.size → j ≠ g → w'.heap[j]? = w.heap[j]?
 shape : ∀ j s,w.shape? j = some s → w'.shape? j = some s
theorem SameBut.refl (g : Nat) (w : World) : SameBut g w w:=⟨rfl,rfl,rfl,Nat.le_refl _,fun _ _ _=>rfl,fun _ _ h=>h⟩
theorem SameBut.trans {g : Nat} {w w1 w2 : World} (h : SameBut g w w1) (k : SameBut g w1 w2) : SameBut g w w2:=
 ⟨k.os.trans h.os,k.tape.trans h.tape,k.out.trans h.out,Nat.le_trans h.size k.size,fun j hj hn=>(k.other j (Nat.lt_of_lt_of_le hj h.size) hn).trans (h.other j hj hn),fun j s hs=>k.shape j s (h.shape j s hs)⟩
theorem SameBut.drew {g : Nat} (w : World) : SameBut g w w.drew:=⟨rfl,rfl,rfl,Nat.le_refl _,fun _ _ _=>rfl,fun _ _ h=>h⟩
theorem SameBut.setCell (w : World) (g o : Nat) (v : Value) : SameBut g w (w.setCell ⟨g,o,none⟩ v):=by
 refine ⟨rfl,rfl,rfl,by simp [World.setCell],fun j _ hn=>?_,fun j s hs=>?_⟩
 ·simp only [World.setCell,Array.getElem?_modify]
  rw [if_neg (Ne.symm hn)]
 ·simp only [World.shape?,World.setCell,Array.getElem?_modify] at hs ⊢
  by_cases e : g = j
  ·rw [if_pos e]
   cases hq : w.heap[j]? with
   | none=>rw [hq] at hs; cases hs
   | some ob=>
    rw [hq] at hs
    cases ob <;> simp_all
  ·rw [if_neg e]; exact hs
theorem SameBut.setCells (g : Nat) : ∀ (vs : List Value) (o : Nat) (w : World),SameBut g w (w.setCells g o vs)
 | [],_,w=>SameBut.refl g w
 | v :: r,o,w=>by
  rw [World.setCells]
  exact (SameBut.setCell w g o v).trans (SameBut.setCells g r (o + 1) _)
theorem SameBut.alloc (g : Nat) (w : World) (ob : Obj) : SameBut g w (w.alloc ob):=by
 have hh : (w.alloc ob).heap = w.heap.push ob:=rfl
 refine ⟨rfl,rfl,rfl,by rw [hh]; simp,fun j hj _=>?_,fun j s hs=>?_⟩
 ·rw [hh,Array.getElem?_push]
  rw [if_neg tO]
 ·have hlt : j < w.heap.size:=by
   rcases Nat.lt_or_ge j w.heap.size with h | h
   ·exact h
   ·simp [World.shape?,Array.getElem?_eq_none h] at hs
  simp only [World.shape?] at hs ⊢
  rw [hh,Array.getElem?_push,if_neg tO]
  exact hs
theorem zCu {P : Program} {GT : Nat → Option AV} {f : FuncId} {fn : Func} {args : List AV} {H H' : Heap} {v : AV} (hf : P.funcs[f]? = some fn) (hname : (fn.name == "runtime.NumGoroutine") = false) (hb : fn.body.isSome = true) (hn : zF9 args = true)
  (h : ∀ (w : World) (M : AMap) (I : Nat → Prop) (cargs : List Value),Sim GT w M I H → zCP w M I H.length args cargs → Calls P f cargs.toArray w fun e w'=>∃ v',e = .returned v' ∧ ∃ M' I',Grow w M I H w' M' I' H' ∧ Sim GT w' M' I' H' ∧ Rel w' M' I' H'.length v v') : Good P GT f args H v H':=by
 refine zFO hn ?_
 intro w M I cargs hS hA
 have h1 : fn.name ≠ "runtime.NumGoroutine" := by simpa using hname
 obtain ⟨c,hb⟩:=Option.isSome_iff_exists.1 hb
 have hrun : (callFunc f cargs.toArray).run P w = .ok (.enter f cargs.toArray) w:=by simp [callFunc,hf,h1,hb]
 rw [hrun]
 exact h w M I cargs hS hA
def zGO (f : Fil) : List Value:=[.int .i64 f.col,.int .i64 f.row,.string ⟨f.text.toArray⟩]
def zAz (l : List Fil) : List Value:=l.flatMap zGO
theorem zCf (l : List Fil) : (zAz l).length = l.length * 3:=by
 unfold zAz
 induction l with
 | nil=>rfl
 | cons f r ih=>simp only [List.flatMap_cons,List.length_append,List.length_cons,ih,zGO,List.length_nil]; omega
theorem filCs_get (l : List Fil) (i j : Nat) (f : Fil) (v : Value) (hf : l[i]? = some f) (hv : (zGO f)[j]? = some v) : (zAz l)[i * 3 + j]? = some v:=by
 unfold zAz
 induction l generalizing i with
 | nil=>simp at hf
 | cons g r ih=>
  have hj : j < 3:=by have:=(zg hv).1; simpa [zGO] using this
  cases i with
  | zero=>
   simp only [List.getElem?_cons_zero,Option.some.injEq] at hf
   subst hf
   rw [List.flatMap_cons,List.getElem?_append_left (by simp [zGO]; omega)]
   simpa using hv
  | succ i=>
   rw [List.flatMap_cons,List.getElem?_append_right (by simp [zGO]; omega)]
   have:=ih i (by simpa using hf)
   have e : (i + 1) * 3 + j - (zGO g).length = i * 3 + j:=by simp [zGO]; omega
   rw [e]; exact this
theorem filCs_split (l : List Fil) (x : Nat) (v : Value) (h : (zAz l)[x]? = some v) : ∃ f,l[x / 3]? = some f ∧ (zGO f)[x % 3]? = some v:=by
 have hx:=(zg h).1
 rw [zCf] at hx
 obtain ⟨f,hf⟩ : ∃ f,l[x / 3]? = some f:=⟨_,List.getElem?_eq_getElem tO⟩
 obtain ⟨u,hu⟩ : ∃ u,(zGO f)[x % 3]? = some u:=⟨_,List.getElem?_eq_getElem (by simp [zGO]; omega)⟩
 have:=filCs_get l (x / 3) (x % 3) f u hf hu
 rw [show x / 3 * 3 + x % 3 = x by omega,h] at this
 cases this
 exact ⟨f,hf,hu⟩
theorem zFa (l : List Fil) : ∀ v ∈ zAz l,v.oneCell' = true:=by
 intro v hv
 unfold zAz at hv
 obtain ⟨f,_,hf⟩:=List.mem_flatMap.1 hv
 simp only [zGO,List.mem_cons,List.not_mem_nil,or_false] at hf
 rcases hf with rfl | rfl | rfl <;> rfl
theorem fil_elems (l : List Fil) : Elems 3 (l.map zO):=by
 intro x hx
 obtain ⟨f,_,rfl⟩:=List.mem_map.1 hx
 rfl
theorem fil_rel {w : World} {M : AMap} {I : Nat → Prop} {n : Nat} (f : Fil) (j : Nat) (c : AV) (v : Value) (hc : (zO f).cells[j]? = some c) (hv : (zGO f)[j]? = some v) : Rel w M I n c v:=by
 match j,hc,hv with
 | 0,hc,hv=>cases hc; cases hv; exact .int _ _
 | 1,hc,hv=>cases hc; cases hv; exact .int _ _
 | 2,hc,hv=>cases hc; cases hv; exact .str _
 | j + 3,hc,hv=>simp [zGO] at hv
theorem rel_fil {w : World} {M : AMap} {I : Nat → Prop} {n : Nat} (f : Fil) (j : Nat) (c : AV) (v : Value) (hc : (zO f).cells[j]? = some c) (h : Rel w M I n c v) : (zGO f)[j]? = some v:=by
 match j,hc with
 | 0,hc=>cases hc; cases h; rfl
 | 1,hc=>cases hc; cases h; rfl
 | 2,hc=>cases hc; cases h; rfl
 | j + 3,hc=>simp [zO,AV.cells] at hc
theorem row_fils {GT : Nat → Option AV} {w : World} {M : AMap} {I : Nat → Prop} {H : Heap} (hS : Sim GT w M I H) {b : Nat} {l : List Fil} (hb : H[b]? = some (.row 3 (l.map zO))) (hl : l ≠ []) :
  ∃ g o e sz,M b = some (g,o) ∧ g < w.heap.size ∧ w.shape? g = some (e,sz) ∧ o + l.length * 3 ≤ sz ∧ (∀ j v,(zAz l)[j]? = some v → w.cell? ⟨g,o + j,none⟩ = some v) ∧ (∀ j,j < sz → (w.cell? ⟨g,j,none⟩).isSome = true) ∧ (∀ j,j ≤ sz → w.frozen? ⟨g,j,none⟩ = false):=by
 obtain ⟨_,⟨_,h⟩ | ⟨g,o,cur,hM,⟨e,fz,h1,h2⟩,_,hfit,hc⟩⟩:=hS.blk b _ hb
 ·exact absurd (List.map_eq_nil_iff.1 h) hl
 ·rw [List.length_map] at hfit
  refine ⟨g,o,e,cur.size,hM,(Array.getElem?_eq_some_iff.1 h1).1,by simp [World.shape?,h1],hfit,fun j v hj=>?_,fun j hj=>?_,fun j hj=>?_⟩
  ·obtain ⟨f,hf,hv⟩:=filCs_split l j v hj
   have hjl : j % 3 < 3:=Nat.mod_lt _ tO
   obtain ⟨c,hcc⟩ : ∃ c,(zO f).cells[j % 3]? = some c:=⟨_,List.getElem?_eq_getElem (by simpa [zO,AV.cells] using hjl)⟩
   obtain ⟨u,hu,hr⟩:=hc (j / 3) (j % 3) (zO f) c (by rw [List.getElem?_map,hf]; rfl) hcc
   have:=rel_fil f (j % 3) c u hcc hr
   rw [hv] at this
   cases this
   have e2 : o + j / 3 * 3 + j % 3 = o + j:=by omega
   rw [e2] at hu
   simp only [World.cell?,h1]
   simpa using hu
  ·simp only [World.cell?,h1]
   simpa using hj
  ·simp only [World.frozen?,h1]
   have:=h2 j tO
   simpa using this
theorem zHB (a b : List Fil) : zAz (a ++ b) = zAz a ++ zAz b:=by unfold zAz; exact List.flatMap_append
theorem zFm (l : List Fil) (i : Nat) (hi : i ≤ l.length) : zAz (l.take i) = (zAz l).take (i * 3):=by
 have h:=zHB (l.take i) (l.drop i)
 rw [List.take_append_drop] at h
 rw [h,List.take_left' (by rw [zCf,List.length_take]; congr 1; omega)]
theorem filCs_drop (l : List Fil) (i : Nat) (hi : i ≤ l.length) : zAz (l.drop i) = (zAz l).drop (i * 3):=by
 have h:=zHB (l.take i) (l.drop i)
 rw [List.take_append_drop] at h
 rw [h,List.drop_left' (by rw [zCf,List.length_take]; congr 1; omega)]
theorem zFb {GT : Nat → Option AV} {w w' : World} {M : AMap} {I : Nat → Prop} {H : Heap} (hS : Sim GT w M I H) {b k : Nat} {xs : List Fil} (hb : H[b]? = some (.row 3 (xs.map zO))) {g o : Nat} (hM : M b = some (g,o)) (hs : SameBut g w w') {ys : List Fil} {g' o' cap : Nat} (hg : g' = g ∨ w.heap.size ≤ g') (hlt : g' < w'.heap.size)
  (hc : ys.length ≤ cap) (hm : cap ≤ maxLen) (hcells : ∀ x v,(zAz ys)[x]? = some v → w'.cell? ⟨g',o' + x,none⟩ = some v) :
  ∃ M' I',Grow w M I H w' M' I' (H.set b .dead) ∧ Sim GT w' M' I' (H.set b .dead) ∧ Rel w' M' I' (H.set b .dead).length (.lst (some false) 3 (ys.map zO)) (.slice (some ⟨g',o',none⟩) ys.length cap):=by
 have h:=row_gone (ys:=ys.map zO) hS hb hM hs.os hs.tape hs.out hs.size hs.other (fun s h=>hs.shape g s h) (fil_elems ys) hg hlt (by rw [List.length_map]; exact hc) hm (o':=o') fun i j y c hy hc=>by
  rw [List.getElem?_map] at hy
  obtain ⟨f,hf,rfl⟩:=Option.map_eq_some_iff.1 hy
  have hj : j < 3:=by have:=(zg hc).1; simpa [zO,AV.cells] using this
  obtain ⟨v,hv⟩ : ∃ v,(zGO f)[j]? = some v:=⟨_,List.getElem?_eq_getElem (by simp [zGO]; omega)⟩
  refine ⟨v, ?_,fun M I n=>fil_rel f j c v hc hv⟩
  have:=hcells (i * 3 + j) v (filCs_get ys i j f v hf hv)
  rw [← Nat.add_assoc] at this
  exact this
 rw [List.length_map] at h
 exact h
end Go.AM
set_option maxRecDepth 20000
namespace Go.AM
def okF (f : Fil) : Prop:=(1 ≤ f.col ∧ f.col ≤ 26) ∧ (1 ≤ f.row ∧ f.row ≤ 99) ∧ f.text.length ≤ 200
theorem okC_iff (c r : Int) : okC c r = true ↔ (1 ≤ c ∧ c ≤ 26) ∧ (1 ≤ r ∧ r ≤ 99):=by
 unfold okC
 simp only [Bool.and_eq_true,decide_eq_true_eq]
 constructor
 ·rintro ⟨⟨⟨h1,h2⟩,h3⟩,h4⟩; exact ⟨⟨h1,h2⟩,h3,h4⟩
 ·rintro ⟨⟨h1,h2⟩,h3,h4⟩; exact ⟨⟨⟨h1,h2⟩,h3⟩,h4⟩
theorem textN_len {s : Bs} (h : zCe s = 0) : s.length ≤ 200:=by
 unfold zCe at h
 by_cases hl : 200 < s.length
 ·rw [if_pos hl] at h; cases h
 ·omega
def mayN (f : Fil) : Nat:=if okC f.col f.row = true then zCe f.text else 1
theorem okF_of {f : Fil} (h1 : okC f.col f.row = true) (h2 : zCe f.text = 0) : okF f:=⟨((okC_iff _ _).1 h1).1,((okC_iff _ _).1 h1).2,textN_len h2⟩
theorem filsN_ok : ∀ (l : List Fil) (prev : Option Fil),zFv prev l = 0 → ∀ f ∈ l,okF f:=by
 intro l
 induction l with
 | nil=>intro _ _ f h; cases h
 | cons g r ih=>
  intro prev h f hf
  unfold zFv at h
  by_cases h0 : filN prev g = 0
  ·rw [if_pos h0] at h
   rcases List.mem_cons.1 hf with rfl | hf
   ·unfold filN at h0
    by_cases h1 : okC f.col f.row = false
    ·rw [if_pos h1] at h0; cases h0
    ·rw [if_neg h1] at h0
     have h1 : okC f.col f.row = true:=by simpa using h1
     have h2 : zCe f.text = 0:=by
      by_cases he : f.text = []
      ·rw [he]; rfl
      ·cases prev with
       | none=>
        have h0 : (if f.text = [] then 3 else zCe f.text) = 0:=h0
        rwa [if_neg he] at h0
       | some p=>
        have h0 : (if zFG p f = false then 5 else if f.text = [] then 3 else zCe f.text) = 0:=h0
        cases hp : zFG p f with
        | true=>rw [hp,if_neg (by simp),if_neg he] at h0; exact h0
        | false=>rw [hp,if_pos rfl] at h0; cases h0
     exact okF_of h1 h2
   ·exact ih _ h f hf
  ·rw [if_neg h0] at h; exact absurd h h0
theorem checkN_ok {l : List Fil} (h : zCl l = 0) : l.length ≤ 200 ∧ ∀ f ∈ l,okF f:=by
 unfold zCl at h
 by_cases hl : 200 < l.length
 ·rw [if_pos hl] at h; cases h
 ·rw [if_neg hl] at h
  exact ⟨by omega,filsN_ok l none h⟩
end Go.AM
namespace Go.AM
theorem zJa (c1 r1 c2 r2 : Int) : cmpC c1 r1 c2 r2 < 0 ↔ r1 < r2 ∨ (r1 = r2 ∧ c1 < c2):=by
 unfold cmpC cmp3
 repeat' split
 all_goals omega
theorem cmpC_zero (c1 r1 c2 r2 : Int) : cmpC c1 r1 c2 r2 = 0 ↔ r1 = r2 ∧ c1 = c2:=by
 unfold cmpC cmp3
 repeat' split
 all_goals omega
def aheadC (c r : Int) (f : Fil) : Bool:=decide (f.row < r ∨ (f.row = r ∧ f.col < c))
def zB2 (c r : Int) (f : Fil) : Bool:=decide (r < f.row ∨ (r = f.row ∧ c < f.col))
def isC (c r : Int) (f : Fil) : Bool:=decide (f.row = r ∧ f.col = c)
theorem zJb (a b : Fil) : zFG a b = true ↔ a.row < b.row ∨ (a.row = b.row ∧ a.col < b.col):=by
 unfold zFG
 rw [decide_eq_true_iff]
 exact zJa _ _ _ _
def Srtd (l : List Fil) : Prop:=l.Pairwise fun a b=>a.row < b.row ∨ (a.row = b.row ∧ a.col < b.col)
theorem Srtd.nil : Srtd []:=List.Pairwise.nil
theorem srtd_fils : ∀ (l : List Fil) (prev : Option Fil),zFv prev l = 0 → Srtd l ∧ ∀ p,prev = some p → ∀ f ∈ l,p.row < f.row ∨ (p.row = f.row ∧ p.col < f.col):=by
 intro l
 induction l with
 | nil=>intro prev _; exact ⟨List.Pairwise.nil,fun _ _ f hf=>absurd hf (by simp)⟩
 | cons f r ih=>
  intro prev h
  have h0 : filN prev f = 0 ∧ zFv (some f) r = 0:=by
   have e:=filsN_drop (f :: r) 0 f rfl prev
   simp only [List.drop_zero,Nat.zero_add,List.drop_succ_cons] at e
   rw [e] at h
   by_cases h1 : filN prev f = 0
   ·rw [if_pos h1] at h; exact ⟨h1,h⟩
   ·rw [if_neg h1] at h; exact absurd h h1
  obtain ⟨s,hs⟩:=ih (some f) h0.2
  have hp : ∀ p,prev = some p → p.row < f.row ∨ (p.row = f.row ∧ p.col < f.col):=fun p hp=>by
   subst hp
   have h2:=h0.1
   unfold filN at h2
   by_cases h3 : okC f.col f.row = false
   ·rw [if_pos h3] at h2; cases h2
   ·rw [if_neg h3] at h2
    cases h4 : zFG p f with
    | true=>exact (zJb p f).1 h4
    | false=>simp [h4] at h2
  refine ⟨List.Pairwise.cons (fun g hg=>hs f rfl g hg) s,fun p hpp g hg=>?_⟩
  rcases List.mem_cons.1 hg with rfl | hg
  ·exact hp p hpp
  ·have h1:=hp p hpp
   have h2:=hs f rfl g hg
   omega
theorem srtd_check {l : List Fil} (h : zCl l = 0) : Srtd l:=by
 unfold zCl at h
 by_cases h1 : 200 < l.length
 ·rw [if_pos h1] at h; cases h
 ·rw [if_neg h1] at h; exact (srtd_fils l none h).1
def zCN (l : List Fil) (c r : Int) (t : Bs) : List Fil:=l.filter (aheadC c r) ++ (if t = [] then [] else [⟨c,r,t⟩]) ++ l.filter (zB2 c r)
def zGP (l : List Fil) (c r : Int) : Nat:=(l.filter (aheadC c r)).length
theorem posC_le (l : List Fil) (c r : Int) : zGP l c r ≤ l.length:=List.length_filter_le _ _
theorem zGK {l : List Fil} (h : Srtd l) (c r : Int) : l = l.filter (aheadC c r) ++ l.filter (fun f=>!aheadC c r f):=by
 induction l with
 | nil=>rfl
 | cons f t ih=>
  obtain ⟨h1,h2⟩:=List.pairwise_cons.1 h
  cases hf : aheadC c r f with
  | true=>
   rw [List.filter_cons_of_pos hf,List.filter_cons_of_neg (by simp [hf]),List.cons_append,← ih h2]
  | false=>
   have hn : t.filter (aheadC c r) = []:=by
    refine List.filter_eq_nil_iff.2 fun g hg=>?_
    have:=h1 g hg
    have h3 : ¬ (f.row < r ∨ (f.row = r ∧ f.col < c)):=by simpa [aheadC] using hf
    simp only [aheadC,decide_eq_true_eq]
    omega
   have ht : t.filter (fun f=>!aheadC c r f) = t:=by
    refine List.filter_eq_self.2 fun g hg=>?_
    have:=List.filter_eq_nil_iff.1 hn g hg
    simpa using this
   rw [List.filter_cons_of_neg (by simp [hf]),List.filter_cons_of_pos (by simp [hf]),hn,ht,List.nil_append]
theorem take_pos {l : List Fil} (h : Srtd l) (c r : Int) : l.take (zGP l c r) = l.filter (aheadC c r):=by
 conv=>lhs; rw [zGK h c r]
 unfold zGP
 rw [zGK h c r]
 simp
theorem drop_pos {l : List Fil} (h : Srtd l) (c r : Int) : l.drop (zGP l c r) = l.filter (fun f=>!aheadC c r f):=by
 have e:=zGK h c r
 have e2 : zGP l c r = (l.filter (aheadC c r)).length:=rfl
 rw [e2]
 conv=>lhs; rw [e]
 rw [List.drop_left' (by rw [← e])]
theorem zJc {l : List Fil} (h : Srtd l) (c r : Int) : l.filter (fun f=>!aheadC c r f) = l.filter (isC c r) ++ l.filter (zB2 c r):=by
 induction l with
 | nil=>rfl
 | cons f t ih=>
  obtain ⟨h1,h2⟩:=List.pairwise_cons.1 h
  have hi:=ih h2
  by_cases ha : f.row < r ∨ (f.row = r ∧ f.col < c)
  ·rw [List.filter_cons_of_neg (by simp [aheadC,ha]),List.filter_cons_of_neg (by simp only [isC,decide_eq_true_eq]; omega),List.filter_cons_of_neg (by simp only [zB2,decide_eq_true_eq]; omega)]
   exact hi
  ·by_cases he : f.row = r ∧ f.col = c
   ·rw [List.filter_cons_of_pos (by simp only [aheadC,Bool.not_eq_true',decide_eq_false_iff_not]; exact ha),List.filter_cons_of_pos (by simp only [isC,decide_eq_true_eq]; exact he),List.filter_cons_of_neg (by simp only [zB2,decide_eq_true_eq]; omega),List.cons_append,← hi]
   ·have hn : t.filter (isC c r) = []:=by
     refine List.filter_eq_nil_iff.2 fun g hg=>?_
     have:=h1 g hg
     simp only [isC,decide_eq_true_eq]
     omega
    rw [List.filter_cons_of_pos (by simp only [aheadC,Bool.not_eq_true',decide_eq_false_iff_not]; exact ha),List.filter_cons_of_neg (by simp only [isC,decide_eq_true_eq]; exact he),List.filter_cons_of_pos (by simp only [zB2,decide_eq_true_eq]; omega),hn,List.nil_append,hi,hn,List.nil_append]
theorem at_pos {l : List Fil} (h : Srtd l) (c r : Int) : (∃ f,l[zGP l c r]? = some f ∧ f.row = r ∧ f.col = c ∧ l.filter (isC c r) = [f]) ∨ (l.filter (isC c r) = [] ∧ ∀ f,l[zGP l c r]? = some f → ¬ (f.row = r ∧ f.col = c)):=by
 have e : l.drop (zGP l c r) = l.filter (isC c r) ++ l.filter (zB2 c r):=(drop_pos h c r).trans (zJc h c r)
 have e2 : l[zGP l c r]? = (l.drop (zGP l c r)).head?:=by rw [List.head?_drop]
 rw [e2,e]
 cases hq : l.filter (isC c r) with
 | nil=>
  refine .inr ⟨rfl,fun f hf hh=>?_⟩
  rw [List.nil_append] at hf
  have hm : f ∈ l.filter (zB2 c r):=List.mem_of_head? hf
  have:=(List.mem_filter.1 hm).2
  simp only [zB2,decide_eq_true_eq] at this
  omega
 | cons f t=>
  have hf : f ∈ l.filter (isC c r):=by rw [hq]; simp
  have h1:=(List.mem_filter.1 hf).2
  simp only [isC,decide_eq_true_eq] at h1
  refine .inl ⟨f,by simp,h1.1,h1.2, ?_⟩
  have hp : Srtd (f :: t):=by rw [← hq]; exact h.filter _
  have ht : t = []:=by
   cases t with
   | nil=>rfl
   | cons g u=>
    have hg : g ∈ l.filter (isC c r):=by rw [hq]; simp
    have h2:=(List.mem_filter.1 hg).2
    simp only [isC,decide_eq_true_eq] at h2
    have h3:=(List.pairwise_cons.1 hp).1 g (by simp)
    omega
  rw [ht]
theorem withS_srtd {l : List Fil} (h : Srtd l) (c r : Int) (t : Bs) : Srtd (zCN l c r t):=by
 unfold zCN
 refine List.pairwise_append.2 ⟨List.pairwise_append.2 ⟨h.filter _, ?_,fun a ha b hb=>?_⟩,h.filter _,fun a ha b hb=>?_⟩
 ·split
  ·exact List.Pairwise.nil
  ·exact List.pairwise_singleton _ _
 ·have h1:=(List.mem_filter.1 ha).2
  simp only [aheadC,decide_eq_true_eq] at h1
  split at hb
  ·simp at hb
  ·simp only [List.mem_singleton] at hb
   subst hb
   exact h1
 ·have h2:=(List.mem_filter.1 hb).2
  simp only [zB2,decide_eq_true_eq] at h2
  rcases List.mem_append.1 ha with ha | ha
  ·have h1:=(List.mem_filter.1 ha).2
   simp only [aheadC,decide_eq_true_eq] at h1
   omega
  ·split at ha
   ·simp at ha
   ·simp only [List.mem_singleton] at ha
    subst ha
    exact h2
theorem withS_has {l : List Fil} (h : Srtd l) (c r : Int) {f : Fil} (hf : l[zGP l c r]? = some f) (hr : f.row = r) (hc : f.col = c) (t : Bs) : zCN l c r t = if t = [] then l.eraseIdx (zGP l c r) else l.set (zGP l c r) ⟨c,r,t⟩:=by
 have e : l.drop (zGP l c r) = l.filter (isC c r) ++ l.filter (zB2 c r):=(drop_pos h c r).trans (zJc h c r)
 have hq : l.filter (isC c r) = [f]:=by
  rcases at_pos h c r with ⟨g,hg,_,_,h4⟩ | ⟨_,h4⟩
  ·rw [hf] at hg; cases hg; exact h4
  ·exact absurd ⟨hr,hc⟩ (h4 f hf)
 have hlt:=(zg hf).1
 have hd : l.drop (zGP l c r + 1) = l.filter (zB2 c r):=by
  rw [hq,List.drop_eq_getElem_cons hlt] at e
  simp only [List.cons_append,List.nil_append,List.cons.injEq] at e
  exact e.2
 unfold zCN
 rw [← take_pos h c r,← hd]
 split
 ·rw [List.append_nil,List.eraseIdx_eq_take_drop_succ]
 ·rw [List.set_eq_take_append_cons_drop,if_pos hlt,List.append_assoc]
  rfl
theorem withS_not {l : List Fil} (h : Srtd l) (c r : Int) (hn : ∀ f,l[zGP l c r]? = some f → ¬ (f.row = r ∧ f.col = c)) (t : Bs) : zCN l c r t = if t = [] then l else l.take (zGP l c r) ++ ⟨c,r,t⟩ :: l.drop (zGP l c r):=by
 have e : l.drop (zGP l c r) = l.filter (isC c r) ++ l.filter (zB2 c r):=(drop_pos h c r).trans (zJc h c r)
 have hq : l.filter (isC c r) = []:=by
  rcases at_pos h c r with ⟨g,hg,h1,h2,_⟩ | ⟨h4,_⟩
  ·exact absurd ⟨h1,h2⟩ (hn g hg)
  ·exact h4
 rw [hq,List.nil_append] at e
 unfold zCN
 rw [← take_pos h c r,← e]
 split
 ·rw [List.append_nil,List.take_append_drop]
 ·rw [List.append_assoc]; rfl
end Go.AM
