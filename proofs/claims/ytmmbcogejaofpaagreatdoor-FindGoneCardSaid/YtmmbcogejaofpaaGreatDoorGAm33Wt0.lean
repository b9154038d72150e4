/- Several texts of mine in one (Am33, Sk0, Sk1, Be0, Wt0). Own work. -/
import Derived.Test.YtmmbcogejaofpaaGreatDoorGFmAm24
import Derived.Shelf.Spec.SlicesInsert
import Derived.Lib.AppendZerosOnto
import Derived.Laws.NewBlocks
import Derived.Test.YtmmbcogejaofpaaGreatDoorGAm23Am29
import Derived.Test.YtmmbcogejaofpaaGreatDoorGAm31Gq
set_option linter.all false
namespace Go.AM
section
variable {P : Program} {GT : Nat → Option AV} {w w' : World} {M : AMap} {I : Nat → Prop} {H : Heap}
theorem Sim.mut_at (hS : Sim GT w M I H) {b : Nat} {x : ABlk} (hb : H[b]? = some x) (hm : x.mut = true) {g o : Nat} (hM : M b = some (g,o)) : ∃ _cur : Array Value,True ∧ ¬ I g ∧ g < w.heap.size:=by
 have h:=hS.blk b x hb
 cases x with
 | dead=>simp [ABlk.mut] at hm
 | frz=>simp [ABlk.mut] at hm
 | box cs=>
  obtain ⟨g1,o1,cur,h1,h2,h3,_⟩:=h
  rw [hM] at h1
  cases h1
  obtain ⟨e,fz,h4,h5⟩:=h2
  exact ⟨cur,trivial,h3,(Array.getElem?_eq_some_iff.1 h4).1⟩
 | mp ks vs=>
  obtain ⟨g1,es,cl,h1,h2,h3,_⟩:=h
  rw [hM] at h1
  simp only [Option.some.injEq,Prod.mk.injEq] at h1
  obtain ⟨rfl,_⟩:=h1
  exact ⟨#[],trivial,h3,(Array.getElem?_eq_some_iff.1 h2).1⟩
 | row k xs=>
  obtain ⟨_,⟨h1,_⟩ | ⟨g1,o1,cur,h1,h2,h3,_⟩⟩:=h
  ·rw [hM] at h1; cases h1
  ·rw [hM] at h1
   cases h1
   obtain ⟨e,fz,h4,h5⟩:=h2
   exact ⟨cur,trivial,h3,(Array.getElem?_eq_some_iff.1 h4).1⟩
theorem row_turned (hS : Sim GT w M I H) {b : Nat} {x : ABlk} (hb : H[b]? = some x) (hm : x.mut = true) {g o : Nat} (hM : M b = some (g,o)) (hos : w'.os = w.os) (htape : w'.tape = w.tape) (hout : w'.output = w.output) (hsize : w.heap.size ≤ w'.heap.size)
  (hfr : ∀ j,j < w.heap.size → j ≠ g → w'.heap[j]? = w.heap[j]?) (hshape : ∀ s,w.shape? g = some s → w'.shape? g = some s) {y : ABlk} {G : Nat → Prop} (hG : ∀ j,G j → (j = g ∧ y.mut = false) ∨ w.heap.size ≤ j) (hGl : ∀ j,G j → j < w'.heap.size)
  (hy : BlkOK w' M (fun j=>I j ∨ G j) H.length b y) :
  Grow w M I H w' M (fun j=>I j ∨ G j) (H.set b y) ∧ Sim GT w' M (fun j=>I j ∨ G j) (H.set b y):=by
 obtain ⟨cur,hcur,hnI,hglt⟩:=hS.mut_at hb hm hM
 have hblt:=(zg hb).1
 have live : zD4 H M g:=⟨b,x,o,hb,hm,hM⟩
 have shp : ∀ j s,w.shape? j = some s → w'.shape? j = some s:=fun j s hs=>by
  by_cases hj : j = g
  ·subst hj; exact hshape s hs
  ·have hlt : j < w.heap.size:=by
    rcases Nat.lt_or_ge j w.heap.size with h | h
    ·exact h
    ·simp [World.shape?,Array.getElem?_eq_none h] at hs
   rw [z8 (hfr j hlt hj)]; exact hs
 have hIh : ∀ k,I k → w'.heap[k]? = w.heap[k]?:=fun k hk=>hfr k (hS.idom k hk) (fun e=>hnI (e ▸ hk))
 have other : ∀ b' x',(H.set b y)[b']? = some x' → b' ≠ b → H[b']? = some x':=fun b' x' h hne=>by rwa [List.getElem?_set_ne (Ne.symm hne)] at h
 have at_b : (H.set b y)[b]? = some y:=List.getElem?_set_self hblt
 refine ⟨⟨hos,htape,hout,hsize,fun _ _=>rfl,fun _ h=>.inl h,fun j hj hlt=>?_,fun j hlt hn=>hfr j hlt (fun e=>hn (e ▸ live)),fun j hlt hl=>?_,shp,by rw [List.length_set]; exact Nat.le_refl _⟩, ?_⟩
 ·rcases hj with hj | hj
  ·exact .inl hj
  ·rcases hG j hj with ⟨rfl,_⟩ | h
   ·exact .inr live
   ·omega
 ·obtain ⟨b',x',o',h1,h2,h3⟩:=hl
  by_cases e : b' = b
  ·subst e
   rw [hM] at h3
   cases h3
   exact live
  ·exact ⟨b',x',o',other b' x' h1 e,h2,h3⟩
 ·refine ⟨fun q z hz=>?_,fun k hk=>?_,fun b' x' hx=>?_,fun b1 b2 x1 x2 g1 o1 o2 h1 m1 h2 m2 e1 e2=>?_,fun q z hz=>?_⟩
  ·exact (hS.glob q z hz).mono (M':=M) (n:=0) (fun _ h=>.inl h) hIh (fun _ h=>absurd h (Nat.not_lt_zero _)) (Nat.zero_le _) shp
  ·rcases hk with hk | hk
   ·exact Nat.lt_of_lt_of_le (hS.idom k hk) hsize
   ·exact hGl k hk
  ·rw [List.length_set]
   by_cases e : b' = b
   ·subst e
    rw [at_b] at hx
    cases hx
    exact hy
   ·have hx':=other b' x' hx e
    have far : ∀ g1 o1,M b' = some (g1,o1) → x'.mut = true → g1 ≠ g ∧ g1 < w.heap.size:=fun g1 o1 h1 hm1=>by
     refine ⟨fun eg=>?_,(hS.mut_at hx' hm1 h1).choose_spec.2.2⟩
     subst eg
     exact e (hS.inj b' b x' x g1 o1 o hx' hm1 hb hm h1 hM)
    refine (hS.blk b' x' hx').mono (zg hx').1 (fun _ h=>.inl h) hIh (fun _ _=>rfl) (Nat.le_refl _) shp (fun g1 o1 h1 hm1=>?_) (fun g1 o1 h1 hm1 hn=>?_)
    ·exact hfr g1 (far g1 o1 h1 hm1).2 (far g1 o1 h1 hm1).1
    ·rintro (h | h)
     ·exact hn h
     ·rcases hG g1 h with ⟨rfl,_⟩ | h'
      ·exact (far _ o1 h1 hm1).1 rfl
      ·have:=(far g1 o1 h1 hm1).2
       omega
  ·have key : ∀ {b1 b2 : Nat} {x1 x2 : ABlk} {g1 o1 o2 : Nat},(H.set b y)[b1]? = some x1 → x1.mut = true → (H.set b y)[b2]? = some x2 → x2.mut = true → M b1 = some (g1,o1) → M b2 = some (g1,o2) → b1 = b → b2 = b:=by
    intro b1 b2 x1 x2 g1 o1 o2 h1 m1 h2 m2 e1 e2 e
    subst e
    by_cases e' : b2 = b1
    ·exact e'
    ·rw [hM] at e1
     cases e1
     exact hS.inj b2 b1 x2 x g o2 o (other b2 x2 h2 e') m2 hb hm e2 hM
   by_cases c1 : b1 = b
   ·exact c1.trans (key h1 m1 h2 m2 e1 e2 c1).symm
   ·by_cases c2 : b2 = b
    ·exact absurd (key h2 m2 h1 m1 e2 e1 c2) c1
    ·exact hS.inj b1 b2 x1 x2 g1 o1 o2 (other b1 x1 h1 c1) m1 (other b2 x2 h2 c2) m2 e1 e2
  ·obtain ⟨e,h⟩:=hS.shp q z hz
   exact ⟨e,shp q _ h⟩
theorem row_written (hS : Sim GT w M I H) {b k : Nat} {xs : List AV} (hb : H[b]? = some (.row k xs)) {g o : Nat} (hM : M b = some (g,o)) (hos : w'.os = w.os) (htape : w'.tape = w.tape) (hout : w'.output = w.output) (hsize : w.heap.size ≤ w'.heap.size)
  (hfr : ∀ j,j < w.heap.size → j ≠ g → w'.heap[j]? = w.heap[j]?) (hshape : ∀ s,w.shape? g = some s → w'.shape? g = some s) {ys : List AV} (he : Elems k ys) {cur' : Array Value} (hcur : Cells w' g cur' k) (hfit : o + ys.length * k ≤ cur'.size)
  (hcells : ∀ i j y c,ys[i]? = some y → y.cells[j]? = some c → ∃ v,cur'[o + i * k + j]? = some v ∧ ∀ M I n,Rel w' M I n c v) :
  ∃ M' I',Grow w M I H w' M' I' (H.set b (.row k ys)) ∧ Sim GT w' M' I' (H.set b (.row k ys)):=by
 obtain ⟨_,_,hnI,_⟩:=hS.mut_at hb rfl hM
 obtain ⟨h1,h2⟩:=row_turned (y:=.row k ys) (G:=fun _=>False) hS hb rfl hM hos htape hout hsize hfr hshape (fun _ hj=>hj.elim) (fun _ hj=>hj.elim) ⟨he,.inr ⟨g,o,cur',hM,hcur,by simpa using hnI,hfit,fun i j x c hx hj=>by
  obtain ⟨v,e1,e2⟩:=hcells i j x c hx hj
  exact ⟨v,e1,e2 _ _ _⟩⟩⟩
 exact ⟨M,_,h1,h2⟩
end
end Go.AM
namespace Go.AM
open Go Go.Lib Go.Proofs
end Go.AM
namespace Go.AM
open Go Go.Lib Go.Proofs
structure SameBut (g : Nat) (w w' : World) : Prop where
 os : w'.os = w.os
 tape : w'.tape = w.tape
 out : w'.output = w.output
 size : w.heap.size ≤ w'.heap.size
 other : ∀ j,j < w.heap.size → j ≠ g → w'.heap[j]? = w.heap[j]?
 shape : ∀ j s,w.shape? j = some s → w'.shape? j = some s
theorem SameBut.refl (g : Nat) (w : World) : SameBut g w w:=⟨rfl,rfl,rfl,Nat.le_refl _,fun _ _ _=>rfl,fun _ _ h=>h⟩
theorem SameBut.trans {g : Nat} {w w1 w2 : World} (h : SameBut g w w1) (k : SameBut g w1 w2) : SameBut g w w2:=
 ⟨k.os.trans h.os,k.tape.trans h.tape,k.out.trans h.out,Nat.le_trans h.size k.size,fun j hj hn=>(k.other j (Nat.lt_of_lt_of_le hj h.size) hn).trans (h.other j hj hn),fun j s hs=>k.shape j s (h.shape j s hs)⟩
theorem SameBut.drew {g : Nat} (w : World) : SameBut g w w.drew:=⟨rfl,rfl,rfl,Nat.le_refl _,fun _ _ _=>rfl,fun _ _ h=>h⟩
theorem SameBut.setCell (w : World) (g o : Nat) (v : Value) : SameBut g w (w.setCell ⟨g,o,none⟩ v):=by
 refine ⟨rfl,rfl,rfl,by simp [World.setCell],fun j _ hn=>?_,fun j s hs=>?_⟩
 ·simp only [World.setCell,Array.getElem?_modify]
  rw [if_neg (Ne.symm hn)]
 ·simp only [World.shape?,World.setCell,Array.getElem?_modify] at hs ⊢
  by_cases e : g = j
  ·rw [if_pos e]
   cases hq : w.heap[j]? with
   | none=>rw [hq] at hs; cases hs
   | some ob=>
    rw [hq] at hs
    cases ob <;> simp_all
  ·rw [if_neg e]; exact hs
theorem SameBut.setCells (g : Nat) : ∀ (vs : List Value) (o : Nat) (w : World),SameBut g w (w.setCells g o vs)
 | [],_,w=>SameBut.refl g w
 | v :: r,o,w=>by
  rw [World.setCells]
  exact (SameBut.setCell w g o v).trans (SameBut.setCells g r (o + 1) _)
theorem SameBut.alloc (g : Nat) (w : World) (ob : Obj) : SameBut g w (w.alloc ob):=by
 have hh : (w.alloc ob).heap = w.heap.push ob:=rfl
 refine ⟨rfl,rfl,rfl,by rw [hh]; simp,fun j hj _=>?_,fun j s hs=>?_⟩
 ·rw [hh,Array.getElem?_push]
  rw [if_neg tO]
 ·have hlt : j < w.heap.size:=by
   rcases Nat.lt_or_ge j w.heap.size with h | h
   ·exact h
   ·simp [World.shape?,Array.getElem?_eq_none h] at hs
  simp only [World.shape?] at hs ⊢
  rw [hh,Array.getElem?_push,if_neg tO]
  exact hs
theorem zE2 {P : Program} {GT : Nat → Option AV} {f : FuncId} {fn : Func} {args : List AV} {H H' : Heap} {v : AV} (hf : P.funcs[f]? = some fn) (hname : (fn.name == "runtime.NumGoroutine") = false) (hb : fn.body.isSome = true) (hn : zE9 args = true)
  (h : ∀ (w : World) (M : AMap) (I : Nat → Prop) (cargs : List Value),Sim GT w M I H → zBj w M I H.length args cargs → Calls P f cargs.toArray w fun e w'=>∃ v',e = .returned v' ∧ ∃ M' I',Grow w M I H w' M' I' H' ∧ Sim GT w' M' I' H' ∧ Rel w' M' I' H'.length v v') : Good P GT f args H v H':=by
 refine zEV hn ?_
 intro w M I cargs hS hA
 have h1 : fn.name ≠ "runtime.NumGoroutine" := by simpa using hname
 obtain ⟨c,hb⟩:=Option.isSome_iff_exists.1 hb
 have hrun : (callFunc f cargs.toArray).run P w = .ok (.enter f cargs.toArray) w:=by simp [callFunc,hf,h1,hb]
 rw [hrun]
 exact h w M I cargs hS hA
end Go.AM
set_option maxRecDepth 20000
namespace Go.AM
def okF (f : Fil) : Prop:=(1 ≤ f.col ∧ f.col ≤ 26) ∧ (1 ≤ f.row ∧ f.row ≤ 99) ∧ f.text.length ≤ 200
theorem okC_iff (c r : Int) : okC c r = true ↔ (1 ≤ c ∧ c ≤ 26) ∧ (1 ≤ r ∧ r ≤ 99):=by
 unfold okC
 simp only [Bool.and_eq_true,decide_eq_true_eq]
 constructor
 ·rintro ⟨⟨⟨h1,h2⟩,h3⟩,h4⟩; exact ⟨⟨h1,h2⟩,h3,h4⟩
 ·rintro ⟨⟨h1,h2⟩,h3,h4⟩; exact ⟨⟨⟨h1,h2⟩,h3⟩,h4⟩
theorem textN_len {s : Bs} (h : zBh s = 0) : s.length ≤ 200:=by
 unfold zBh at h
 by_cases hl : 200 < s.length
 ·rw [if_pos hl] at h; cases h
 ·omega
def mayN (f : Fil) : Nat:=if okC f.col f.row = true then zBh f.text else 1
theorem okF_of {f : Fil} (h1 : okC f.col f.row = true) (h2 : zBh f.text = 0) : okF f:=⟨((okC_iff _ _).1 h1).1,((okC_iff _ _).1 h1).2,textN_len h2⟩
theorem filsN_ok : ∀ (l : List Fil) (prev : Option Fil),zEt prev l = 0 → ∀ f ∈ l,okF f:=by
 intro l
 induction l with
 | nil=>intro _ _ f h; cases h
 | cons g r ih=>
  intro prev h f hf
  unfold zEt at h
  by_cases h0 : filN prev g = 0
  ·rw [if_pos h0] at h
   rcases List.mem_cons.1 hf with rfl | hf
   ·unfold filN at h0
    by_cases h1 : okC f.col f.row = false
    ·rw [if_pos h1] at h0; cases h0
    ·rw [if_neg h1] at h0
     have h1 : okC f.col f.row = true:=by simpa using h1
     have h2 : zBh f.text = 0:=by
      by_cases he : f.text = []
      ·rw [he]; rfl
      ·cases prev with
       | none=>
        have h0 : (if f.text = [] then 3 else zBh f.text) = 0:=h0
        rwa [if_neg he] at h0
       | some p=>
        have h0 : (if zEs p f = false then 5 else if f.text = [] then 3 else zBh f.text) = 0:=h0
        cases hp : zEs p f with
        | true=>rw [hp,if_neg (by simp),if_neg he] at h0; exact h0
        | false=>rw [hp,if_pos rfl] at h0; cases h0
     exact okF_of h1 h2
   ·exact ih _ h f hf
  ·rw [if_neg h0] at h; exact absurd h h0
theorem zIF {l : List Fil} (h : zAV l = 0) : l.length ≤ 200 ∧ ∀ f ∈ l,okF f:=by
 unfold zAV at h
 by_cases hl : 200 < l.length
 ·rw [if_pos hl] at h; cases h
 ·rw [if_neg hl] at h
  exact ⟨by omega,filsN_ok l none h⟩
end Go.AM
namespace Go.AM
theorem cmpC_lt (c1 r1 c2 r2 : Int) : cmpC c1 r1 c2 r2 < 0 ↔ r1 < r2 ∨ (r1 = r2 ∧ c1 < c2):=by
 unfold cmpC cmp3
 repeat' split
 all_goals omega
theorem lessC_iff (a b : Fil) : zEs a b = true ↔ a.row < b.row ∨ (a.row = b.row ∧ a.col < b.col):=by
 unfold zEs
 rw [decide_eq_true_iff]
 exact cmpC_lt _ _ _ _
def Srtd (l : List Fil) : Prop:=l.Pairwise fun a b=>a.row < b.row ∨ (a.row = b.row ∧ a.col < b.col)
theorem Srtd.nil : Srtd []:=List.Pairwise.nil
theorem srtd_fils : ∀ (l : List Fil) (prev : Option Fil),zEt prev l = 0 → Srtd l ∧ ∀ p,prev = some p → ∀ f ∈ l,p.row < f.row ∨ (p.row = f.row ∧ p.col < f.col):=by
 intro l
 induction l with
 | nil=>intro prev _; exact ⟨List.Pairwise.nil,fun _ _ f hf=>absurd hf (by simp)⟩
 | cons f r ih=>
  intro prev h
  have h0 : filN prev f = 0 ∧ zEt (some f) r = 0:=by
   have e:=filsN_drop (f :: r) 0 f rfl prev
   simp only [List.drop_zero,Nat.zero_add,List.drop_succ_cons] at e
   rw [e] at h
   by_cases h1 : filN prev f = 0
   ·rw [if_pos h1] at h; exact ⟨h1,h⟩
   ·rw [if_neg h1] at h; exact absurd h h1
  obtain ⟨s,hs⟩:=ih (some f) h0.2
  have hp : ∀ p,prev = some p → p.row < f.row ∨ (p.row = f.row ∧ p.col < f.col):=fun p hp=>by
   subst hp
   have h2:=h0.1
   unfold filN at h2
   by_cases h3 : okC f.col f.row = false
   ·rw [if_pos h3] at h2; cases h2
   ·rw [if_neg h3] at h2
    cases h4 : zEs p f with
    | true=>exact (lessC_iff p f).1 h4
    | false=>simp [h4] at h2
  refine ⟨List.Pairwise.cons (fun g hg=>hs f rfl g hg) s,fun p hpp g hg=>?_⟩
  rcases List.mem_cons.1 hg with rfl | hg
  ·exact hp p hpp
  ·have h1:=hp p hpp
   have h2:=hs f rfl g hg
   omega
theorem srtd_check {l : List Fil} (h : zAV l = 0) : Srtd l:=by
 unfold zAV at h
 by_cases h1 : 200 < l.length
 ·rw [if_pos h1] at h; cases h
 ·rw [if_neg h1] at h; exact (srtd_fils l none h).1
end Go.AM
