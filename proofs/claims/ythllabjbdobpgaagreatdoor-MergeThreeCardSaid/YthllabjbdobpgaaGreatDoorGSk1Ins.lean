/- Several texts of mine in one (Sk1, Be0, Wt0, Del, Ins). Own work. -/
import Derived.Test.YthllabjbdobpgaaGreatDoorGRfhSk0
import Derived.Test.YthllabjbdobpgaaGreatDoorGAm23Am29
import Derived.Test.YthllabjbdobpgaaGreatDoorGRfdRfg
import Derived.Test.YthllabjbdobpgaaGreatDoorUk
import Derived.Shelf.SlicesG.Delete
import Derived.Shelf.Spec.SlicesInsertGrow
set_option linter.all false
namespace Go.AM
open Go Go.Lib Go.Proofs
structure SameBut (g : Nat) (w w' : World) : Prop where
 os : w'.os = w.os
 tape : w'.tape = w.tape
 out : w'.output = w.output
 size : w.heap.size ≤ w'.heap.size
 other : ∀ j,j < w.heap.size → j ≠ g → w'.heap[j]? = w.heap[j]?
 shape : ∀ j s,w.shape? j = some s → w'.shape? j = some s
theorem SameBut.refl (g : Nat) (w : World) : SameBut g w w:=⟨rfl,rfl,rfl,zMh _,fun _ _ _=>rfl,fun _ _ h=>h⟩
theorem SameBut.trans {g : Nat} {w w1 w2 : World} (h : SameBut g w w1) (k : SameBut g w1 w2) : SameBut g w w2:=
 ⟨k.os.trans h.os,k.tape.trans h.tape,k.out.trans h.out,zN4 h.size k.size,fun j hj hn=>(k.other j (zNK hj h.size) hn).trans (h.other j hj hn),fun j s hs=>k.shape j s (h.shape j s hs)⟩
theorem SameBut.drew {g : Nat} (w : World) : SameBut g w w.drew:=⟨rfl,rfl,rfl,zMh _,fun _ _ _=>rfl,fun _ _ h=>h⟩
theorem SameBut.setCell (w : World) (g o : Nat) (v : Value) : SameBut g w (w.setCell ⟨g,o,none⟩ v):=by
 refine ⟨rfl,rfl,rfl,by simp [World.setCell],fun j _ hn=>?_,fun j s hs=>?_⟩
 ·simp only [World.setCell,zN9]
  rw [zMe (zNa hn)]
 ·simp only [World.shape?,World.setCell,zN9] at hs ⊢
  by_cases e : g = j
  ·rw [zMg e]
   cases hq : w.heap[j]? with
   | none=>rw [hq] at hs; cases hs
   | some ob=>
    rw [hq] at hs
    cases ob <;> simp_all
  ·rw [zMe e]; exact hs
theorem SameBut.setCells (g : Nat) : ∀ (vs : List Value) (o : Nat) (w : World),SameBut g w (w.setCells g o vs)
 | [],_,w=>SameBut.refl g w
 | v :: r,o,w=>by
  rw [World.setCells]
  exact (SameBut.setCell w g o v).trans (SameBut.setCells g r (o + 1) _)
theorem SameBut.alloc (g : Nat) (w : World) (ob : Obj) : SameBut g w (w.alloc ob):=by
 have hh : (w.alloc ob).heap = w.heap.push ob:=rfl
 refine ⟨rfl,rfl,rfl,by rw [hh]; simp,fun j hj _=>?_,fun j s hs=>?_⟩
 ·rw [hh,zNT]
  rw [zMe tO]
 ·have hlt : j < w.heap.size:=by
   rcases zOB j w.heap.size with h | h
   ·exact h
   ·simp [World.shape?,zOG h] at hs
  simp only [World.shape?] at hs ⊢
  rw [hh,zNT,zMe tO]
  exact hs
theorem zIJ {P : Program} {GT : Nat → Option AV} {f : FuncId} {fn : Func} {args : List AV} {H H' : Heap} {v : AV} (hf : P.funcs[f]? = some fn) (hname : (fn.name == "runtime.NumGoroutine") = false) (hb : fn.body.isSome = true) (hn : zHr args = true)
  (h : ∀ (w : World) (M : AMap) (I : Nat → Prop) (cargs : List Value),Sim GT w M I H → zDO w M I H.length args cargs → Calls P f cargs.toArray w fun e w'=>∃ v',e = .returned v' ∧ ∃ M' I',Grow w M I H w' M' I' H' ∧ Sim GT w' M' I' H' ∧ Rel w' M' I' H'.length v v') : Good P GT f args H v H':=by
 refine zHE hn ?_
 intro w M I cargs hS hA
 have h1 : fn.name ≠ "runtime.NumGoroutine" := by simpa using hname
 obtain ⟨c,hb⟩:=zNU.1 hb
 have hrun : (callFunc f cargs.toArray).run P w = .ok (.enter f cargs.toArray) w:=by simp [callFunc,hf,h1,hb]
 rw [hrun]
 exact h w M I cargs hS hA
end Go.AM
set_option maxRecDepth 20000
namespace Go.AM
def okF (f : Fil) : Prop:=(1 ≤ f.col ∧ f.col ≤ 26) ∧ (1 ≤ f.row ∧ f.row ≤ 99) ∧ f.text.length ≤ 200
theorem okC_iff (c r : Int) : okC c r = true ↔ (1 ≤ c ∧ c ≤ 26) ∧ (1 ≤ r ∧ r ≤ 99):=by
 unfold okC
 simp only [zMd,zMr]
 constructor
 ·rintro ⟨⟨⟨h1,h2⟩,h3⟩,h4⟩; exact ⟨⟨h1,h2⟩,h3,h4⟩
 ·rintro ⟨⟨h1,h2⟩,h3,h4⟩; exact ⟨⟨⟨h1,h2⟩,h3⟩,h4⟩
theorem textN_len {s : Bs} (h : zB3 s = 0) : s.length ≤ 200:=by
 unfold zB3 at h
 by_cases hl : 200 < s.length
 ·rw [zMg hl] at h; cases h
 ·omega
def mayN (f : Fil) : Nat:=if okC f.col f.row = true then zB3 f.text else 1
theorem okF_of {f : Fil} (h1 : okC f.col f.row = true) (h2 : zB3 f.text = 0) : okF f:=⟨((okC_iff _ _).1 h1).1,((okC_iff _ _).1 h1).2,textN_len h2⟩
theorem filsN_ok : ∀ (l : List Fil) (prev : Option Fil),zEw prev l = 0 → ∀ f ∈ l,okF f:=by
 intro l
 induction l with
 | nil=>intro _ _ f h; cases h
 | cons g r ih=>
  intro prev h f hf
  unfold zEw at h
  by_cases h0 : filN prev g = 0
  ·rw [zMg h0] at h
   rcases zNZ.1 hf with rfl | hf
   ·unfold filN at h0
    by_cases h1 : okC f.col f.row = false
    ·rw [zMg h1] at h0; cases h0
    ·rw [zMe h1] at h0
     have h1 : okC f.col f.row = true:=by simpa using h1
     have h2 : zB3 f.text = 0:=by
      by_cases he : f.text = []
      ·rw [he]; rfl
      ·cases prev with
       | none=>
        have h0 : (if f.text = [] then 3 else zB3 f.text) = 0:=h0
        rwa [zMe he] at h0
       | some p=>
        have h0 : (if zDQ p f = false then 5 else if f.text = [] then 3 else zB3 f.text) = 0:=h0
        cases hp : zDQ p f with
        | true=>rw [hp,zMe (by simp),zMe he] at h0; exact h0
        | false=>rw [hp,zMg rfl] at h0; cases h0
     exact okF_of h1 h2
   ·exact ih _ h f hf
  ·rw [zMe h0] at h; exact absurd h h0
theorem checkN_ok {l : List Fil} (h : zBH l = 0) : l.length ≤ 200 ∧ ∀ f ∈ l,okF f:=by
 unfold zBH at h
 by_cases hl : 200 < l.length
 ·rw [zMg hl] at h; cases h
 ·rw [zMe hl] at h
  exact ⟨by omega,filsN_ok l none h⟩
end Go.AM
namespace Go.AM
theorem cmpC_lt (c1 r1 c2 r2 : Int) : cmpC c1 r1 c2 r2 < 0 ↔ r1 < r2 ∨ (r1 = r2 ∧ c1 < c2):=by
 unfold cmpC cmp3
 repeat' split
 all_goals omega
def aheadC (c r : Int) (f : Fil) : Bool:=decide (f.row < r ∨ (f.row = r ∧ f.col < c))
def zCB (c r : Int) (f : Fil) : Bool:=decide (r < f.row ∨ (r = f.row ∧ c < f.col))
def isC (c r : Int) (f : Fil) : Bool:=decide (f.row = r ∧ f.col = c)
theorem lessC_iff (a b : Fil) : zDQ a b = true ↔ a.row < b.row ∨ (a.row = b.row ∧ a.col < b.col):=by
 unfold zDQ
 rw [zOC]
 exact cmpC_lt _ _ _ _
def Srtd (l : List Fil) : Prop:=l.Pairwise fun a b=>a.row < b.row ∨ (a.row = b.row ∧ a.col < b.col)
theorem Srtd.nil : Srtd []:=List.Pairwise.nil
theorem srtd_fils : ∀ (l : List Fil) (prev : Option Fil),zEw prev l = 0 → Srtd l ∧ ∀ p,prev = some p → ∀ f ∈ l,p.row < f.row ∨ (p.row = f.row ∧ p.col < f.col):=by
 intro l
 induction l with
 | nil=>intro prev _; exact ⟨List.Pairwise.nil,fun _ _ f hf=>absurd hf (by simp)⟩
 | cons f r ih=>
  intro prev h
  have h0 : filN prev f = 0 ∧ zEw (some f) r = 0:=by
   have e:=zKF (f :: r) 0 f rfl prev
   simp only [zOs,zNe,List.drop_succ_cons] at e
   rw [e] at h
   by_cases h1 : filN prev f = 0
   ·rw [zMg h1] at h; exact ⟨h1,h⟩
   ·rw [zMe h1] at h; exact absurd h h1
  obtain ⟨s,hs⟩:=ih (some f) h0.2
  have hp : ∀ p,prev = some p → p.row < f.row ∨ (p.row = f.row ∧ p.col < f.col):=fun p hp=>by
   subst hp
   have h2:=h0.1
   unfold filN at h2
   by_cases h3 : okC f.col f.row = false
   ·rw [zMg h3] at h2; cases h2
   ·rw [zMe h3] at h2
    cases h4 : zDQ p f with
    | true=>exact (lessC_iff p f).1 h4
    | false=>simp [h4] at h2
  refine ⟨List.Pairwise.cons (fun g hg=>hs f rfl g hg) s,fun p hpp g hg=>?_⟩
  rcases zNZ.1 hg with rfl | hg
  ·exact hp p hpp
  ·have h1:=hp p hpp
   have h2:=hs f rfl g hg
   omega
theorem srtd_check {l : List Fil} (h : zBH l = 0) : Srtd l:=by
 unfold zBH at h
 by_cases h1 : 200 < l.length
 ·rw [zMg h1] at h; cases h
 ·rw [zMe h1] at h; exact (srtd_fils l none h).1
def zDn (l : List Fil) (c r : Int) (t : Bs) : List Fil:=l.filter (aheadC c r) ++ (if t = [] then [] else [⟨c,r,t⟩]) ++ l.filter (zCB c r)
theorem withS_srtd {l : List Fil} (h : Srtd l) (c r : Int) (t : Bs) : Srtd (zDn l c r t):=by
 unfold zDn
 refine zPQ.2 ⟨zPQ.2 ⟨h.filter _, ?_,fun a ha b hb=>?_⟩,h.filter _,fun a ha b hb=>?_⟩
 ·split
  ·exact List.Pairwise.nil
  ·exact List.pairwise_singleton _ _
 ·have h1:=(zNW.1 ha).2
  simp only [aheadC,zMr] at h1
  split at hb
  ·simp at hb
  ·simp only [zNn] at hb
   subst hb
   exact h1
 ·have h2:=(zNW.1 hb).2
  simp only [zCB,zMr] at h2
  rcases zNp.1 ha with ha | ha
  ·have h1:=(zNW.1 ha).2
   simp only [aheadC,zMr] at h1
   omega
  ·split at ha
   ·simp at ha
   ·simp only [zNn] at ha
    subst ha
    exact h2
end Go.AM
set_option maxRecDepth 1000000
namespace Go.Proofs.YthllabjbdobpgaaGreatDoor
open Go.AM Go.Shelf Go.RowKit Go.Lib Go.Sort Go.Proofs
end Go.Proofs.YthllabjbdobpgaaGreatDoor
set_option maxRecDepth 1000000
namespace Go.Proofs.YthllabjbdobpgaaGreatDoor
open Go.AM Go.Shelf Go.RowKit Go.Lib Go.Sort Go.Proofs
end Go.Proofs.YthllabjbdobpgaaGreatDoor
