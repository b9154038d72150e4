/- A text put into a list of cells that stand in order: the plain words. Own work. -/
import Derived.Test.YthllabjbdobpgaaGreatDoorGGqBe0
set_option linter.all false
namespace Go.AM
theorem zMe (c1 r1 c2 r2 : Int) : zMd c1 r1 c2 r2 < 0 ↔ r1 < r2 ∨ (r1 = r2 ∧ c1 < c2):=by
 unfold zMd cmp3
 repeat' split
 all_goals omega
theorem cmpC_zero (c1 r1 c2 r2 : Int) : zMd c1 r1 c2 r2 = 0 ↔ r1 = r2 ∧ c1 = c2:=by
 unfold zMd cmp3
 repeat' split
 all_goals omega
def aheadC (c r : Int) (f : Fil) : Bool:=decide (f.row < r ∨ (f.row = r ∧ f.col < c))
def zAg (c r : Int) (f : Fil) : Bool:=decide (r < f.row ∨ (r = f.row ∧ c < f.col))
def isC (c r : Int) (f : Fil) : Bool:=decide (f.row = r ∧ f.col = c)
theorem zMf (a b : Fil) : lessC a b = true ↔ a.row < b.row ∨ (a.row = b.row ∧ a.col < b.col):=by
 unfold lessC
 rw [zOT]
 exact zMe _ _ _ _
def Srtd (l : List Fil) : Prop:=l.Pairwise fun a b=>a.row < b.row ∨ (a.row = b.row ∧ a.col < b.col)
theorem Srtd.nil : Srtd []:=List.Pairwise.nil
theorem srtd_fils : ∀ (l : List Fil) (prev : Option Fil),zE4 prev l = 0 → Srtd l ∧ ∀ p,prev = some p → ∀ f ∈ l,p.row < f.row ∨ (p.row = f.row ∧ p.col < f.col):=by
 intro l
 induction l with
 | nil=>intro prev _; exact ⟨List.Pairwise.nil,fun _ _ f hf=>absurd hf (by simp)⟩
 | cons f r ih=>
  intro prev h
  have h0 : filN prev f = 0 ∧ zE4 (some f) r = 0:=by
   have e:=zKP (f :: r) 0 f rfl prev
   simp only [zO8,zNo,List.drop_succ_cons] at e
   rw [e] at h
   by_cases h1 : filN prev f = 0
   ·rw [zMt h1] at h; exact ⟨h1,h⟩
   ·rw [zMq h1] at h; exact absurd h h1
  obtain ⟨s,hs⟩:=ih (some f) h0.2
  have hp : ∀ p,prev = some p → p.row < f.row ∨ (p.row = f.row ∧ p.col < f.col):=fun p hp=>by
   subst hp
   have h2:=h0.1
   unfold filN at h2
   by_cases h3 : okC f.col f.row = false
   ·rw [zMt h3] at h2; cases h2
   ·rw [zMq h3] at h2
    cases h4 : lessC p f with
    | true=>exact (zMf p f).1 h4
    | false=>simp [h4] at h2
  refine ⟨List.Pairwise.cons (fun g hg=>hs f rfl g hg) s,fun p hpp g hg=>?_⟩
  rcases zNe.1 hg with rfl | hg
  ·exact hp p hpp
  ·have h1:=hp p hpp
   have h2:=hs f rfl g hg
   omega
theorem srtd_check {l : List Fil} (h : zAP l = 0) : Srtd l:=by
 unfold zAP at h
 by_cases h1 : 200 < l.length
 ·rw [zMt h1] at h; cases h
 ·rw [zMq h1] at h; exact (srtd_fils l none h).1
def zBj (l : List Fil) (c r : Int) (t : Bs) : List Fil:=l.filter (aheadC c r) ++ (if t = [] then [] else [⟨c,r,t⟩]) ++ l.filter (zAg c r)
def zIr (l : List Fil) (c r : Int) : Nat:=(l.filter (aheadC c r)).length
theorem posC_le (l : List Fil) (c r : Int) : zIr l c r ≤ l.length:=zOP _ _
theorem zIl {l : List Fil} (h : Srtd l) (c r : Int) : l = l.filter (aheadC c r) ++ l.filter (fun f=>!aheadC c r f):=by
 induction l with
 | nil=>rfl
 | cons f t ih=>
  obtain ⟨h1,h2⟩:=zNw.1 h
  cases hf : aheadC c r f with
  | true=>
   rw [zOY hf,zOF (by simp [hf]),zOQ,← ih h2]
  | false=>
   have hn : t.filter (aheadC c r) = []:=by
    refine zOi.2 fun g hg=>?_
    have:=h1 g hg
    have h3 : ¬ (f.row < r ∨ (f.row = r ∧ f.col < c)):=by simpa [aheadC] using hf
    simp only [aheadC,zMz]
    omega
   have ht : t.filter (fun f=>!aheadC c r f) = t:=by
    refine List.filter_eq_self.2 fun g hg=>?_
    have:=zOi.1 hn g hg
    simpa using this
   rw [zOF (by simp [hf]),zOY (by simp [hf]),hn,ht,zNn]
theorem take_pos {l : List Fil} (h : Srtd l) (c r : Int) : l.take (zIr l c r) = l.filter (aheadC c r):=by
 conv=>lhs; rw [zIl h c r]
 unfold zIr
 rw [zIl h c r]
 simp
theorem drop_pos {l : List Fil} (h : Srtd l) (c r : Int) : l.drop (zIr l c r) = l.filter (fun f=>!aheadC c r f):=by
 have e:=zIl h c r
 have e2 : zIr l c r = (l.filter (aheadC c r)).length:=rfl
 rw [e2]
 conv=>lhs; rw [e]
 rw [List.drop_left' (by rw [← e])]
theorem zMg {l : List Fil} (h : Srtd l) (c r : Int) : l.filter (fun f=>!aheadC c r f) = l.filter (isC c r) ++ l.filter (zAg c r):=by
 induction l with
 | nil=>rfl
 | cons f t ih=>
  obtain ⟨h1,h2⟩:=zNw.1 h
  have hi:=ih h2
  by_cases ha : f.row < r ∨ (f.row = r ∧ f.col < c)
  ·rw [zOF (by simp [aheadC,ha]),zOF (by simp only [isC,zMz]; omega),zOF (by simp only [zAg,zMz]; omega)]
   exact hi
  ·by_cases he : f.row = r ∧ f.col = c
   ·rw [zOY (by simp only [aheadC,zNg,zNT]; exact ha),zOY (by simp only [isC,zMz]; exact he),zOF (by simp only [zAg,zMz]; omega),zOQ,← hi]
   ·have hn : t.filter (isC c r) = []:=by
     refine zOi.2 fun g hg=>?_
     have:=h1 g hg
     simp only [isC,zMz]
     omega
    rw [zOY (by simp only [aheadC,zNg,zNT]; exact ha),zOF (by simp only [isC,zMz]; exact he),zOY (by simp only [zAg,zMz]; omega),hn,zNn,hi,hn,zNn]
theorem at_pos {l : List Fil} (h : Srtd l) (c r : Int) : (∃ f,l[zIr l c r]? = some f ∧ f.row = r ∧ f.col = c ∧ l.filter (isC c r) = [f]) ∨ (l.filter (isC c r) = [] ∧ ∀ f,l[zIr l c r]? = some f → ¬ (f.row = r ∧ f.col = c)):=by
 have e : l.drop (zIr l c r) = l.filter (isC c r) ++ l.filter (zAg c r):=(drop_pos h c r).trans (zMg h c r)
 have e2 : l[zIr l c r]? = (l.drop (zIr l c r)).head?:=by rw [List.head?_drop]
 rw [e2,e]
 cases hq : l.filter (isC c r) with
 | nil=>
  refine .inr ⟨rfl,fun f hf hh=>?_⟩
  rw [zNn] at hf
  have hm : f ∈ l.filter (zAg c r):=List.mem_of_head? hf
  have:=(zNx.1 hm).2
  simp only [zAg,zMz] at this
  omega
 | cons f t=>
  have hf : f ∈ l.filter (isC c r):=by rw [hq]; simp
  have h1:=(zNx.1 hf).2
  simp only [isC,zMz] at h1
  refine .inl ⟨f,by simp,h1.1,h1.2, ?_⟩
  have hp : Srtd (f :: t):=by rw [← hq]; exact h.filter _
  have ht : t = []:=by
   cases t with
   | nil=>rfl
   | cons g u=>
    have hg : g ∈ l.filter (isC c r):=by rw [hq]; simp
    have h2:=(zNx.1 hg).2
    simp only [isC,zMz] at h2
    have h3:=(zNw.1 hp).1 g (by simp)
    omega
  rw [ht]
theorem withS_srtd {l : List Fil} (h : Srtd l) (c r : Int) (t : Bs) : Srtd (zBj l c r t):=by
 unfold zBj
 refine zPj.2 ⟨zPj.2 ⟨h.filter _, ?_,fun a ha b hb=>?_⟩,h.filter _,fun a ha b hb=>?_⟩
 ·split
  ·exact List.Pairwise.nil
  ·exact List.pairwise_singleton _ _
 ·have h1:=(zNx.1 ha).2
  simp only [aheadC,zMz] at h1
  split at hb
  ·simp at hb
  ·simp only [zN3] at hb
   subst hb
   exact h1
 ·have h2:=(zNx.1 hb).2
  simp only [zAg,zMz] at h2
  rcases zN4.1 ha with ha | ha
  ·have h1:=(zNx.1 ha).2
   simp only [aheadC,zMz] at h1
   omega
  ·split at ha
   ·simp at ha
   ·simp only [zN3] at ha
    subst ha
    exact h2
theorem withS_has {l : List Fil} (h : Srtd l) (c r : Int) {f : Fil} (hf : l[zIr l c r]? = some f) (hr : f.row = r) (hc : f.col = c) (t : Bs) : zBj l c r t = if t = [] then l.eraseIdx (zIr l c r) else l.set (zIr l c r) ⟨c,r,t⟩:=by
 have e : l.drop (zIr l c r) = l.filter (isC c r) ++ l.filter (zAg c r):=(drop_pos h c r).trans (zMg h c r)
 have hq : l.filter (isC c r) = [f]:=by
  rcases at_pos h c r with ⟨g,hg,_,_,h4⟩ | ⟨_,h4⟩
  ·rw [hf] at hg; cases hg; exact h4
  ·exact absurd ⟨hr,hc⟩ (h4 f hf)
 have hlt:=(zg hf).1
 have hd : l.drop (zIr l c r + 1) = l.filter (zAg c r):=by
  rw [hq,zN0 hlt] at e
  simp only [zOQ,zNn,zN5] at e
  exact e.2
 unfold zBj
 rw [← take_pos h c r,← hd]
 split
 ·rw [zN6,zPb]
 ·rw [zPX,zMt hlt,zNm]
  rfl
theorem withS_not {l : List Fil} (h : Srtd l) (c r : Int) (hn : ∀ f,l[zIr l c r]? = some f → ¬ (f.row = r ∧ f.col = c)) (t : Bs) : zBj l c r t = if t = [] then l else l.take (zIr l c r) ++ ⟨c,r,t⟩ :: l.drop (zIr l c r):=by
 have e : l.drop (zIr l c r) = l.filter (isC c r) ++ l.filter (zAg c r):=(drop_pos h c r).trans (zMg h c r)
 have hq : l.filter (isC c r) = []:=by
  rcases at_pos h c r with ⟨g,hg,h1,h2,_⟩ | ⟨h4,_⟩
  ·exact absurd ⟨h1,h2⟩ (hn g hg)
  ·exact h4
 rw [hq,zNn] at e
 unfold zBj
 rw [← take_pos h c r,← e]
 split
 ·rw [zN6,zOO]
 ·rw [zNm]; rfl
end Go.AM
