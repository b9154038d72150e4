/- A text put into a list of cells that stand in order: the plain words. Own work. -/
import Derived.Test.YthpjgjdeogodjaaGreatDoorGGqBe0
set_option linter.all false
namespace Go.AM
theorem cmpC_lt (c1 r1 c2 r2 : Int) : cmpC c1 r1 c2 r2 < 0 ↔ r1 < r2 ∨ (r1 = r2 ∧ c1 < c2):=by
 unfold cmpC cmp3
 repeat' split
 all_goals omega
theorem cmpC_zero (c1 r1 c2 r2 : Int) : cmpC c1 r1 c2 r2 = 0 ↔ r1 = r2 ∧ c1 = c2:=by
 unfold cmpC cmp3
 repeat' split
 all_goals omega
def aheadC (c r : Int) (f : Fil) : Bool:=decide (f.row < r ∨ (f.row = r ∧ f.col < c))
def zBj (c r : Int) (f : Fil) : Bool:=decide (r < f.row ∨ (r = f.row ∧ c < f.col))
def isC (c r : Int) (f : Fil) : Bool:=decide (f.row = r ∧ f.col = c)
theorem lessC_iff (a b : Fil) : zFC a b = true ↔ a.row < b.row ∨ (a.row = b.row ∧ a.col < b.col):=by
 unfold zFC
 rw [decide_eq_true_iff]
 exact cmpC_lt _ _ _ _
def Srtd (l : List Fil) : Prop:=l.Pairwise fun a b=>a.row < b.row ∨ (a.row = b.row ∧ a.col < b.col)
theorem Srtd.nil : Srtd []:=List.Pairwise.nil
theorem srtd_fils : ∀ (l : List Fil) (prev : Option Fil),zFD prev l = 0 → Srtd l ∧ ∀ p,prev = some p → ∀ f ∈ l,p.row < f.row ∨ (p.row = f.row ∧ p.col < f.col):=by
 intro l
 induction l with
 | nil=>intro prev _; exact ⟨List.Pairwise.nil,fun _ _ f hf=>absurd hf (by simp)⟩
 | cons f r ih=>
  intro prev h
  have h0 : filN prev f = 0 ∧ zFD (some f) r = 0:=by
   have e:=filsN_drop (f :: r) 0 f rfl prev
   simp only [List.drop_zero,Nat.zero_add,List.drop_succ_cons] at e
   rw [e] at h
   by_cases h1 : filN prev f = 0
   ·rw [if_pos h1] at h; exact ⟨h1,h⟩
   ·rw [if_neg h1] at h; exact absurd h h1
  obtain ⟨s,hs⟩:=ih (some f) h0.2
  have hp : ∀ p,prev = some p → p.row < f.row ∨ (p.row = f.row ∧ p.col < f.col):=fun p hp=>by
   subst hp
   have h2:=h0.1
   unfold filN at h2
   by_cases h3 : okC f.col f.row = false
   ·rw [if_pos h3] at h2; cases h2
   ·rw [if_neg h3] at h2
    cases h4 : zFC p f with
    | true=>exact (lessC_iff p f).1 h4
    | false=>simp [h4] at h2
  refine ⟨List.Pairwise.cons (fun g hg=>hs f rfl g hg) s,fun p hpp g hg=>?_⟩
  rcases List.mem_cons.1 hg with rfl | hg
  ·exact hp p hpp
  ·have h1:=hp p hpp
   have h2:=hs f rfl g hg
   omega
theorem srtd_check {l : List Fil} (h : zBD l = 0) : Srtd l:=by
 unfold zBD at h
 by_cases h1 : 200 < l.length
 ·rw [if_pos h1] at h; cases h
 ·rw [if_neg h1] at h; exact (srtd_fils l none h).1
def zCC (l : List Fil) (c r : Int) (t : Bs) : List Fil:=l.filter (aheadC c r) ++ (if t = [] then [] else [⟨c,r,t⟩]) ++ l.filter (zBj c r)
def zFo (l : List Fil) (c r : Int) : Nat:=(l.filter (aheadC c r)).length
theorem posC_le (l : List Fil) (c r : Int) : zFo l c r ≤ l.length:=List.length_filter_le _ _
theorem zFk {l : List Fil} (h : Srtd l) (c r : Int) : l = l.filter (aheadC c r) ++ l.filter (fun f=>!aheadC c r f):=by
 induction l with
 | nil=>rfl
 | cons f t ih=>
  obtain ⟨h1,h2⟩:=List.pairwise_cons.1 h
  cases hf : aheadC c r f with
  | true=>
   rw [List.filter_cons_of_pos hf,List.filter_cons_of_neg (by simp [hf]),List.cons_append,← ih h2]
  | false=>
   have hn : t.filter (aheadC c r) = []:=by
    refine List.filter_eq_nil_iff.2 fun g hg=>?_
    have:=h1 g hg
    have h3 : ¬ (f.row < r ∨ (f.row = r ∧ f.col < c)):=by simpa [aheadC] using hf
    simp only [aheadC,decide_eq_true_eq]
    omega
   have ht : t.filter (fun f=>!aheadC c r f) = t:=by
    refine List.filter_eq_self.2 fun g hg=>?_
    have:=List.filter_eq_nil_iff.1 hn g hg
    simpa using this
   rw [List.filter_cons_of_neg (by simp [hf]),List.filter_cons_of_pos (by simp [hf]),hn,ht,List.nil_append]
theorem take_pos {l : List Fil} (h : Srtd l) (c r : Int) : l.take (zFo l c r) = l.filter (aheadC c r):=by
 conv=>lhs; rw [zFk h c r]
 unfold zFo
 rw [zFk h c r]
 simp
theorem drop_pos {l : List Fil} (h : Srtd l) (c r : Int) : l.drop (zFo l c r) = l.filter (fun f=>!aheadC c r f):=by
 have e:=zFk h c r
 have e2 : zFo l c r = (l.filter (aheadC c r)).length:=rfl
 rw [e2]
 conv=>lhs; rw [e]
 rw [List.drop_left' (by rw [← e])]
theorem zJJ {l : List Fil} (h : Srtd l) (c r : Int) : l.filter (fun f=>!aheadC c r f) = l.filter (isC c r) ++ l.filter (zBj c r):=by
 induction l with
 | nil=>rfl
 | cons f t ih=>
  obtain ⟨h1,h2⟩:=List.pairwise_cons.1 h
  have hi:=ih h2
  by_cases ha : f.row < r ∨ (f.row = r ∧ f.col < c)
  ·rw [List.filter_cons_of_neg (by simp [aheadC,ha]),List.filter_cons_of_neg (by simp only [isC,decide_eq_true_eq]; omega),List.filter_cons_of_neg (by simp only [zBj,decide_eq_true_eq]; omega)]
   exact hi
  ·by_cases he : f.row = r ∧ f.col = c
   ·rw [List.filter_cons_of_pos (by simp only [aheadC,Bool.not_eq_true',decide_eq_false_iff_not]; exact ha),List.filter_cons_of_pos (by simp only [isC,decide_eq_true_eq]; exact he),List.filter_cons_of_neg (by simp only [zBj,decide_eq_true_eq]; omega),List.cons_append,← hi]
   ·have hn : t.filter (isC c r) = []:=by
     refine List.filter_eq_nil_iff.2 fun g hg=>?_
     have:=h1 g hg
     simp only [isC,decide_eq_true_eq]
     omega
    rw [List.filter_cons_of_pos (by simp only [aheadC,Bool.not_eq_true',decide_eq_false_iff_not]; exact ha),List.filter_cons_of_neg (by simp only [isC,decide_eq_true_eq]; exact he),List.filter_cons_of_pos (by simp only [zBj,decide_eq_true_eq]; omega),hn,List.nil_append,hi,hn,List.nil_append]
theorem at_pos {l : List Fil} (h : Srtd l) (c r : Int) : (∃ f,l[zFo l c r]? = some f ∧ f.row = r ∧ f.col = c ∧ l.filter (isC c r) = [f]) ∨ (l.filter (isC c r) = [] ∧ ∀ f,l[zFo l c r]? = some f → ¬ (f.row = r ∧ f.col = c)):=by
 have e : l.drop (zFo l c r) = l.filter (isC c r) ++ l.filter (zBj c r):=(drop_pos h c r).trans (zJJ h c r)
 have e2 : l[zFo l c r]? = (l.drop (zFo l c r)).head?:=by rw [List.head?_drop]
 rw [e2,e]
 cases hq : l.filter (isC c r) with
 | nil=>
  refine .inr ⟨rfl,fun f hf hh=>?_⟩
  rw [List.nil_append] at hf
  have hm : f ∈ l.filter (zBj c r):=List.mem_of_head? hf
  have:=(List.mem_filter.1 hm).2
  simp only [zBj,decide_eq_true_eq] at this
  omega
 | cons f t=>
  have hf : f ∈ l.filter (isC c r):=by rw [hq]; simp
  have h1:=(List.mem_filter.1 hf).2
  simp only [isC,decide_eq_true_eq] at h1
  refine .inl ⟨f,by simp,h1.1,h1.2, ?_⟩
  have hp : Srtd (f :: t):=by rw [← hq]; exact h.filter _
  have ht : t = []:=by
   cases t with
   | nil=>rfl
   | cons g u=>
    have hg : g ∈ l.filter (isC c r):=by rw [hq]; simp
    have h2:=(List.mem_filter.1 hg).2
    simp only [isC,decide_eq_true_eq] at h2
    have h3:=(List.pairwise_cons.1 hp).1 g (by simp)
    omega
  rw [ht]
theorem withS_srtd {l : List Fil} (h : Srtd l) (c r : Int) (t : Bs) : Srtd (zCC l c r t):=by
 unfold zCC
 refine List.pairwise_append.2 ⟨List.pairwise_append.2 ⟨h.filter _, ?_,fun a ha b hb=>?_⟩,h.filter _,fun a ha b hb=>?_⟩
 ·split
  ·exact List.Pairwise.nil
  ·exact List.pairwise_singleton _ _
 ·have h1:=(List.mem_filter.1 ha).2
  simp only [aheadC,decide_eq_true_eq] at h1
  split at hb
  ·simp at hb
  ·simp only [List.mem_singleton] at hb
   subst hb
   exact h1
 ·have h2:=(List.mem_filter.1 hb).2
  simp only [zBj,decide_eq_true_eq] at h2
  rcases List.mem_append.1 ha with ha | ha
  ·have h1:=(List.mem_filter.1 ha).2
   simp only [aheadC,decide_eq_true_eq] at h1
   omega
  ·split at ha
   ·simp at ha
   ·simp only [List.mem_singleton] at ha
    subst ha
    exact h2
theorem withS_has {l : List Fil} (h : Srtd l) (c r : Int) {f : Fil} (hf : l[zFo l c r]? = some f) (hr : f.row = r) (hc : f.col = c) (t : Bs) : zCC l c r t = if t = [] then l.eraseIdx (zFo l c r) else l.set (zFo l c r) ⟨c,r,t⟩:=by
 have e : l.drop (zFo l c r) = l.filter (isC c r) ++ l.filter (zBj c r):=(drop_pos h c r).trans (zJJ h c r)
 have hq : l.filter (isC c r) = [f]:=by
  rcases at_pos h c r with ⟨g,hg,_,_,h4⟩ | ⟨_,h4⟩
  ·rw [hf] at hg; cases hg; exact h4
  ·exact absurd ⟨hr,hc⟩ (h4 f hf)
 have hlt:=(zg hf).1
 have hd : l.drop (zFo l c r + 1) = l.filter (zBj c r):=by
  rw [hq,List.drop_eq_getElem_cons hlt] at e
  simp only [List.cons_append,List.nil_append,List.cons.injEq] at e
  exact e.2
 unfold zCC
 rw [← take_pos h c r,← hd]
 split
 ·rw [List.append_nil,List.eraseIdx_eq_take_drop_succ]
 ·rw [List.set_eq_take_append_cons_drop,if_pos hlt,List.append_assoc]
  rfl
theorem withS_not {l : List Fil} (h : Srtd l) (c r : Int) (hn : ∀ f,l[zFo l c r]? = some f → ¬ (f.row = r ∧ f.col = c)) (t : Bs) : zCC l c r t = if t = [] then l else l.take (zFo l c r) ++ ⟨c,r,t⟩ :: l.drop (zFo l c r):=by
 have e : l.drop (zFo l c r) = l.filter (isC c r) ++ l.filter (zBj c r):=(drop_pos h c r).trans (zJJ h c r)
 have hq : l.filter (isC c r) = []:=by
  rcases at_pos h c r with ⟨g,hg,h1,h2,_⟩ | ⟨h4,_⟩
  ·exact absurd ⟨h1,h2⟩ (hn g hg)
  ·exact h4
 rw [hq,List.nil_append] at e
 unfold zCC
 rw [← take_pos h c r,← e]
 split
 ·rw [List.append_nil,List.take_append_drop]
 ·rw [List.append_assoc]; rfl
end Go.AM
