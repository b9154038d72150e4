/- Several texts of mine in one (Mg0, Mg1, Mgc, Mg2, Opv). Own work. -/
import Derived.Test.YtmmbcogejaofpaaGreatDoorGSshGds
import Derived.Test.YtmmbcogejaofpaaGreatDoorProg
import Derived.WalkKit
import Derived.Handy
import Derived.Sort.WalkC4
import Derived.StillTailTactics
import Derived.Sort.Grow
import Derived.Test.YtmmbcogejaofpaaGreatDoorGAm33Wt0
set_option linter.all false
namespace Go.AM
def zA1 (f : Fil) : Int × Int:=(f.col,f.row)
def zS (l : List Fil) (p : Int × Int) : Bs:=match l with
 | []=>[]
 | f :: r=>if p = zA1 f then f.text else zS r p
theorem zGL (f : Fil) (r : List Fil) (p : Int × Int) : zS (f :: r) p = if p = zA1 f then f.text else zS r p:=rfl
def ltK (p q : Int × Int) : Prop:=p.2 < q.2 ∨ (p.2 = q.2 ∧ p.1 < q.1)
theorem zFn (p : Int × Int) : ¬ ltK p p:=by unfold ltK; omega
theorem ltK_trans {p q r : Int × Int} (h : ltK p q) (k : ltK q r) : ltK p r:=by unfold ltK at *; omega
def Asc (l : List (Int × Int)) : Prop:=l.Pairwise ltK
theorem zHc : ∀ {a b : List (Int × Int)},Asc a → Asc b → (∀ p,p ∈ a ↔ p ∈ b) → a = b
 | [],[],_,_,_=>rfl
 | [],q :: b,_,_,h=>absurd ((h q).2 (by simp)) (by simp)
 | p :: a,[],_,_,h=>absurd ((h p).1 (by simp)) (by simp)
 | p :: a,q :: b,ha,hb,h=>by
  have ha':=List.pairwise_cons.1 ha
  have hb':=List.pairwise_cons.1 hb
  have e : p = q:=by
   have h1:=(h p).1 (by simp)
   have h2:=(h q).2 (by simp)
   rcases List.mem_cons.1 h1 with h1 | h1
   ·exact h1
   ·rcases List.mem_cons.1 h2 with h2 | h2
    ·exact h2.symm
    ·exact absurd (ltK_trans (ha'.1 q h2) (hb'.1 p h1)) (zFn p)
  subst e
  rw [zHc ha'.2 hb'.2 fun r=>?_]
  constructor
  ·intro hr
   rcases List.mem_cons.1 ((h r).1 (List.mem_cons_of_mem _ hr)) with rfl | h2
   ·exact absurd (ha'.1 r hr) (zFn r)
   ·exact h2
  ·intro hr
   rcases List.mem_cons.1 ((h r).2 (List.mem_cons_of_mem _ hr)) with rfl | h2
   ·exact absurd (hb'.1 r hr) (zFn r)
   ·exact h2
theorem zJh {l : List Fil} (h : Srtd l) : Asc (l.map zA1):=List.pairwise_map.2 (h.imp fun {a b} k=>k)
theorem zCq {l : List Fil} (h : Srtd l) {f : Fil} (hf : f ∈ l) : zS l (zA1 f) = f.text:=by
 induction l with
 | nil=>cases hf
 | cons g r ih=>
  have hp:=List.pairwise_cons.1 h
  unfold zS
  rcases List.mem_cons.1 hf with rfl | hf
  ·rw [if_pos rfl]
  ·have : zA1 f ≠ zA1 g:=fun e=>by
    have:=hp.1 f hf
    have e1 : f.col = g.col:=congrArg Prod.fst e
    have e2 : f.row = g.row:=congrArg Prod.snd e
    omega
   rw [if_neg this]
   exact ih hp.2 hf
theorem zCF {l : List Fil} {p : Int × Int} (h : p ∉ l.map zA1) : zS l p = []:=by
 induction l with
 | nil=>rfl
 | cons g r ih=>
  simp only [List.map_cons,List.mem_cons,not_or] at h
  unfold zS
  rw [if_neg h.1]
  exact ih h.2
theorem zEr {l : List Fil} {p : Int × Int} (h : zS l p ≠ []) : p ∈ l.map zA1:=Classical.byContradiction fun k=>h (zCF k)
theorem zHC {a b : List Fil} (ha : Srtd a) (hb : Srtd b) (ha1 : ∀ f ∈ a,f.text ≠ []) (hb1 : ∀ f ∈ b,f.text ≠ []) (h : ∀ p,zS a p = zS b p) : a = b:=by
 have sub : ∀ {a b : List Fil},Srtd a → Srtd b → (∀ f ∈ a,f.text ≠ []) → (∀ p,zS a p = zS b p) → ∀ p,p ∈ a.map zA1 → p ∈ b.map zA1:=fun {a b} ha hb ha1 h p hp=>by
  obtain ⟨f,hf,rfl⟩:=List.mem_map.1 hp
  exact zEr (by rw [← h,zCq ha hf]; exact ha1 f hf)
 have ek : a.map zA1 = b.map zA1:=zHc (zJh ha) (zJh hb) fun p=>⟨sub ha hb ha1 h p,sub hb ha hb1 (fun p=>(h p).symm) p⟩
 have rb : ∀ {a : List Fil},Srtd a → a = (a.map zA1).map fun p=>(⟨p.1,p.2,zS a p⟩ : Fil):=fun {a} ha=>by
  rw [List.map_map]
  conv=>lhs; rw [← List.map_id a]
  refine List.map_congr_left fun f hf=>?_
  simp only [Function.comp,id]
  rw [zCq ha hf]
  rfl
 rw [rb ha,rb hb,ek]
 exact List.map_congr_left fun p _=>by rw [h]
theorem mfind_no {p : Int × Int} : ∀ {ks : List (Int × Int)},p ∉ ks → mfind p ks = none
 | [],_=>rfl
 | x :: ks,h=>by
  simp only [List.mem_cons,not_or] at h
  unfold mfind
  rw [if_neg h.1,mfind_no h.2]
  rfl
def txV (f : Fil) : AV:=.str f.text
theorem mget_text (l : List Fil) (p : Int × Int) : (match mfind p (l.map zA1) with
  | some i=>((l.map txV)[i]?).map fun v=>if false then AV.tup [v,.bool true] else v
  | none=>some (if false then AV.tup [.str [],.bool false] else .str [])) = some (.str (zS l p)):=by
 induction l with
 | nil=>rfl
 | cons f r ih=>
  simp only [List.map_cons,mfind,zS]
  by_cases h : p = zA1 f
  ·rw [if_pos h,if_pos h]; rfl
  ·rw [if_neg h,if_neg h]
   cases hm : mfind p (r.map zA1) with
   | none=>rw [hm] at ih; exact ih
   | some i=>rw [hm] at ih; exact ih
theorem zEU {H : Heap} {m : AV} {l : List Fil} (hm : mview H m = some (l.map zA1,l.map txV)) (c r : Int) : zIV H (.str []) false m (zAu c r) = some (.str (zS l (c,r))):=by
 have e : keyAV (zAu c r) = some (c,r):=rfl
 unfold zIV
 rw [hm]
 simp only [e]
 exact mget_text l (c,r)
theorem mput_new {l : List Fil} {f : Fil} (h : Srtd (l ++ [f])) : mput (zA1 f) (txV f) (l.map zA1) (l.map txV) = ((l ++ [f]).map zA1,(l ++ [f]).map txV):=by
 have hp:=List.pairwise_append.1 h
 have hn : zA1 f ∉ l.map zA1:=fun hm=>by
  obtain ⟨g,hg,e⟩:=List.mem_map.1 hm
  have:=hp.2.2 g hg f (by simp)
  have e1 : g.col = f.col:=congrArg Prod.fst e
  have e2 : g.row = f.row:=congrArg Prod.snd e
  omega
 unfold mput
 rw [mfind_no hn]
 simp
def zDG (a b : List Fil) (cs : List (Int × Int)) : List Fil:=(cs.filter fun p=>decide (zS a p ≠ zS b p)).map fun p=>⟨p.1,p.2,zS b p⟩
def zCr (ls : List (List Fil)) (cs : List (Int × Int)) : Prop:=Asc cs ∧ ∀ p,p ∈ cs ↔ ∃ l ∈ ls,p ∈ l.map zA1
theorem zHy (a b : List Fil) (p : Int × Int) : ∀ {cs : List (Int × Int)},Asc cs → zS (zDG a b cs) p = if p ∈ cs ∧ zS a p ≠ zS b p then zS b p else []
 | [],_=>by simp [zDG,zS]
 | q :: cs,h=>by
  have hp:=List.pairwise_cons.1 h
  have ih:=zHy a b p hp.2
  unfold zDG at ih ⊢
  rw [List.filter_cons]
  by_cases hq : zS a q ≠ zS b q
  ·rw [if_pos (by simpa using hq),List.map_cons]
   rw [zGL]
   by_cases e : p = q
   ·subst e
    rw [if_pos (show p = zA1 ⟨p.1,p.2,zS b p⟩ from rfl),if_pos ⟨by simp,hq⟩]
   ·rw [if_neg (show ¬ p = zA1 ⟨q.1,q.2,zS b q⟩ from e)]
    refine ih.trans ?_
    simp [e]
  ·rw [if_neg (by simpa using hq)]
   refine ih.trans ?_
   by_cases e : p = q
   ·subst e
    rw [if_neg fun k=>hq k.2,if_neg fun k=>hq k.2]
   ·simp [e]
theorem diffK_srtd (a b : List Fil) {cs : List (Int × Int)} (h : Asc cs) : Srtd (zDG a b cs):=by
 unfold zDG
 refine List.pairwise_map.2 ((h.filter _).imp fun {p q} k=>k)
end Go.AM
namespace Go.AM
theorem zJi {l : List Fil} (h : Srtd l) {p : Int × Int} {t : Bs} (hm : ∃ f ∈ l,zA1 f = p ∧ f.text = t) : zS l p = t:=by
 obtain ⟨f,hf,rfl,rfl⟩:=hm
 exact zCq h hf
theorem textAt_withS {l : List Fil} (h : Srtd l) (c r : Int) (t : Bs) (p : Int × Int) : zS (zCN l c r t) p = if p = (c,r) then t else zS l p:=by
 have hs:=withS_srtd h c r t
 have memF : ∀ {f : Fil},f ∈ l → zA1 f ≠ (c,r) → f ∈ zCN l c r t:=fun {f} hf hne=>by
  have hc : f.row < r ∨ (f.row = r ∧ f.col < c) ∨ (r < f.row ∨ (r = f.row ∧ c < f.col)):=by
   have : ¬ (f.col = c ∧ f.row = r):=fun e=>hne (Prod.ext e.1 e.2)
   omega
  unfold zCN
  simp only [List.mem_append,List.mem_filter,aheadC,zB2,decide_eq_true_eq]
  rcases hc with h | h | h
  ·exact .inl (.inl ⟨hf,.inl h⟩)
  ·exact .inl (.inl ⟨hf,.inr h⟩)
  ·exact .inr ⟨hf,h⟩
 have memB : ∀ {f : Fil},f ∈ zCN l c r t → (f ∈ l ∧ zA1 f ≠ (c,r)) ∨ (f = ⟨c,r,t⟩ ∧ t ≠ []):=fun {f} hf=>by
  unfold zCN at hf
  simp only [List.mem_append,List.mem_filter,aheadC,zB2,decide_eq_true_eq] at hf
  rcases hf with (⟨h1,h2⟩ | h) | ⟨h1,h2⟩
  ·refine .inl ⟨h1,fun e=>?_⟩
   have e1 : f.col = c:=congrArg Prod.fst e
   have e2 : f.row = r:=congrArg Prod.snd e
   omega
  ·by_cases ht : t = []
   ·rw [if_pos ht] at h; simp at h
   ·rw [if_neg ht] at h; exact .inr ⟨by simpa using h,ht⟩
  ·refine .inl ⟨h1,fun e=>?_⟩
   have e1 : f.col = c:=congrArg Prod.fst e
   have e2 : f.row = r:=congrArg Prod.snd e
   omega
 by_cases e : p = (c,r)
 ·rw [if_pos e]
  subst e
  by_cases ht : t = []
  ·rw [ht]
   refine zCF fun hm=>?_
   obtain ⟨f,hf,he⟩:=List.mem_map.1 hm
   rw [← ht] at hf
   rcases memB hf with ⟨_,h2⟩ | ⟨_,h2⟩
   ·exact h2 he
   ·exact h2 ht
  ·refine zJi hs ⟨⟨c,r,t⟩, ?_,rfl,rfl⟩
   unfold zCN
   rw [if_neg ht]
   simp
 ·rw [if_neg e]
  by_cases hm : p ∈ l.map zA1
  ·obtain ⟨f,hf,rfl⟩:=List.mem_map.1 hm
   rw [zCq h hf]
   exact zJi hs ⟨f,memF hf e,rfl,rfl⟩
  ·rw [zCF hm]
   refine zCF fun hm2=>?_
   obtain ⟨f,hf,he⟩:=List.mem_map.1 hm2
   rcases memB hf with ⟨h1,_⟩ | ⟨rfl,_⟩
   ·exact hm (List.mem_map.2 ⟨f,h1,he⟩)
   ·exact e he.symm
def zCA (l d : List Fil) : List Fil:=d.foldl (fun l f=>zCN l f.col f.row f.text) l
theorem foldW_snoc (l d : List Fil) (f : Fil) : zCA l (d ++ [f]) = zCN (zCA l d) f.col f.row f.text:=by simp [zCA]
theorem zHd : ∀ (d l : List Fil),Srtd l → (∀ f ∈ l,f.text ≠ []) → Srtd (zCA l d) ∧ (∀ f ∈ zCA l d,f.text ≠ []) ∧ (Srtd d → ∀ p,zS (zCA l d) p = if p ∈ d.map zA1 then zS d p else zS l p)
 | [],l,h,hn=>⟨h,hn,fun _ p=>by simp [zCA]⟩
 | g :: d,l,h,hn=>by
  have hs:=withS_srtd h g.col g.row g.text
  have hn2 : ∀ f ∈ zCN l g.col g.row g.text,f.text ≠ []:=fun f hf=>by
   rcases withS_mem hf with h | ⟨rfl,h⟩
   ·exact hn f h
   ·exact h
  obtain ⟨h1,h2,h3⟩:=zHd d _ hs hn2
  refine ⟨h1,h2,fun hd p=>?_⟩
  have hp:=List.pairwise_cons.1 hd
  refine (h3 hp.2 p).trans ?_
  by_cases hm : p ∈ d.map zA1
  ·rw [if_pos hm,if_pos (by simp only [List.map_cons,List.mem_cons]; exact .inr hm)]
   rw [zGL,if_neg]
   intro e
   subst e
   obtain ⟨f,hf,he⟩:=List.mem_map.1 hm
   have:=hp.1 f hf
   have e1 : f.col = g.col:=congrArg Prod.fst he
   have e2 : f.row = g.row:=congrArg Prod.snd he
   omega
  ·rw [if_neg hm,textAt_withS h,show ((g.col,g.row) : Int × Int) = zA1 g from rfl]
   by_cases e : p = zA1 g
   ·rw [if_pos e,if_pos (by simp [e])]
    rw [zGL,if_pos e]
   ·rw [if_neg e,if_neg (by simp only [List.map_cons,List.mem_cons,not_or]; exact ⟨e,hm⟩)]
theorem diff_done {a b : List Fil} {cs : List (Int × Int)} (ha : Goods a) (hb : Goods b) (hc : zCr [a,b] cs) : zCA a (zDG a b cs) = b:=by
 obtain ⟨h1,h2,h3⟩:=zHd (zDG a b cs) a ha.srt fun f hf=>(ha.each f hf).2
 refine zHC h1 hb.srt h2 (fun f hf=>(hb.each f hf).2) fun p=>?_
 rw [h3 (diffK_srtd a b hc.1) p]
 have hk : p ∈ (zDG a b cs).map zA1 ↔ p ∈ cs ∧ zS a p ≠ zS b p:=by
  unfold zDG
  rw [List.map_map]
  constructor
  ·intro h
   obtain ⟨q,hq,e⟩:=List.mem_map.1 h
   have e : q = p:=e
   subst e
   obtain ⟨h1,h2⟩:=List.mem_filter.1 hq
   exact ⟨h1,by simpa using h2⟩
  ·rintro ⟨h1,h2⟩
   exact List.mem_map.2 ⟨p,List.mem_filter.2 ⟨h1,by simpa using h2⟩,rfl⟩
 by_cases hm : p ∈ (zDG a b cs).map zA1
 ·rw [if_pos hm,zHy a b p hc.1,if_pos (hk.1 hm)]
 ·rw [if_neg hm]
  by_cases hc2 : p ∈ cs
  ·exact Classical.byContradiction fun h=>hm (hk.2 ⟨hc2,h⟩)
  ·have h4 : ∀ l ∈ [a,b],p ∉ l.map zA1:=fun l hl hpl=>hc2 ((hc.2 p).2 ⟨l,hl,hpl⟩)
   rw [zCF (h4 a (by simp)),zCF (h4 b (by simp))]
def leK (p q : Int × Int) : Bool:=decide (p.2 < q.2 ∨ (p.2 = q.2 ∧ p.1 ≤ q.1))
def zCO (l : List (Int × Int)) : List (Int × Int):=l.mergeSort leK
def zT : List (Int × Int) → List (Int × Int)
 | []=>[]
 | [x]=>[x]
 | x :: y :: r=>if x = y then zT (y :: r) else x :: zT (y :: r)
theorem leK_trans (p q r : Int × Int) (h : leK p q = true) (k : leK q r = true) : leK p r = true:=by unfold leK at *; simp only [decide_eq_true_eq] at *; omega
theorem leK_total (p q : Int × Int) : (leK p q || leK q p) = true:=by unfold leK; simp only [Bool.or_eq_true,decide_eq_true_eq]; omega
theorem leK_anti {p q : Int × Int} (h : leK p q = true) (k : leK q p = true) : p = q:=by
 unfold leK at *
 simp only [decide_eq_true_eq] at *
 exact Prod.ext tO tO
theorem zDI (l : List (Int × Int)) : (zCO l).Perm l:=List.mergeSort_perm l leK
theorem sortK_asc (l : List (Int × Int)) : (zCO l).Pairwise fun a b=>leK a b = true:=List.pairwise_mergeSort leK_trans leK_total l
theorem zCS : ∀ (l : List (Int × Int)) (p : Int × Int),p ∈ zT l ↔ p ∈ l
 | [],p=>by simp [zT]
 | [x],p=>by simp [zT]
 | x :: y :: r,p=>by
  unfold zT
  by_cases e : x = y
  ·rw [if_pos e,zCS (y :: r) p,e]; simp
  ·rw [if_neg e,List.mem_cons,zCS (y :: r) p,← List.mem_cons]
theorem zHz : ∀ (l : List (Int × Int)),(l.Pairwise fun a b=>leK a b = true) → Asc (zT l)
 | [],_=>List.Pairwise.nil
 | [x],_=>List.pairwise_singleton _ _
 | x :: y :: r,h=>by
  have hp:=List.pairwise_cons.1 h
  have ih:=zHz (y :: r) hp.2
  unfold zT
  by_cases e : x = y
  ·rw [if_pos e]; exact ih
  ·rw [if_neg e]
   refine List.pairwise_cons.2 ⟨fun q hq=>?_,ih⟩
   have hq:=(zCS _ _).1 hq
   have h1:=hp.1 q hq
   have hne : x ≠ q:=fun ee=>by
    subst ee
    have h2:=hp.1 y (by simp)
    rcases List.mem_cons.1 hq with h3 | h3
    ·exact e h3
    ·exact e (leK_anti h2 ((List.pairwise_cons.1 hp.2).1 x h3))
   unfold leK at h1
   simp only [decide_eq_true_eq] at h1
   have : ¬ (x.1 = q.1 ∧ x.2 = q.2):=fun k=>hne (Prod.ext k.1 k.2)
   unfold ltK
   omega
def zA5 (ls : List (List Fil)) : List (Int × Int):=zT (zCO (ls.flatMap fun l=>l.map zA1))
theorem zAM (ls : List (List Fil)) : zCr ls (zA5 ls):=by
 refine ⟨zHz _ (sortK_asc _),fun p=>?_⟩
 unfold zA5
 rw [zCS,(zDI _).mem_iff,List.mem_flatMap]
theorem sortK_eq {a l : List (Int × Int)} (hp : a.Perm l) (hs : a.Pairwise fun p q=>leK p q = true) : a = zCO l:=
 List.Perm.eq_of_pairwise (fun p q _ _ h k=>leK_anti h k) hs (sortK_asc l) (hp.trans (zDI l).symm)
theorem zHD : ∀ (l : List (Int × Int)) (x y : Int × Int),zT (l ++ [x,y]) = if x = y then zT (l ++ [x]) else zT (l ++ [x]) ++ [y]
 | [],x,y=>by
  show zT [x,y] = _
  unfold zT
  by_cases e : x = y
  ·rw [if_pos e,if_pos e]; simp [zT,e]
  ·rw [if_neg e,if_neg e]; simp [zT]
 | [z],x,y=>by
  show zT [z,x,y] = if x = y then zT [z,x] else zT [z,x] ++ [y]
  have e3 : ∀ p q : Int × Int,zT [p,q] = if p = q then [q] else [p,q]:=fun p q=>by simp [zT]
  rw [show zT [z,x,y] = if z = x then zT [x,y] else z :: zT [x,y] from zT.eq_3 z x [y],e3,e3]
  by_cases e : x = y <;> by_cases e2 : z = x <;> simp [e,e2]
 | z :: w :: l,x,y=>by
  have ih:=zHD (w :: l) x y
  show zT (z :: w :: (l ++ [x,y])) = if x = y then zT (z :: w :: (l ++ [x])) else zT (z :: w :: (l ++ [x])) ++ [y]
  rw [zT.eq_3,zT.eq_3]
  have ih : zT (w :: (l ++ [x,y])) = if x = y then zT (w :: (l ++ [x])) else zT (w :: (l ++ [x])) ++ [y]:=ih
  rw [ih]
  by_cases e : x = y <;> by_cases e2 : z = w <;> simp [e,e2]
end Go.AM
set_option maxRecDepth 100000
namespace Go.Proofs.YtmmbcogejaofpaaGreatDoor
open Go.AM Go.RowKit Go.Proofs Go.Sort Go.Lib
theorem nan_calls (x : Int) (W : World) : Calls Tryz.prog 67 #[.int .i64 x] W fun e w'=>e = .returned (.bool false) ∧ w' = W:=by
 go_enter Tryz.func67,Tryz.ntmps67
 go_wp2
 go_ret
 exact ⟨by simp,rfl⟩
set_option maxHeartbeats 1000000 in
theorem ccmp_calls (x y : Int) (W : World) : Calls Tryz.prog 44 #[.int .i64 x,.int .i64 y] W fun e w'=>e = .returned (.int .i64 (cmp3 x y)) ∧ w' = W:=by
 have hcon:=fun (x : Int) W'=>nan_calls x W'
 go_enter Tryz.func44,Tryz.ntmps44
 go_wp2_with (go_at_call 67; refine (hcon _ _).mono ?_; rintro e w' ⟨rfl,rfl⟩)
 all_goals (go_ret; refine ⟨?_,rfl⟩; unfold cmp3; (repeat' split) <;> first | rfl | (exfalso; omega))
set_option maxHeartbeats 1000000 in
theorem cor_calls (blk : Nat) (x y : Int) (W : World) (h0 : W.cell? ⟨blk,0,none⟩ = some (.int .i64 x)) (h1 : W.cell? ⟨blk,1,none⟩ = some (.int .i64 y)) :
  Calls Tryz.prog 43 #[.slice (some ⟨blk,0,none⟩) 2 2] W fun e w'=>e = .returned (.int .i64 (if x ≠ 0 then x else y)) ∧ w' = W:=by
 by_cases hx : x = 0 <;> by_cases hy : y = 0
 all_goals
  go_enter Tryz.func43,Tryz.ntmps43
  go_wp2
  go_rounds 3
  all_goals (try go_ret)
 all_goals first | (exfalso; omega) | (refine ⟨?_,rfl⟩; simp [hx,hy]; done) | (refine ⟨?_,rfl⟩; simp [hx]; done)
theorem two_cells (W : World) (a b c d : Value) (t : TypeId) (n : Nat) (W3 : World) (h : ({ (W.alloc (.cells #[a,b] t)).alloc (.cells #[c,d] t) with drawn:=n } : World) = W3) :
  W3.cell? ⟨W.heap.size,0,none⟩ = some a ∧ W3.cell? ⟨W.heap.size,1,none⟩ = some b ∧ W3.cell? ⟨W.heap.size + 1,0,none⟩ = some c ∧ W3.cell? ⟨W.heap.size + 1,1,none⟩ = some d:=by
 have hh : W3.heap = (W.heap.push (.cells #[a,b] t)).push (.cells #[c,d] t):=by rw [← h]; rfl
 have g0 : W3.heap[W.heap.size]? = some (.cells #[a,b] t):=by rw [hh,Array.getElem?_push,Array.size_push,if_neg tO,Array.getElem?_push,if_pos rfl]
 have g1 : W3.heap[W.heap.size + 1]? = some (.cells #[c,d] t):=by rw [hh,Array.getElem?_push,Array.size_push,if_pos rfl]
 refine ⟨?_, ?_, ?_, ?_⟩
 ·simp only [World.cell?,g0]; rfl
 ·simp only [World.cell?,g0]; rfl
 ·simp only [World.cell?,g1]; rfl
 ·simp only [World.cell?,g1]; rfl
theorem new_cells (W : World) (a b : Value) (t : TypeId) : (W.alloc (.cells #[a,b] t)).cell? ⟨W.heap.size,0,none⟩ = some a ∧ (W.alloc (.cells #[a,b] t)).cell? ⟨W.heap.size,1,none⟩ = some b:=by
 have hh : (W.alloc (.cells #[a,b] t)).heap = W.heap.push (.cells #[a,b] t):=rfl
 have g0 : (W.alloc (.cells #[a,b] t)).heap[W.heap.size]? = some (.cells #[a,b] t):=by rw [hh,Array.getElem?_push,if_pos rfl]
 refine ⟨?_, ?_⟩
 ·simp only [World.cell?,g0]; rfl
 ·simp only [World.cell?,g0]; rfl
theorem three_grow (W : World) (A B X : Obj) : ({ (W.alloc A).alloc B with drawn:=((W.alloc A).alloc B).drawn + 1 } : World).alloc X = grow (W.drewN 1) #[A,B,X]:=by
 have : ((W.heap.push A).push B).push X = W.heap ++ #[A,B,X]:=by apply Array.ext'; simp only [Array.toList_push,Array.toList_append,List.append_assoc,List.cons_append,List.nil_append]
 unfold World.alloc grow World.drewN
 simp only [this]
set_option maxHeartbeats 2000000 in
theorem acmp_calls (x y : Int × Int) (W : World) : Calls Tryz.prog 28 #[.agg #[.int .i64 x.1,.int .i64 x.2],.agg #[.int .i64 y.1,.int .i64 y.2]] W fun e w'=>e = .returned (.int .i64 (cmpC x.1 x.2 y.1 y.2)) ∧ ∃ q os',w' = grow (W.drewN q) os':=by
 have hcon:=fun (x y : Int) W'=>ccmp_calls x y W'
 go_enter Tryz.func28,Tryz.ntmps28
 go_wp2_with (first | (go_at_call 44; refine (hcon _ _ _).mono ?_; rintro e w' ⟨rfl,rfl⟩))
 obtain ⟨W2,hW2⟩ : ∃ W2,(W.alloc (.cells #[.int .i64 x.1,.int .i64 x.2] 34)).alloc (.cells #[.int .i64 y.1,.int .i64 y.2] 34) = W2:=⟨_,rfl⟩
 rw [hW2]
 refine wp_region_still_tail 10 (by kernel_rfl) (by kernel_rfl) ?_
 simp only [List.take_succ_cons,List.take_zero,List.drop_succ_cons,List.drop_zero]
 obtain ⟨W3,hW3⟩ : ∃ W3,({ W2 with drawn:=W2.drawn + 1 } : World) = W3:=⟨_,rfl⟩
 rw [hW3]
 obtain ⟨x0,x1,y0,y1⟩:=two_cells W _ _ _ _ _ _ W3 (by rw [← hW3,← hW2])
 still_step; still_step; still_step; still_step
 still_call (hcon x.2 y.2 _)
 still_step; still_step; still_step; still_step
 still_call (hcon x.1 y.1 _)
 refine wpStill_nil ?_
 have hor:=fun (a b : Int) (t : TypeId)=>cor_calls W3.heap.size a b (W3.alloc (.cells #[.int .i64 a,.int .i64 b] t)) (new_cells W3 _ _ t).1 (new_cells W3 _ _ t).2
 go_wp2_with (first | (go_at_call 43; refine (hor _ _ _).mono ?_; rintro e w' ⟨rfl,rfl⟩))
 all_goals
  go_ret
  rw [← hW3,← hW2,three_grow]
  refine ⟨?_,1,_,rfl⟩
  unfold cmpC
  simp_all
end Go.Proofs.YtmmbcogejaofpaaGreatDoor
namespace Go.AM
def txT (w a b : List Fil) (p : Int × Int) : Bs:=if zS a p = zS w p then zS b p else zS a p
def zAN (w a b : List Fil) (cs : List (Int × Int)) : List Fil:=(cs.filter fun p=>decide (txT w a b p ≠ [])).map fun p=>⟨p.1,p.2,txT w a b p⟩
def zIH (w a b : List Fil) (p : Int × Int) : Prop:=zS a p ≠ zS w p ∧ zS b p ≠ zS w p ∧ zS a p ≠ zS b p
instance (w a b : List Fil) (p : Int × Int) : Decidable (zIH w a b p):=by unfold zIH; infer_instance
def zB3 (w a b : List Fil) (cs : List (Int × Int)) : List (Int × Int):=cs.filter fun p=>decide (zIH w a b p)
theorem zDV (w a b : List Fil) {cs : List (Int × Int)} (h : Asc cs) : Srtd (zAN w a b cs):=by
 unfold zAN
 exact List.pairwise_map.2 ((h.filter _).imp fun {p q} k=>k)
theorem zHE (w a b : List Fil) (cs : List (Int × Int)) : ∀ f ∈ zAN w a b cs,f.text ≠ []:=fun f hf=>by
 obtain ⟨p,hp,rfl⟩:=List.mem_map.1 hf
 simpa using (List.mem_filter.1 hp).2
theorem zCg {ls : List (List Fil)} {cs : List (Int × Int)} (hc : zCr ls cs) {p : Int × Int} (h : p ∉ cs) {l : List Fil} (hl : l ∈ ls) : zS l p = []:=zCF fun k=>h ((hc.2 p).2 ⟨l,hl,k⟩)
theorem zBi {w a b : List Fil} {cs : List (Int × Int)} (hc : zCr [w,a,b] cs) (p : Int × Int) : zS (zAN w a b cs) p = txT w a b p:=by
 by_cases hm : p ∈ cs ∧ txT w a b p ≠ []
 ·exact zJi (zDV w a b hc.1) ⟨⟨p.1,p.2,txT w a b p⟩,List.mem_map.2 ⟨p,List.mem_filter.2 ⟨hm.1,by simpa using hm.2⟩,rfl⟩,rfl,rfl⟩
 ·have e : txT w a b p = []:=by
   by_cases h : p ∈ cs
   ·exact Classical.byContradiction fun k=>hm ⟨h,k⟩
   ·unfold txT
    rw [zCg hc h (l:=w) (by simp),zCg hc h (l:=a) (by simp),zCg hc h (l:=b) (by simp)]
    simp
  rw [e]
  refine zCF fun k=>?_
  obtain ⟨f,hf,rfl⟩:=List.mem_map.1 k
  obtain ⟨q,hq,rfl⟩:=List.mem_map.1 hf
  obtain ⟨h1,h2⟩:=List.mem_filter.1 hq
  have h2 : txT w a b q ≠ []:=by simpa using h2
  exact h2 e
theorem three_one {w b : List Fil} {cs : List (Int × Int)} (hb : Goods b) (hc : zCr [w,w,b] cs) : zAN w w b cs = b ∧ zB3 w w b cs = []:=by
 refine ⟨zHC (zDV _ _ _ hc.1) hb.srt (zHE _ _ _ _) (fun f hf=>(hb.each f hf).2) fun p=>?_, ?_⟩
 ·rw [zBi hc]; unfold txT; rw [if_pos rfl]
 ·unfold zB3
  exact List.filter_eq_nil_iff.2 fun p _=>by simp [zIH]
theorem three_both {w a : List Fil} {cs : List (Int × Int)} (ha : Goods a) (hc : zCr [w,a,a] cs) : zAN w a a cs = a ∧ zB3 w a a cs = []:=by
 refine ⟨zHC (zDV _ _ _ hc.1) ha.srt (zHE _ _ _ _) (fun f hf=>(ha.each f hf).2) fun p=>?_, ?_⟩
 ·rw [zBi hc]; unfold txT; split <;> rfl
 ·unfold zB3
  exact List.filter_eq_nil_iff.2 fun p _=>by simp [zIH]
theorem each_text {l : List Fil} (h : Goods l) {p : Int × Int} (ht : zS l p ≠ []) : mayN ⟨p.1,p.2,zS l p⟩ = 0:=by
 obtain ⟨f,hf,rfl⟩:=List.mem_map.1 (zEr ht)
 rw [zCq h.srt hf]
 exact (h.each f hf).1
theorem zBd {w a b : List Fil} {cs : List (Int × Int)} (hc : zCr [w,a,b] cs) (ha : Goods a) (hb : Goods b) (hl : (zAN w a b cs).length ≤ 200) : Goods (zAN w a b cs):=by
 refine ⟨zDV w a b hc.1,hl,fun f hf=>⟨?_,zHE w a b cs f hf⟩⟩
 obtain ⟨p,hp,rfl⟩:=List.mem_map.1 hf
 have hne : txT w a b p ≠ []:=by simpa using (List.mem_filter.1 hp).2
 unfold txT at hne ⊢
 by_cases h : zS a p = zS w p
 ·rw [if_pos h] at hne ⊢; exact each_text hb hne
 ·rw [if_neg h] at hne ⊢; exact each_text ha hne
theorem tx_diff (w a b : List Fil) (p : Int × Int) : txT w a b p ≠ txT w b a p ↔ zIH w a b p:=by
 unfold txT zIH
 by_cases h1 : zS a p = zS w p <;> by_cases h2 : zS b p = zS w p
 ·simp [h1,h2]
 ·simp [h1,h2]
 ·simp [h1,h2]
 ·simp [h1,h2]
theorem cells_perm {w a b : List Fil} {c1 c2 : List (Int × Int)} (h1 : zCr [w,a,b] c1) (h2 : zCr [w,b,a] c2) : c1 = c2:=by
 refine zHc h1.1 h2.1 fun p=>?_
 rw [h1.2,h2.2]
 simp only [List.mem_cons,List.not_mem_nil,or_false]
 constructor
 ·rintro ⟨l,rfl | rfl | rfl,h⟩
  ·exact ⟨_,.inl rfl,h⟩
  ·exact ⟨_,.inr (.inr rfl),h⟩
  ·exact ⟨_,.inr (.inl rfl),h⟩
 ·rintro ⟨l,rfl | rfl | rfl,h⟩
  ·exact ⟨_,.inl rfl,h⟩
  ·exact ⟨_,.inr (.inr rfl),h⟩
  ·exact ⟨_,.inr (.inl rfl),h⟩
theorem both_perm (w a b : List Fil) (cs : List (Int × Int)) : zB3 w a b cs = zB3 w b a cs:=by
 unfold zB3
 refine List.filter_congr fun p _=>?_
 have : zIH w a b p ↔ zIH w b a p:=by unfold zIH; exact ⟨fun h=>⟨h.2.1,h.1,fun e=>h.2.2 e.symm⟩,fun h=>⟨h.2.1,h.1,fun e=>h.2.2 e.symm⟩⟩
 simp [this]
theorem both_diff {w a b : List Fil} {cs ds : List (Int × Int)} (hc : zCr [w,a,b] cs) (hd : zCr [zAN w a b cs,zAN w b a cs] ds) : (zDG (zAN w a b cs) (zAN w b a cs) ds).map zA1 = zB3 w a b cs:=by
 have hc2 : zCr [w,b,a] cs:=⟨hc.1,fun p=>(hc.2 p).trans (by
  simp only [List.mem_cons,List.not_mem_nil,or_false]
  constructor
  ·rintro ⟨l,rfl | rfl | rfl,h⟩
   ·exact ⟨_,.inl rfl,h⟩
   ·exact ⟨_,.inr (.inr rfl),h⟩
   ·exact ⟨_,.inr (.inl rfl),h⟩
  ·rintro ⟨l,rfl | rfl | rfl,h⟩
   ·exact ⟨_,.inl rfl,h⟩
   ·exact ⟨_,.inr (.inr rfl),h⟩
   ·exact ⟨_,.inr (.inl rfl),h⟩)⟩
 have e1 : (zDG (zAN w a b cs) (zAN w b a cs) ds).map zA1 = ds.filter fun p=>decide (zS (zAN w a b cs) p ≠ zS (zAN w b a cs) p):=by
  unfold zDG
  rw [List.map_map]
  exact List.map_id _
 rw [e1]
 unfold zB3
 refine zHc (hd.1.filter _) (hc.1.filter _) fun p=>?_
 simp only [List.mem_filter,decide_eq_true_eq,zBi hc,zBi hc2,tx_diff]
 constructor
 ·rintro ⟨_,h⟩
  refine ⟨Classical.byContradiction fun k=>h.2.2 ?_,h⟩
  rw [zCg hc k (l:=a) (by simp),zCg hc k (l:=b) (by simp)]
 ·rintro ⟨_,h⟩
  refine ⟨Classical.byContradiction fun k=>?_,h⟩
  have h1:=zCg hd k (l:=zAN w a b cs) (by simp)
  have h2:=zCg hd k (l:=zAN w b a cs) (by simp)
  rw [zBi hc] at h1
  rw [zBi hc2] at h2
  exact (tx_diff w a b p).2 h (h1.trans h2.symm)
end Go.AM
namespace Go.AM
theorem withS_nil (c r : Int) : zCN [] c r [] = []:=by simp [zCN]
def opV (q : Bool) (l : List Fil) : AV:=.lst (some q) (if q = true then 0 else 3) (l.map zO)
theorem withV_op (q : Bool) (l : List Fil) (hq : q = true → l = []) (c r : Int) (t : Bs) : (if q = true ∧ t = [] then AV.lst (some true) 0 [] else .lst (some false) 3 ((zCN l c r t).map zO)) = opV (q && decide (t = [])) (zCN l c r t):=by
 by_cases h : q = true ∧ t = []
 ·obtain ⟨rfl,rfl⟩:=h
  rw [hq rfl,withS_nil]
  rfl
 ·rw [if_neg h]
  have : (q && decide (t = [])) = false:=by
   cases q
   ·rfl
   ·simp only [true_and] at h
    simp [h]
  rw [this]
  rfl
theorem opV_view (q : Bool) (l : List Fil) (hq : q = true → l = []) (H : Heap) : view H 3 (opV q l) = some (l.map zO):=by
 cases q with
 | true=>rw [hq rfl]; simp [opV,view]
 | false=>simp [opV,view]
end Go.AM
