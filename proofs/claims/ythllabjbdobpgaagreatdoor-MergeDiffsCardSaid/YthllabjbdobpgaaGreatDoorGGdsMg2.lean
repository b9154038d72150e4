/- Several texts of mine in one (Gds, Mg0, Mg1, Mgc, Mg2). Own work. -/
import Derived.Test.YthllabjbdobpgaaGreatDoorWt0
import Derived.Test.YthllabjbdobpgaaGreatDoorProg
import Derived.WalkKit
import Derived.Handy
import Derived.Sort.WalkC4
import Derived.StillTailTactics
import Derived.Sort.Grow
set_option linter.all false
namespace Go.AM
theorem withS_mem {l : List Fil} {c r : Int} {t : Bs} {f : Fil} (h : f ∈ zBj l c r t) : f ∈ l ∨ (f = ⟨c,r,t⟩ ∧ t ≠ []):=by
 unfold zBj at h
 rcases zN4.1 h with h | h
 ·rcases zN4.1 h with h | h
  ·exact .inl (zNx.1 h).1
  ·by_cases ht : t = []
   ·rw [zMt ht] at h; simp at h
   ·rw [zMq ht] at h; exact .inr ⟨by simpa using h,ht⟩
 ·exact .inl (zNx.1 h).1
structure Goods (l : List Fil) : Prop where
 srt : Srtd l
 len : l.length ≤ 200
 each : ∀ f ∈ l,mayN f = 0 ∧ f.text ≠ []
theorem fils_of : ∀ (l : List Fil) (prev : Option Fil),Srtd l → (∀ f ∈ l,mayN f = 0 ∧ f.text ≠ []) → (∀ p,prev = some p → ∀ f ∈ l,p.row < f.row ∨ (p.row = f.row ∧ p.col < f.col)) → zE4 prev l = 0
 | [],_,_,_,_=>rfl
 | f :: r,prev,hs,he,hp=>by
  have h0 : filN prev f = 0:=by
   obtain ⟨h1,h2⟩:=he f (zPO ..)
   unfold mayN at h1
   unfold filN
   cases hc : okC f.col f.row with
   | false=>rw [hc] at h1; cases h1
   | true=>
    rw [hc,zMt rfl] at h1
    rw [zMq (by simp)]
    cases prev with
    | none=>
     show (if f.text = [] then 3 else zAo f.text) = 0
     rw [zMq h2]; exact h1
    | some p=>
     have hl:=(zMf p f).2 (hp p rfl f (zPO ..))
     show (if lessC p f = false then 5 else if f.text = [] then 3 else zAo f.text) = 0
     rw [hl,zMq (by simp),zMq h2]
     exact h1
  unfold zE4
  rw [zMt h0]
  exact fils_of r (some f) (zNw.1 hs).2 (fun g hg=>he g (zN1 _ hg)) (fun p hpe g hg=>by cases hpe; exact (zNw.1 hs).1 g hg)
theorem Goods.check {l : List Fil} (h : Goods l) : zAP l = 0:=by
 unfold zAP
 rw [zMq (by have:=h.len; omega)]
 exact fils_of l none h.srt h.each (fun p hp=>by cases hp)
theorem filsN_each : ∀ (l : List Fil) (prev : Option Fil),zE4 prev l = 0 → ∀ f ∈ l,mayN f = 0 ∧ f.text ≠ []
 | [],_,_,f,hf=>absurd hf (by simp)
 | g :: r,prev,h,f,hf=>by
  unfold zE4 at h
  by_cases h0 : filN prev g = 0
  ·rw [zMt h0] at h
   rcases zNe.1 hf with rfl | hf
   ·unfold filN at h0
    unfold mayN
    cases hc : okC f.col f.row with
    | false=>rw [hc,zMt rfl] at h0; cases h0
    | true=>
     rw [hc,zMq (by simp)] at h0
     rw [zMt rfl]
     have h0 : (if f.text = [] then 3 else zAo f.text) = 0:=by
      cases prev with
      | none=>exact h0
      | some p=>
       have h0 : (if lessC p f = false then 5 else if f.text = [] then 3 else zAo f.text) = 0:=h0
       by_cases hp : lessC p f = false
       ·rw [zMt hp] at h0; cases h0
       ·rwa [zMq hp] at h0
     by_cases he : f.text = []
     ·rw [zMt he] at h0; cases h0
     ·rw [zMq he] at h0; exact ⟨h0,he⟩
   ·exact filsN_each r _ h f hf
  ·rw [zMq h0] at h; exact absurd h h0
theorem zJq {l : List Fil} (h : zAP l = 0) : Goods l:=by
 refine ⟨srtd_check h,(checkN_ok h).1, ?_⟩
 unfold zAP at h
 by_cases h1 : 200 < l.length
 ·rw [zMt h1] at h; cases h
 ·rw [zMq h1] at h; exact filsN_each l none h
theorem Goods.nil : Goods []:=⟨Srtd.nil,by simp,fun f hf=>absurd hf (by simp)⟩
theorem Goods.take {l : List Fil} (h : Goods l) (n : Nat) : Goods (l.take n):=⟨h.srt.sublist (List.take_sublist n l),by rw [zM8]; have:=h.len; omega,fun f hf=>h.each f (zOH hf)⟩
end Go.AM
namespace Go.AM
def zDa (f : Fil) : Int × Int:=(f.col,f.row)
def zAJ (l : List Fil) (p : Int × Int) : Bs:=match l with
 | []=>[]
 | f :: r=>if p = zDa f then f.text else zAJ r p
theorem zMk (f : Fil) (r : List Fil) (p : Int × Int) : zAJ (f :: r) p = if p = zDa f then f.text else zAJ r p:=rfl
def ltK (p q : Int × Int) : Prop:=p.2 < q.2 ∨ (p.2 = q.2 ∧ p.1 < q.1)
theorem zHr (p : Int × Int) : ¬ ltK p p:=by unfold ltK; omega
theorem ltK_trans {p q r : Int × Int} (h : ltK p q) (k : ltK q r) : ltK p r:=by unfold ltK at *; omega
def Asc (l : List (Int × Int)) : Prop:=l.Pairwise ltK
theorem asc_ext : ∀ {a b : List (Int × Int)},Asc a → Asc b → (∀ p,p ∈ a ↔ p ∈ b) → a = b
 | [],[],_,_,_=>rfl
 | [],q :: b,_,_,h=>absurd ((h q).2 (by simp)) (by simp)
 | p :: a,[],_,_,h=>absurd ((h p).1 (by simp)) (by simp)
 | p :: a,q :: b,ha,hb,h=>by
  have ha':=zNw.1 ha
  have hb':=zNw.1 hb
  have e : p = q:=by
   have h1:=(h p).1 (by simp)
   have h2:=(h q).2 (by simp)
   rcases zNe.1 h1 with h1 | h1
   ·exact h1
   ·rcases zNe.1 h2 with h2 | h2
    ·exact h2.symm
    ·exact absurd (ltK_trans (ha'.1 q h2) (hb'.1 p h1)) (zHr p)
  subst e
  rw [asc_ext ha'.2 hb'.2 fun r=>?_]
  constructor
  ·intro hr
   rcases zNe.1 ((h r).1 (zN1 _ hr)) with rfl | h2
   ·exact absurd (ha'.1 r hr) (zHr r)
   ·exact h2
  ·intro hr
   rcases zNe.1 ((h r).2 (zN1 _ hr)) with rfl | h2
   ·exact absurd (hb'.1 r hr) (zHr r)
   ·exact h2
theorem srtd_keys {l : List Fil} (h : Srtd l) : Asc (l.map zDa):=List.pairwise_map.2 (h.imp fun {a b} k=>k)
theorem zKR {l : List Fil} (h : Srtd l) {f : Fil} (hf : f ∈ l) : zAJ l (zDa f) = f.text:=by
 induction l with
 | nil=>cases hf
 | cons g r ih=>
  have hp:=zNw.1 h
  unfold zAJ
  rcases zNe.1 hf with rfl | hf
  ·rw [zMt rfl]
  ·have : zDa f ≠ zDa g:=fun e=>by
    have:=hp.1 f hf
    have e1 : f.col = g.col:=zNF Prod.fst e
    have e2 : f.row = g.row:=zNF Prod.snd e
    omega
   rw [zMq this]
   exact ih hp.2 hf
theorem zEu {l : List Fil} {p : Int × Int} (h : p ∉ l.map zDa) : zAJ l p = []:=by
 induction l with
 | nil=>rfl
 | cons g r ih=>
  simp only [zM4,zNe,not_or] at h
  unfold zAJ
  rw [zMq h.1]
  exact ih h.2
theorem textAt_some {l : List Fil} {p : Int × Int} (h : zAJ l p ≠ []) : p ∈ l.map zDa:=zPM fun k=>h (zEu k)
theorem mfind_no {p : Int × Int} : ∀ {ks : List (Int × Int)},p ∉ ks → mfind p ks = none
 | [],_=>rfl
 | x :: ks,h=>by
  simp only [zNe,not_or] at h
  unfold mfind
  rw [zMq h.1,mfind_no h.2]
  rfl
def txV (f : Fil) : AV:=.str f.text
theorem mget_text (l : List Fil) (p : Int × Int) : (match mfind p (l.map zDa) with
  | some i=>((l.map txV)[i]?).map fun v=>if false then AV.tup [v,.bool true] else v
  | none=>some (if false then AV.tup [.str [],.bool false] else .str [])) = some (.str (zAJ l p)):=by
 induction l with
 | nil=>rfl
 | cons f r ih=>
  simp only [zM4,mfind,zAJ]
  by_cases h : p = zDa f
  ·rw [zMt h,zMt h]; rfl
  ·rw [zMq h,zMq h]
   cases hm : mfind p (r.map zDa) with
   | none=>rw [hm] at ih; exact ih
   | some i=>rw [hm] at ih; exact ih
theorem mgetV_text {H : Heap} {m : AV} {l : List Fil} (hm : mview H m = some (l.map zDa,l.map txV)) (c r : Int) : mgetV H (.str []) false m (zn c r) = some (.str (zAJ l (c,r))):=by
 have e : keyAV (zn c r) = some (c,r):=rfl
 unfold mgetV
 rw [hm]
 simp only [e]
 exact mget_text l (c,r)
theorem mput_new {l : List Fil} {f : Fil} (h : Srtd (l ++ [f])) : mput (zDa f) (txV f) (l.map zDa) (l.map txV) = ((l ++ [f]).map zDa,(l ++ [f]).map txV):=by
 have hp:=zPj.1 h
 have hn : zDa f ∉ l.map zDa:=fun hm=>by
  obtain ⟨g,hg,e⟩:=zNh.1 hm
  have:=hp.2.2 g hg f (by simp)
  have e1 : g.col = f.col:=zNF Prod.fst e
  have e2 : g.row = f.row:=zNF Prod.snd e
  omega
 unfold mput
 rw [mfind_no hn]
 simp
def zEv (a b : List Fil) (cs : List (Int × Int)) : List Fil:=(cs.filter fun p=>decide (zAJ a p ≠ zAJ b p)).map fun p=>⟨p.1,p.2,zAJ b p⟩
def IsCells (ls : List (List Fil)) (cs : List (Int × Int)) : Prop:=Asc cs ∧ ∀ p,p ∈ cs ↔ ∃ l ∈ ls,p ∈ l.map zDa
end Go.AM
namespace Go.AM
theorem textAt_of {l : List Fil} (h : Srtd l) {p : Int × Int} {t : Bs} (hm : ∃ f ∈ l,zDa f = p ∧ f.text = t) : zAJ l p = t:=by
 obtain ⟨f,hf,rfl,rfl⟩:=hm
 exact zKR h hf
theorem textAt_withS {l : List Fil} (h : Srtd l) (c r : Int) (t : Bs) (p : Int × Int) : zAJ (zBj l c r t) p = if p = (c,r) then t else zAJ l p:=by
 have hs:=withS_srtd h c r t
 have memF : ∀ {f : Fil},f ∈ l → zDa f ≠ (c,r) → f ∈ zBj l c r t:=fun {f} hf hne=>by
  have hc : f.row < r ∨ (f.row = r ∧ f.col < c) ∨ (r < f.row ∨ (r = f.row ∧ c < f.col)):=by
   have : ¬ (f.col = c ∧ f.row = r):=fun e=>hne (Prod.ext e.1 e.2)
   omega
  unfold zBj
  simp only [zN4,zNx,aheadC,zAg,zMz]
  rcases hc with h | h | h
  ·exact .inl (.inl ⟨hf,.inl h⟩)
  ·exact .inl (.inl ⟨hf,.inr h⟩)
  ·exact .inr ⟨hf,h⟩
 have memB : ∀ {f : Fil},f ∈ zBj l c r t → (f ∈ l ∧ zDa f ≠ (c,r)) ∨ (f = ⟨c,r,t⟩ ∧ t ≠ []):=fun {f} hf=>by
  unfold zBj at hf
  simp only [zN4,zNx,aheadC,zAg,zMz] at hf
  rcases hf with (⟨h1,h2⟩ | h) | ⟨h1,h2⟩
  ·refine .inl ⟨h1,fun e=>?_⟩
   have e1 : f.col = c:=zNF Prod.fst e
   have e2 : f.row = r:=zNF Prod.snd e
   omega
  ·by_cases ht : t = []
   ·rw [zMt ht] at h; simp at h
   ·rw [zMq ht] at h; exact .inr ⟨by simpa using h,ht⟩
  ·refine .inl ⟨h1,fun e=>?_⟩
   have e1 : f.col = c:=zNF Prod.fst e
   have e2 : f.row = r:=zNF Prod.snd e
   omega
 by_cases e : p = (c,r)
 ·rw [zMt e]
  subst e
  by_cases ht : t = []
  ·rw [ht]
   refine zEu fun hm=>?_
   obtain ⟨f,hf,he⟩:=zNh.1 hm
   rw [← ht] at hf
   rcases memB hf with ⟨_,h2⟩ | ⟨_,h2⟩
   ·exact h2 he
   ·exact h2 ht
  ·refine textAt_of hs ⟨⟨c,r,t⟩, ?_,rfl,rfl⟩
   unfold zBj
   rw [zMq ht]
   simp
 ·rw [zMq e]
  by_cases hm : p ∈ l.map zDa
  ·obtain ⟨f,hf,rfl⟩:=zNh.1 hm
   rw [zKR h hf]
   exact textAt_of hs ⟨f,memF hf e,rfl,rfl⟩
  ·rw [zEu hm]
   refine zEu fun hm2=>?_
   obtain ⟨f,hf,he⟩:=zNh.1 hm2
   rcases memB hf with ⟨h1,_⟩ | ⟨rfl,_⟩
   ·exact hm (zNh.2 ⟨f,h1,he⟩)
   ·exact e he.symm
def zBg (l d : List Fil) : List Fil:=d.foldl (fun l f=>zBj l f.col f.row f.text) l
theorem foldW_snoc (l d : List Fil) (f : Fil) : zBg l (d ++ [f]) = zBj (zBg l d) f.col f.row f.text:=by simp [zBg]
theorem zKS : ∀ (d l : List Fil),Srtd l → (∀ f ∈ l,f.text ≠ []) → Srtd (zBg l d) ∧ (∀ f ∈ zBg l d,f.text ≠ []) ∧ (Srtd d → ∀ p,zAJ (zBg l d) p = if p ∈ d.map zDa then zAJ d p else zAJ l p)
 | [],l,h,hn=>⟨h,hn,fun _ p=>by simp [zBg]⟩
 | g :: d,l,h,hn=>by
  have hs:=withS_srtd h g.col g.row g.text
  have hn2 : ∀ f ∈ zBj l g.col g.row g.text,f.text ≠ []:=fun f hf=>by
   rcases withS_mem hf with h | ⟨rfl,h⟩
   ·exact hn f h
   ·exact h
  obtain ⟨h1,h2,h3⟩:=zKS d _ hs hn2
  refine ⟨h1,h2,fun hd p=>?_⟩
  have hp:=zNw.1 hd
  refine (h3 hp.2 p).trans ?_
  by_cases hm : p ∈ d.map zDa
  ·rw [zMt hm,zMt (by simp only [zM4,zNe]; exact .inr hm)]
   rw [zMk,zMq]
   intro e
   subst e
   obtain ⟨f,hf,he⟩:=zNh.1 hm
   have:=hp.1 f hf
   have e1 : f.col = g.col:=zNF Prod.fst he
   have e2 : f.row = g.row:=zNF Prod.snd he
   omega
  ·rw [zMq hm,textAt_withS h,show ((g.col,g.row) : Int × Int) = zDa g from rfl]
   by_cases e : p = zDa g
   ·rw [zMt e,zMt (by simp [e])]
    rw [zMk,zMt e]
   ·rw [zMq e,zMq (by simp only [zM4,zNe,not_or]; exact ⟨e,hm⟩)]
def leK (p q : Int × Int) : Bool:=decide (p.2 < q.2 ∨ (p.2 = q.2 ∧ p.1 ≤ q.1))
def zDR (l : List (Int × Int)) : List (Int × Int):=l.mergeSort leK
def zk : List (Int × Int) → List (Int × Int)
 | []=>[]
 | [x]=>[x]
 | x :: y :: r=>if x = y then zk (y :: r) else x :: zk (y :: r)
theorem leK_trans (p q r : Int × Int) (h : leK p q = true) (k : leK q r = true) : leK p r = true:=by unfold leK at *; simp only [zMz] at *; omega
theorem leK_total (p q : Int × Int) : (leK p q || leK q p) = true:=by unfold leK; simp only [zOA,zMz]; omega
theorem leK_anti {p q : Int × Int} (h : leK p q = true) (k : leK q p = true) : p = q:=by
 unfold leK at *
 simp only [zMz] at *
 exact Prod.ext tO tO
theorem zEa (l : List (Int × Int)) : (zDR l).Perm l:=List.mergeSort_perm l leK
theorem sortK_asc (l : List (Int × Int)) : (zDR l).Pairwise fun a b=>leK a b = true:=List.pairwise_mergeSort leK_trans leK_total l
theorem zDY : ∀ (l : List (Int × Int)) (p : Int × Int),p ∈ zk l ↔ p ∈ l
 | [],p=>by simp [zk]
 | [x],p=>by simp [zk]
 | x :: y :: r,p=>by
  unfold zk
  by_cases e : x = y
  ·rw [zMt e,zDY (y :: r) p,e]; simp
  ·rw [zMq e,zNe,zDY (y :: r) p,← List.mem_cons]
theorem zKn : ∀ (l : List (Int × Int)),(l.Pairwise fun a b=>leK a b = true) → Asc (zk l)
 | [],_=>List.Pairwise.nil
 | [x],_=>List.pairwise_singleton _ _
 | x :: y :: r,h=>by
  have hp:=zNw.1 h
  have ih:=zKn (y :: r) hp.2
  unfold zk
  by_cases e : x = y
  ·rw [zMt e]; exact ih
  ·rw [zMq e]
   refine zNw.2 ⟨fun q hq=>?_,ih⟩
   have hq:=(zDY _ _).1 hq
   have h1:=hp.1 q hq
   have hne : x ≠ q:=fun ee=>by
    subst ee
    have h2:=hp.1 y (by simp)
    rcases zNe.1 hq with h3 | h3
    ·exact e h3
    ·exact e (leK_anti h2 ((zNw.1 hp.2).1 x h3))
   unfold leK at h1
   simp only [zMz] at h1
   have : ¬ (x.1 = q.1 ∧ x.2 = q.2):=fun k=>hne (Prod.ext k.1 k.2)
   unfold ltK
   omega
def zDt (ls : List (List Fil)) : List (Int × Int):=zk (zDR (ls.flatMap fun l=>l.map zDa))
theorem zMl (ls : List (List Fil)) : IsCells ls (zDt ls):=by
 refine ⟨zKn _ (sortK_asc _),fun p=>?_⟩
 unfold zDt
 rw [zDY,(zEa _).mem_iff,zPE]
theorem sortK_eq {a l : List (Int × Int)} (hp : a.Perm l) (hs : a.Pairwise fun p q=>leK p q = true) : a = zDR l:=
 List.Perm.eq_of_pairwise (fun p q _ _ h k=>leK_anti h k) hs (sortK_asc l) (hp.trans (zEa l).symm)
theorem zJr : ∀ (l : List (Int × Int)) (x y : Int × Int),zk (l ++ [x,y]) = if x = y then zk (l ++ [x]) else zk (l ++ [x]) ++ [y]
 | [],x,y=>by
  show zk [x,y] = _
  unfold zk
  by_cases e : x = y
  ·rw [zMt e,zMt e]; simp [zk,e]
  ·rw [zMq e,zMq e]; simp [zk]
 | [z],x,y=>by
  show zk [z,x,y] = if x = y then zk [z,x] else zk [z,x] ++ [y]
  have e3 : ∀ p q : Int × Int,zk [p,q] = if p = q then [q] else [p,q]:=fun p q=>by simp [zk]
  rw [show zk [z,x,y] = if z = x then zk [x,y] else z :: zk [x,y] from zk.eq_3 z x [y],e3,e3]
  by_cases e : x = y <;> by_cases e2 : z = x <;> simp [e,e2]
 | z :: w :: l,x,y=>by
  have ih:=zJr (w :: l) x y
  show zk (z :: w :: (l ++ [x,y])) = if x = y then zk (z :: w :: (l ++ [x])) else zk (z :: w :: (l ++ [x])) ++ [y]
  rw [zk.eq_3,zk.eq_3]
  have ih : zk (w :: (l ++ [x,y])) = if x = y then zk (w :: (l ++ [x])) else zk (w :: (l ++ [x])) ++ [y]:=ih
  rw [ih]
  by_cases e : x = y <;> by_cases e2 : z = w <;> simp [e,e2]
end Go.AM
set_option maxRecDepth 100000
namespace Go.Proofs.YthllabjbdobpgaaGreatDoor
open Go.AM Go.RowKit Go.Proofs Go.Sort Go.Lib
theorem nan_calls (x : Int) (W : World) : Calls Tryz.prog 72 #[.int .i64 x] W fun e w'=>e = .returned (.bool false) ∧ w' = W:=by
 go_enter Tryz.func72,Tryz.ntmps72
 go_wp2
 go_ret
 exact ⟨by simp,rfl⟩
set_option maxHeartbeats 1000000 in
theorem ccmp_calls (x y : Int) (W : World) : Calls Tryz.prog 48 #[.int .i64 x,.int .i64 y] W fun e w'=>e = .returned (.int .i64 (cmp3 x y)) ∧ w' = W:=by
 have hcon:=fun (x : Int) W'=>nan_calls x W'
 go_enter Tryz.func48,Tryz.ntmps48
 go_wp2_with (go_at_call 72; refine (hcon _ _).mono ?_; rintro e w' ⟨rfl,rfl⟩)
 all_goals (go_ret; refine ⟨?_,rfl⟩; unfold cmp3; (repeat' split) <;> first | rfl | (exfalso; omega))
set_option maxHeartbeats 1000000 in
theorem cor_calls (blk : Nat) (x y : Int) (W : World) (h0 : W.cell? ⟨blk,0,none⟩ = some (.int .i64 x)) (h1 : W.cell? ⟨blk,1,none⟩ = some (.int .i64 y)) :
  Calls Tryz.prog 47 #[.slice (some ⟨blk,0,none⟩) 2 2] W fun e w'=>e = .returned (.int .i64 (if x ≠ 0 then x else y)) ∧ w' = W:=by
 by_cases hx : x = 0 <;> by_cases hy : y = 0
 all_goals
  go_enter Tryz.func47,Tryz.ntmps47
  go_wp2
  go_rounds 3
  all_goals (try go_ret)
 all_goals first | (exfalso; omega) | (refine ⟨?_,rfl⟩; simp [hx,hy]; done) | (refine ⟨?_,rfl⟩; simp [hx]; done)
theorem two_cells (W : World) (a b c d : Value) (t : TypeId) (n : Nat) (W3 : World) (h : ({ (W.alloc (.cells #[a,b] t)).alloc (.cells #[c,d] t) with drawn:=n } : World) = W3) :
  W3.cell? ⟨W.heap.size,0,none⟩ = some a ∧ W3.cell? ⟨W.heap.size,1,none⟩ = some b ∧ W3.cell? ⟨W.heap.size + 1,0,none⟩ = some c ∧ W3.cell? ⟨W.heap.size + 1,1,none⟩ = some d:=by
 have hh : W3.heap = (W.heap.push (.cells #[a,b] t)).push (.cells #[c,d] t):=by rw [← h]; rfl
 have g0 : W3.heap[W.heap.size]? = some (.cells #[a,b] t):=by rw [hh,zNk,Array.size_push,zMq tO,zNk,zMt rfl]
 have g1 : W3.heap[W.heap.size + 1]? = some (.cells #[c,d] t):=by rw [hh,zNk,Array.size_push,zMt rfl]
 refine ⟨?_, ?_, ?_, ?_⟩
 ·simp only [World.cell?,g0]; rfl
 ·simp only [World.cell?,g0]; rfl
 ·simp only [World.cell?,g1]; rfl
 ·simp only [World.cell?,g1]; rfl
theorem new_cells (W : World) (a b : Value) (t : TypeId) : (W.alloc (.cells #[a,b] t)).cell? ⟨W.heap.size,0,none⟩ = some a ∧ (W.alloc (.cells #[a,b] t)).cell? ⟨W.heap.size,1,none⟩ = some b:=by
 have hh : (W.alloc (.cells #[a,b] t)).heap = W.heap.push (.cells #[a,b] t):=rfl
 have g0 : (W.alloc (.cells #[a,b] t)).heap[W.heap.size]? = some (.cells #[a,b] t):=by rw [hh,zNk,zMt rfl]
 refine ⟨?_, ?_⟩
 ·simp only [World.cell?,g0]; rfl
 ·simp only [World.cell?,g0]; rfl
theorem three_grow (W : World) (A B X : Obj) : ({ (W.alloc A).alloc B with drawn:=((W.alloc A).alloc B).drawn + 1 } : World).alloc X = grow (W.drewN 1) #[A,B,X]:=by
 have : ((W.heap.push A).push B).push X = W.heap ++ #[A,B,X]:=by apply zOz; simp only [Array.toList_push,Array.toList_append,zNm,zOQ,zNn]
 unfold World.alloc grow World.drewN
 simp only [this]
set_option maxHeartbeats 2000000 in
theorem acmp_calls (x y : Int × Int) (W : World) : Calls Tryz.prog 32 #[.agg #[.int .i64 x.1,.int .i64 x.2],.agg #[.int .i64 y.1,.int .i64 y.2]] W fun e w'=>e = .returned (.int .i64 (zMd x.1 x.2 y.1 y.2)) ∧ ∃ q os',w' = grow (W.drewN q) os':=by
 have hcon:=fun (x y : Int) W'=>ccmp_calls x y W'
 go_enter Tryz.func32,Tryz.ntmps32
 go_wp2_with (first | (go_at_call 48; refine (hcon _ _ _).mono ?_; rintro e w' ⟨rfl,rfl⟩))
 obtain ⟨W2,hW2⟩ : ∃ W2,(W.alloc (.cells #[.int .i64 x.1,.int .i64 x.2] 41)).alloc (.cells #[.int .i64 y.1,.int .i64 y.2] 41) = W2:=⟨_,rfl⟩
 rw [hW2]
 refine wp_region_still_tail 10 (by kernel_rfl) (by kernel_rfl) ?_
 simp only [List.take_succ_cons,zPo,List.drop_succ_cons,zO8]
 obtain ⟨W3,hW3⟩ : ∃ W3,({ W2 with drawn:=W2.drawn + 1 } : World) = W3:=⟨_,rfl⟩
 rw [hW3]
 obtain ⟨x0,x1,y0,y1⟩:=two_cells W _ _ _ _ _ _ W3 (by rw [← hW3,← hW2])
 still_step; still_step; still_step; still_step
 still_call (hcon x.2 y.2 _)
 still_step; still_step; still_step; still_step
 still_call (hcon x.1 y.1 _)
 refine wpStill_nil ?_
 have hor:=fun (a b : Int) (t : TypeId)=>cor_calls W3.heap.size a b (W3.alloc (.cells #[.int .i64 a,.int .i64 b] t)) (new_cells W3 _ _ t).1 (new_cells W3 _ _ t).2
 go_wp2_with (first | (go_at_call 47; refine (hor _ _ _).mono ?_; rintro e w' ⟨rfl,rfl⟩))
 all_goals
  go_ret
  rw [← hW3,← hW2,three_grow]
  refine ⟨?_,1,_,rfl⟩
  unfold zMd
  simp_all
end Go.Proofs.YthllabjbdobpgaaGreatDoor
namespace Go.AM
def bothP (w a b : List Fil) (p : Int × Int) : Prop:=zAJ a p ≠ zAJ w p ∧ zAJ b p ≠ zAJ w p ∧ zAJ a p ≠ zAJ b p
instance (w a b : List Fil) (p : Int × Int) : Decidable (bothP w a b p):=by unfold bothP; infer_instance
theorem out_cells {ls : List (List Fil)} {cs : List (Int × Int)} (hc : IsCells ls cs) {p : Int × Int} (h : p ∉ cs) {l : List Fil} (hl : l ∈ ls) : zAJ l p = []:=zEu fun k=>h ((hc.2 p).2 ⟨l,hl,k⟩)
end Go.AM
