/- Several texts of mine in one (Mg0, Mg1, Mgc, Mg2, Opv). Own work. -/
import Derived.Test.YthllabjbdobpgaaGreatDoorGSshGds
import Derived.Test.YthllabjbdobpgaaGreatDoorProg
import Derived.WalkKit
import Derived.Handy
import Derived.Sort.WalkC4
import Derived.StillTailTactics
import Derived.Sort.Grow
import Derived.Test.YthllabjbdobpgaaGreatDoorGSk1Ins
set_option linter.all false
namespace Go.AM
def zAj (f : Fil) : Int × Int:=(f.col,f.row)
def zh (l : List Fil) (p : Int × Int) : Bs:=match l with
 | []=>[]
 | f :: r=>if p = zAj f then f.text else zh r p
theorem zEl (f : Fil) (r : List Fil) (p : Int × Int) : zh (f :: r) p = if p = zAj f then f.text else zh r p:=rfl
def ltK (p q : Int × Int) : Prop:=p.2 < q.2 ∨ (p.2 = q.2 ∧ p.1 < q.1)
theorem zHo (p : Int × Int) : ¬ ltK p p:=by unfold ltK; omega
theorem ltK_trans {p q r : Int × Int} (h : ltK p q) (k : ltK q r) : ltK p r:=by unfold ltK at *; omega
def Asc (l : List (Int × Int)) : Prop:=l.Pairwise ltK
theorem asc_ext : ∀ {a b : List (Int × Int)},Asc a → Asc b → (∀ p,p ∈ a ↔ p ∈ b) → a = b
 | [],[],_,_,_=>rfl
 | [],q :: b,_,_,h=>absurd ((h q).2 (by simp)) (by simp)
 | p :: a,[],_,_,h=>absurd ((h p).1 (by simp)) (by simp)
 | p :: a,q :: b,ha,hb,h=>by
  have ha':=zNo.1 ha
  have hb':=zNo.1 hb
  have e : p = q:=by
   have h1:=(h p).1 (by simp)
   have h2:=(h q).2 (by simp)
   rcases zNZ.1 h1 with h1 | h1
   ·exact h1
   ·rcases zNZ.1 h2 with h2 | h2
    ·exact h2.symm
    ·exact absurd (ltK_trans (ha'.1 q h2) (hb'.1 p h1)) (zHo p)
  subst e
  rw [asc_ext ha'.2 hb'.2 fun r=>?_]
  constructor
  ·intro hr
   rcases zNZ.1 ((h r).1 (zNl _ hr)) with rfl | h2
   ·exact absurd (ha'.1 r hr) (zHo r)
   ·exact h2
  ·intro hr
   rcases zNZ.1 ((h r).2 (zNl _ hr)) with rfl | h2
   ·exact absurd (hb'.1 r hr) (zHo r)
   ·exact h2
theorem zMX {l : List Fil} (h : Srtd l) : Asc (l.map zAj):=zPG.2 (h.imp fun {a b} k=>k)
theorem zF7 {l : List Fil} (h : Srtd l) {f : Fil} (hf : f ∈ l) : zh l (zAj f) = f.text:=by
 induction l with
 | nil=>cases hf
 | cons g r ih=>
  have hp:=zNo.1 h
  unfold zh
  rcases zNZ.1 hf with rfl | hf
  ·rw [zMg rfl]
  ·have : zAj f ≠ zAj g:=fun e=>by
    have:=hp.1 f hf
    have e1 : f.col = g.col:=zM1 Prod.fst e
    have e2 : f.row = g.row:=zM1 Prod.snd e
    omega
   rw [zMe this]
   exact ih hp.2 hf
theorem zC5 {l : List Fil} {p : Int × Int} (h : p ∉ l.map zAj) : zh l p = []:=by
 induction l with
 | nil=>rfl
 | cons g r ih=>
  simp only [zMp,zNZ,not_or] at h
  unfold zh
  rw [zMe h.1]
  exact ih h.2
theorem zMY {l : List Fil} {p : Int × Int} (h : zh l p ≠ []) : p ∈ l.map zAj:=zNy fun k=>h (zC5 k)
theorem goods_ext {a b : List Fil} (ha : Srtd a) (hb : Srtd b) (ha1 : ∀ f ∈ a,f.text ≠ []) (hb1 : ∀ f ∈ b,f.text ≠ []) (h : ∀ p,zh a p = zh b p) : a = b:=by
 have sub : ∀ {a b : List Fil},Srtd a → Srtd b → (∀ f ∈ a,f.text ≠ []) → (∀ p,zh a p = zh b p) → ∀ p,p ∈ a.map zAj → p ∈ b.map zAj:=fun {a b} ha hb ha1 h p hp=>by
  obtain ⟨f,hf,rfl⟩:=zM9.1 hp
  exact zMY (by rw [← h,zF7 ha hf]; exact ha1 f hf)
 have ek : a.map zAj = b.map zAj:=asc_ext (zMX ha) (zMX hb) fun p=>⟨sub ha hb ha1 h p,sub hb ha hb1 (fun p=>(h p).symm) p⟩
 have rb : ∀ {a : List Fil},Srtd a → a = (a.map zAj).map fun p=>(⟨p.1,p.2,zh a p⟩ : Fil):=fun {a} ha=>by
  rw [zOq]
  conv=>lhs; rw [← List.map_id a]
  refine zOg fun f hf=>?_
  simp only [Function.comp,id]
  rw [zF7 ha hf]
  rfl
 rw [rb ha,rb hb,ek]
 exact zOg fun p _=>by rw [h]
theorem mfind_no {p : Int × Int} : ∀ {ks : List (Int × Int)},p ∉ ks → mfind p ks = none
 | [],_=>rfl
 | x :: ks,h=>by
  simp only [zNZ,not_or] at h
  unfold mfind
  rw [zMe h.1,mfind_no h.2]
  rfl
def txV (f : Fil) : AV:=.str f.text
theorem mget_text (l : List Fil) (p : Int × Int) : (match mfind p (l.map zAj) with
  | some i=>((l.map txV)[i]?).map fun v=>if false then AV.tup [v,.bool true] else v
  | none=>some (if false then AV.tup [.str [],.bool false] else .str [])) = some (.str (zh l p)):=by
 induction l with
 | nil=>rfl
 | cons f r ih=>
  simp only [zMp,mfind,zh]
  by_cases h : p = zAj f
  ·rw [zMg h,zMg h]; rfl
  ·rw [zMe h,zMe h]
   cases hm : mfind p (r.map zAj) with
   | none=>rw [hm] at ih; exact ih
   | some i=>rw [hm] at ih; exact ih
theorem zKH {H : Heap} {m : AV} {l : List Fil} (hm : mview H m = some (l.map zAj,l.map txV)) (c r : Int) : mgetV H (.str []) false m (zr c r) = some (.str (zh l (c,r))):=by
 have e : keyAV (zr c r) = some (c,r):=rfl
 unfold mgetV
 rw [hm]
 simp only [e]
 exact mget_text l (c,r)
theorem mput_new {l : List Fil} {f : Fil} (h : Srtd (l ++ [f])) : mput (zAj f) (txV f) (l.map zAj) (l.map txV) = ((l ++ [f]).map zAj,(l ++ [f]).map txV):=by
 have hp:=zPQ.1 h
 have hn : zAj f ∉ l.map zAj:=fun hm=>by
  obtain ⟨g,hg,e⟩:=zM9.1 hm
  have:=hp.2.2 g hg f (by simp)
  have e1 : g.col = f.col:=zM1 Prod.fst e
  have e2 : g.row = f.row:=zM1 Prod.snd e
  omega
 unfold mput
 rw [mfind_no hn]
 simp
def zD5 (a b : List Fil) (cs : List (Int × Int)) : List Fil:=(cs.filter fun p=>decide (zh a p ≠ zh b p)).map fun p=>⟨p.1,p.2,zh b p⟩
def IsCells (ls : List (List Fil)) (cs : List (Int × Int)) : Prop:=Asc cs ∧ ∀ p,p ∈ cs ↔ ∃ l ∈ ls,p ∈ l.map zAj
theorem zHe (a b : List Fil) (p : Int × Int) : ∀ {cs : List (Int × Int)},Asc cs → zh (zD5 a b cs) p = if p ∈ cs ∧ zh a p ≠ zh b p then zh b p else []
 | [],_=>by simp [zD5,zh]
 | q :: cs,h=>by
  have hp:=zNo.1 h
  have ih:=zHe a b p hp.2
  unfold zD5 at ih ⊢
  rw [zOe]
  by_cases hq : zh a q ≠ zh b q
  ·rw [zMg (by simpa using hq),zMp]
   rw [zEl]
   by_cases e : p = q
   ·subst e
    rw [zMg (show p = zAj ⟨p.1,p.2,zh b p⟩ from rfl),zMg ⟨by simp,hq⟩]
   ·rw [zMe (show ¬ p = zAj ⟨q.1,q.2,zh b q⟩ from e)]
    refine ih.trans ?_
    simp [e]
  ·rw [zMe (by simpa using hq)]
   refine ih.trans ?_
   by_cases e : p = q
   ·subst e
    rw [zMe fun k=>hq k.2,zMe fun k=>hq k.2]
   ·simp [e]
theorem diffK_srtd (a b : List Fil) {cs : List (Int × Int)} (h : Asc cs) : Srtd (zD5 a b cs):=by
 unfold zD5
 refine zPG.2 ((h.filter _).imp fun {p q} k=>k)
end Go.AM
namespace Go.AM
theorem zMZ {l : List Fil} (h : Srtd l) {p : Int × Int} {t : Bs} (hm : ∃ f ∈ l,zAj f = p ∧ f.text = t) : zh l p = t:=by
 obtain ⟨f,hf,rfl,rfl⟩:=hm
 exact zF7 h hf
theorem textAt_withS {l : List Fil} (h : Srtd l) (c r : Int) (t : Bs) (p : Int × Int) : zh (zDn l c r t) p = if p = (c,r) then t else zh l p:=by
 have hs:=withS_srtd h c r t
 have memF : ∀ {f : Fil},f ∈ l → zAj f ≠ (c,r) → f ∈ zDn l c r t:=fun {f} hf hne=>by
  have hc : f.row < r ∨ (f.row = r ∧ f.col < c) ∨ (r < f.row ∨ (r = f.row ∧ c < f.col)):=by
   have : ¬ (f.col = c ∧ f.row = r):=fun e=>hne (zPW e.1 e.2)
   omega
  unfold zDn
  simp only [zNp,zNW,aheadC,zCB,zMr]
  rcases hc with h | h | h
  ·exact .inl (.inl ⟨hf,.inl h⟩)
  ·exact .inl (.inl ⟨hf,.inr h⟩)
  ·exact .inr ⟨hf,h⟩
 have memB : ∀ {f : Fil},f ∈ zDn l c r t → (f ∈ l ∧ zAj f ≠ (c,r)) ∨ (f = ⟨c,r,t⟩ ∧ t ≠ []):=fun {f} hf=>by
  unfold zDn at hf
  simp only [zNp,zNW,aheadC,zCB,zMr] at hf
  rcases hf with (⟨h1,h2⟩ | h) | ⟨h1,h2⟩
  ·refine .inl ⟨h1,fun e=>?_⟩
   have e1 : f.col = c:=zM1 Prod.fst e
   have e2 : f.row = r:=zM1 Prod.snd e
   omega
  ·by_cases ht : t = []
   ·rw [zMg ht] at h; simp at h
   ·rw [zMe ht] at h; exact .inr ⟨by simpa using h,ht⟩
  ·refine .inl ⟨h1,fun e=>?_⟩
   have e1 : f.col = c:=zM1 Prod.fst e
   have e2 : f.row = r:=zM1 Prod.snd e
   omega
 by_cases e : p = (c,r)
 ·rw [zMg e]
  subst e
  by_cases ht : t = []
  ·rw [ht]
   refine zC5 fun hm=>?_
   obtain ⟨f,hf,he⟩:=zM9.1 hm
   rw [← ht] at hf
   rcases memB hf with ⟨_,h2⟩ | ⟨_,h2⟩
   ·exact h2 he
   ·exact h2 ht
  ·refine zMZ hs ⟨⟨c,r,t⟩, ?_,rfl,rfl⟩
   unfold zDn
   rw [zMe ht]
   simp
 ·rw [zMe e]
  by_cases hm : p ∈ l.map zAj
  ·obtain ⟨f,hf,rfl⟩:=zM9.1 hm
   rw [zF7 h hf]
   exact zMZ hs ⟨f,memF hf e,rfl,rfl⟩
  ·rw [zC5 hm]
   refine zC5 fun hm2=>?_
   obtain ⟨f,hf,he⟩:=zM9.1 hm2
   rcases memB hf with ⟨h1,_⟩ | ⟨rfl,_⟩
   ·exact hm (zM9.2 ⟨f,h1,he⟩)
   ·exact e he.symm
def zDo (l d : List Fil) : List Fil:=d.foldl (fun l f=>zDn l f.col f.row f.text) l
theorem foldW_snoc (l d : List Fil) (f : Fil) : zDo l (d ++ [f]) = zDn (zDo l d) f.col f.row f.text:=by simp [zDo]
theorem zHp : ∀ (d l : List Fil),Srtd l → (∀ f ∈ l,f.text ≠ []) → Srtd (zDo l d) ∧ (∀ f ∈ zDo l d,f.text ≠ []) ∧ (Srtd d → ∀ p,zh (zDo l d) p = if p ∈ d.map zAj then zh d p else zh l p)
 | [],l,h,hn=>⟨h,hn,fun _ p=>by simp [zDo]⟩
 | g :: d,l,h,hn=>by
  have hs:=withS_srtd h g.col g.row g.text
  have hn2 : ∀ f ∈ zDn l g.col g.row g.text,f.text ≠ []:=fun f hf=>by
   rcases withS_mem hf with h | ⟨rfl,h⟩
   ·exact hn f h
   ·exact h
  obtain ⟨h1,h2,h3⟩:=zHp d _ hs hn2
  refine ⟨h1,h2,fun hd p=>?_⟩
  have hp:=zNo.1 hd
  refine (h3 hp.2 p).trans ?_
  by_cases hm : p ∈ d.map zAj
  ·rw [zMg hm,zMg (by simp only [zMp,zNZ]; exact .inr hm)]
   rw [zEl,zMe]
   intro e
   subst e
   obtain ⟨f,hf,he⟩:=zM9.1 hm
   have:=hp.1 f hf
   have e1 : f.col = g.col:=zM1 Prod.fst he
   have e2 : f.row = g.row:=zM1 Prod.snd he
   omega
  ·rw [zMe hm,textAt_withS h,show ((g.col,g.row) : Int × Int) = zAj g from rfl]
   by_cases e : p = zAj g
   ·rw [zMg e,zMg (by simp [e])]
    rw [zEl,zMg e]
   ·rw [zMe e,zMe (by simp only [zMp,zNZ,not_or]; exact ⟨e,hm⟩)]
theorem diff_done {a b : List Fil} {cs : List (Int × Int)} (ha : Goods a) (hb : Goods b) (hc : IsCells [a,b] cs) : zDo a (zD5 a b cs) = b:=by
 obtain ⟨h1,h2,h3⟩:=zHp (zD5 a b cs) a ha.srt fun f hf=>(ha.each f hf).2
 refine goods_ext h1 hb.srt h2 (fun f hf=>(hb.each f hf).2) fun p=>?_
 rw [h3 (diffK_srtd a b hc.1) p]
 have hk : p ∈ (zD5 a b cs).map zAj ↔ p ∈ cs ∧ zh a p ≠ zh b p:=by
  unfold zD5
  rw [zOq]
  constructor
  ·intro h
   obtain ⟨q,hq,e⟩:=zM9.1 h
   have e : q = p:=e
   subst e
   obtain ⟨h1,h2⟩:=zNW.1 hq
   exact ⟨h1,by simpa using h2⟩
  ·rintro ⟨h1,h2⟩
   exact zM9.2 ⟨p,zNW.2 ⟨h1,by simpa using h2⟩,rfl⟩
 by_cases hm : p ∈ (zD5 a b cs).map zAj
 ·rw [zMg hm,zHe a b p hc.1,zMg (hk.1 hm)]
 ·rw [zMe hm]
  by_cases hc2 : p ∈ cs
  ·exact zNy fun h=>hm (hk.2 ⟨hc2,h⟩)
  ·have h4 : ∀ l ∈ [a,b],p ∉ l.map zAj:=fun l hl hpl=>hc2 ((hc.2 p).2 ⟨l,hl,hpl⟩)
   rw [zC5 (h4 a (by simp)),zC5 (h4 b (by simp))]
def leK (p q : Int × Int) : Bool:=decide (p.2 < q.2 ∨ (p.2 = q.2 ∧ p.1 ≤ q.1))
def zDI (l : List (Int × Int)) : List (Int × Int):=l.mergeSort leK
def zj : List (Int × Int) → List (Int × Int)
 | []=>[]
 | [x]=>[x]
 | x :: y :: r=>if x = y then zj (y :: r) else x :: zj (y :: r)
theorem leK_trans (p q r : Int × Int) (h : leK p q = true) (k : leK q r = true) : leK p r = true:=by unfold leK at *; simp only [zMr] at *; omega
theorem leK_total (p q : Int × Int) : (leK p q || leK q p) = true:=by unfold leK; simp only [zNw,zMr]; omega
theorem leK_anti {p q : Int × Int} (h : leK p q = true) (k : leK q p = true) : p = q:=by
 unfold leK at *
 simp only [zMr] at *
 exact zPW tO tO
theorem zER (l : List (Int × Int)) : (zDI l).Perm l:=List.mergeSort_perm l leK
theorem sortK_asc (l : List (Int × Int)) : (zDI l).Pairwise fun a b=>leK a b = true:=List.pairwise_mergeSort leK_trans leK_total l
theorem zDN : ∀ (l : List (Int × Int)) (p : Int × Int),p ∈ zj l ↔ p ∈ l
 | [],p=>by simp [zj]
 | [x],p=>by simp [zj]
 | x :: y :: r,p=>by
  unfold zj
  by_cases e : x = y
  ·rw [zMg e,zDN (y :: r) p,e]; simp
  ·rw [zMe e,zNZ,zDN (y :: r) p,← List.mem_cons]
theorem zKd : ∀ (l : List (Int × Int)),(l.Pairwise fun a b=>leK a b = true) → Asc (zj l)
 | [],_=>List.Pairwise.nil
 | [x],_=>List.pairwise_singleton _ _
 | x :: y :: r,h=>by
  have hp:=zNo.1 h
  have ih:=zKd (y :: r) hp.2
  unfold zj
  by_cases e : x = y
  ·rw [zMg e]; exact ih
  ·rw [zMe e]
   refine zNo.2 ⟨fun q hq=>?_,ih⟩
   have hq:=(zDN _ _).1 hq
   have h1:=hp.1 q hq
   have hne : x ≠ q:=fun ee=>by
    subst ee
    have h2:=hp.1 y (by simp)
    rcases zNZ.1 hq with h3 | h3
    ·exact e h3
    ·exact e (leK_anti h2 ((zNo.1 hp.2).1 x h3))
   unfold leK at h1
   simp only [zMr] at h1
   have : ¬ (x.1 = q.1 ∧ x.2 = q.2):=fun k=>hne (zPW k.1 k.2)
   unfold ltK
   omega
def zB6 (ls : List (List Fil)) : List (Int × Int):=zj (zDI (ls.flatMap fun l=>l.map zAj))
theorem zBS (ls : List (List Fil)) : IsCells ls (zB6 ls):=by
 refine ⟨zKd _ (sortK_asc _),fun p=>?_⟩
 unfold zB6
 rw [zDN,(zER _).mem_iff,zPI]
theorem sortK_eq {a l : List (Int × Int)} (hp : a.Perm l) (hs : a.Pairwise fun p q=>leK p q = true) : a = zDI l:=
 List.Perm.eq_of_pairwise (fun p q _ _ h k=>leK_anti h k) hs (sortK_asc l) (hp.trans (zER l).symm)
theorem zJe : ∀ (l : List (Int × Int)) (x y : Int × Int),zj (l ++ [x,y]) = if x = y then zj (l ++ [x]) else zj (l ++ [x]) ++ [y]
 | [],x,y=>by
  show zj [x,y] = _
  unfold zj
  by_cases e : x = y
  ·rw [zMg e,zMg e]; simp [zj,e]
  ·rw [zMe e,zMe e]; simp [zj]
 | [z],x,y=>by
  show zj [z,x,y] = if x = y then zj [z,x] else zj [z,x] ++ [y]
  have e3 : ∀ p q : Int × Int,zj [p,q] = if p = q then [q] else [p,q]:=fun p q=>by simp [zj]
  rw [show zj [z,x,y] = if z = x then zj [x,y] else z :: zj [x,y] from zj.eq_3 z x [y],e3,e3]
  by_cases e : x = y <;> by_cases e2 : z = x <;> simp [e,e2]
 | z :: w :: l,x,y=>by
  have ih:=zJe (w :: l) x y
  show zj (z :: w :: (l ++ [x,y])) = if x = y then zj (z :: w :: (l ++ [x])) else zj (z :: w :: (l ++ [x])) ++ [y]
  rw [zj.eq_3,zj.eq_3]
  have ih : zj (w :: (l ++ [x,y])) = if x = y then zj (w :: (l ++ [x])) else zj (w :: (l ++ [x])) ++ [y]:=ih
  rw [ih]
  by_cases e : x = y <;> by_cases e2 : z = w <;> simp [e,e2]
end Go.AM
set_option maxRecDepth 100000
namespace Go.Proofs.YthllabjbdobpgaaGreatDoor
open Go.AM Go.RowKit Go.Proofs Go.Sort Go.Lib
theorem nan_calls (x : Int) (W : World) : Calls Tryz.prog 72 #[.int .i64 x] W fun e w'=>e = .returned (.bool false) ∧ w' = W:=by
 go_enter Tryz.func72,Tryz.ntmps72
 go_wp2
 go_ret
 exact ⟨by simp,rfl⟩
set_option maxHeartbeats 1000000 in
theorem ccmp_calls (x y : Int) (W : World) : Calls Tryz.prog 48 #[.int .i64 x,.int .i64 y] W fun e w'=>e = .returned (.int .i64 (cmp3 x y)) ∧ w' = W:=by
 have hcon:=fun (x : Int) W'=>nan_calls x W'
 go_enter Tryz.func48,Tryz.ntmps48
 go_wp2_with (go_at_call 72; refine (hcon _ _).mono ?_; rintro e w' ⟨rfl,rfl⟩)
 all_goals (go_ret; refine ⟨?_,rfl⟩; unfold cmp3; (repeat' split) <;> first | rfl | (exfalso; omega))
set_option maxHeartbeats 1000000 in
theorem cor_calls (blk : Nat) (x y : Int) (W : World) (h0 : W.cell? ⟨blk,0,none⟩ = some (.int .i64 x)) (h1 : W.cell? ⟨blk,1,none⟩ = some (.int .i64 y)) :
  Calls Tryz.prog 47 #[.slice (some ⟨blk,0,none⟩) 2 2] W fun e w'=>e = .returned (.int .i64 (if x ≠ 0 then x else y)) ∧ w' = W:=by
 by_cases hx : x = 0 <;> by_cases hy : y = 0
 all_goals
  go_enter Tryz.func47,Tryz.ntmps47
  go_wp2
  go_rounds 3
  all_goals (try go_ret)
 all_goals first | (exfalso; omega) | (refine ⟨?_,rfl⟩; simp [hx,hy]; done) | (refine ⟨?_,rfl⟩; simp [hx]; done)
theorem two_cells (W : World) (a b c d : Value) (t : TypeId) (n : Nat) (W3 : World) (h : ({ (W.alloc (.cells #[a,b] t)).alloc (.cells #[c,d] t) with drawn:=n } : World) = W3) :
  W3.cell? ⟨W.heap.size,0,none⟩ = some a ∧ W3.cell? ⟨W.heap.size,1,none⟩ = some b ∧ W3.cell? ⟨W.heap.size + 1,0,none⟩ = some c ∧ W3.cell? ⟨W.heap.size + 1,1,none⟩ = some d:=by
 have hh : W3.heap = (W.heap.push (.cells #[a,b] t)).push (.cells #[c,d] t):=by rw [← h]; rfl
 have g0 : W3.heap[W.heap.size]? = some (.cells #[a,b] t):=by rw [hh,zNT,Array.size_push,zMe tO,zNT,zMg rfl]
 have g1 : W3.heap[W.heap.size + 1]? = some (.cells #[c,d] t):=by rw [hh,zNT,Array.size_push,zMg rfl]
 refine ⟨?_, ?_, ?_, ?_⟩
 ·simp only [World.cell?,g0]; rfl
 ·simp only [World.cell?,g0]; rfl
 ·simp only [World.cell?,g1]; rfl
 ·simp only [World.cell?,g1]; rfl
theorem new_cells (W : World) (a b : Value) (t : TypeId) : (W.alloc (.cells #[a,b] t)).cell? ⟨W.heap.size,0,none⟩ = some a ∧ (W.alloc (.cells #[a,b] t)).cell? ⟨W.heap.size,1,none⟩ = some b:=by
 have hh : (W.alloc (.cells #[a,b] t)).heap = W.heap.push (.cells #[a,b] t):=rfl
 have g0 : (W.alloc (.cells #[a,b] t)).heap[W.heap.size]? = some (.cells #[a,b] t):=by rw [hh,zNT,zMg rfl]
 refine ⟨?_, ?_⟩
 ·simp only [World.cell?,g0]; rfl
 ·simp only [World.cell?,g0]; rfl
theorem three_grow (W : World) (A B X : Obj) : ({ (W.alloc A).alloc B with drawn:=((W.alloc A).alloc B).drawn + 1 } : World).alloc X = grow (W.drewN 1) #[A,B,X]:=by
 have : ((W.heap.push A).push B).push X = W.heap ++ #[A,B,X]:=by apply zOk; simp only [Array.toList_push,Array.toList_append,zNc,zOc,zN1]
 unfold World.alloc grow World.drewN
 simp only [this]
set_option maxHeartbeats 2000000 in
theorem acmp_calls (x y : Int × Int) (W : World) : Calls Tryz.prog 32 #[.agg #[.int .i64 x.1,.int .i64 x.2],.agg #[.int .i64 y.1,.int .i64 y.2]] W fun e w'=>e = .returned (.int .i64 (cmpC x.1 x.2 y.1 y.2)) ∧ ∃ q os',w' = grow (W.drewN q) os':=by
 have hcon:=fun (x y : Int) W'=>ccmp_calls x y W'
 go_enter Tryz.func32,Tryz.ntmps32
 go_wp2_with (first | (go_at_call 48; refine (hcon _ _ _).mono ?_; rintro e w' ⟨rfl,rfl⟩))
 obtain ⟨W2,hW2⟩ : ∃ W2,(W.alloc (.cells #[.int .i64 x.1,.int .i64 x.2] 41)).alloc (.cells #[.int .i64 y.1,.int .i64 y.2] 41) = W2:=⟨_,rfl⟩
 rw [hW2]
 refine wp_region_still_tail 10 (by kernel_rfl) (by kernel_rfl) ?_
 simp only [List.take_succ_cons,zPU,List.drop_succ_cons,zOs]
 obtain ⟨W3,hW3⟩ : ∃ W3,({ W2 with drawn:=W2.drawn + 1 } : World) = W3:=⟨_,rfl⟩
 rw [hW3]
 obtain ⟨x0,x1,y0,y1⟩:=two_cells W _ _ _ _ _ _ W3 (by rw [← hW3,← hW2])
 still_step; still_step; still_step; still_step
 still_call (hcon x.2 y.2 _)
 still_step; still_step; still_step; still_step
 still_call (hcon x.1 y.1 _)
 refine wpStill_nil ?_
 have hor:=fun (a b : Int) (t : TypeId)=>cor_calls W3.heap.size a b (W3.alloc (.cells #[.int .i64 a,.int .i64 b] t)) (new_cells W3 _ _ t).1 (new_cells W3 _ _ t).2
 go_wp2_with (first | (go_at_call 47; refine (hor _ _ _).mono ?_; rintro e w' ⟨rfl,rfl⟩))
 all_goals
  go_ret
  rw [← hW3,← hW2,three_grow]
  refine ⟨?_,1,_,rfl⟩
  unfold cmpC
  simp_all
end Go.Proofs.YthllabjbdobpgaaGreatDoor
namespace Go.AM
def txT (w a b : List Fil) (p : Int × Int) : Bs:=if zh a p = zh w p then zh b p else zh a p
def zCW (w a b : List Fil) (cs : List (Int × Int)) : List Fil:=(cs.filter fun p=>decide (txT w a b p ≠ [])).map fun p=>⟨p.1,p.2,txT w a b p⟩
def bothP (w a b : List Fil) (p : Int × Int) : Prop:=zh a p ≠ zh w p ∧ zh b p ≠ zh w p ∧ zh a p ≠ zh b p
instance (w a b : List Fil) (p : Int × Int) : Decidable (bothP w a b p):=by unfold bothP; infer_instance
def zF8 (w a b : List Fil) (cs : List (Int × Int)) : List (Int × Int):=cs.filter fun p=>decide (bothP w a b p)
theorem zMa (w a b : List Fil) {cs : List (Int × Int)} (h : Asc cs) : Srtd (zCW w a b cs):=by
 unfold zCW
 exact zPG.2 ((h.filter _).imp fun {p q} k=>k)
theorem threeO_ne (w a b : List Fil) (cs : List (Int × Int)) : ∀ f ∈ zCW w a b cs,f.text ≠ []:=fun f hf=>by
 obtain ⟨p,hp,rfl⟩:=zM9.1 hf
 simpa using (zNW.1 hp).2
theorem zCg {ls : List (List Fil)} {cs : List (Int × Int)} (hc : IsCells ls cs) {p : Int × Int} (h : p ∉ cs) {l : List Fil} (hl : l ∈ ls) : zh l p = []:=zC5 fun k=>h ((hc.2 p).2 ⟨l,hl,k⟩)
theorem textAt_threeO {w a b : List Fil} {cs : List (Int × Int)} (hc : IsCells [w,a,b] cs) (p : Int × Int) : zh (zCW w a b cs) p = txT w a b p:=by
 by_cases hm : p ∈ cs ∧ txT w a b p ≠ []
 ·exact zMZ (zMa w a b hc.1) ⟨⟨p.1,p.2,txT w a b p⟩,zM9.2 ⟨p,zNW.2 ⟨hm.1,by simpa using hm.2⟩,rfl⟩,rfl,rfl⟩
 ·have e : txT w a b p = []:=by
   by_cases h : p ∈ cs
   ·exact zNy fun k=>hm ⟨h,k⟩
   ·unfold txT
    rw [zCg hc h (l:=w) (by simp),zCg hc h (l:=a) (by simp),zCg hc h (l:=b) (by simp)]
    simp
  rw [e]
  refine zC5 fun k=>?_
  obtain ⟨f,hf,rfl⟩:=zM9.1 k
  obtain ⟨q,hq,rfl⟩:=zM9.1 hf
  obtain ⟨h1,h2⟩:=zNW.1 hq
  have h2 : txT w a b q ≠ []:=by simpa using h2
  exact h2 e
end Go.AM
namespace Go.AM
end Go.AM
