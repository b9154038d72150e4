/- Several texts of mine in one (Fsc, Fsd, Fsf, Fsg, Pre). Own work. -/
import Derived.Test.YtgcggndacnmhfaaGreatDoorGItQFsb
import Derived.Test.YtgcggndacnmhfaaGreatDoorGAm23Bc
import Derived.Test.YtgcggndacnmhfaaGreatDoorGFs7Fse
set_option linter.all false
set_option maxRecDepth 20000
namespace Go.AM
def zKf (f : FormP) (s : Bs1) : FormP × Bool:=if zc s = 0 then (f,false) else zD9 { f with least:=zc s } (s.drop (zc s))
def zEA (f : FormP) (s : Bs1) : FormP × Bool:=zKf { f with group:=zCU s } (ze s)
theorem zKg {s c : Bs1} {i : Nat} (h : s.drop i = c) (hi : i + 1 < s.length) : ((s.drop i).take (i + 2 - i) == ([35,44] : Bs1)) = zCU c:=by
 rw [h,show i + 2 - i = 2 by omega]; rfl
theorem zHk {c : Bs1} (h : c.length ≤ 1) : zCU c = false:=by
 match c,h with
 | [],_=>rfl
 | [a],_=>exact tN (by simp)
section
variable {C : CSpec} {GT : Nat → Option AV}
set_option maxHeartbeats 8000000 in
theorem zNh {H H1 : Heap} {b2 b4 i : Nat} (hO : Old H H1) (l2 : H.length ≤ b2) (d : b2 ≠ b4) (f : FormP) (hp0 : f.point = 0) (hl0 : f.least = 0) (h2 : H1[b2]? = some (.box (zC ⟨[],[],false,0,0⟩).cells)) (h4 : H1[b4]? = some (.box (zC f).cells)) (l4 : H.length ≤ b4) (s c : Bs1) (hs : s.drop i = c) (hi : i ≤ s.length) (hl : s.length ≤ 40) :
  EW C GT (zAF.behind 6) (zIu zp H (.tup [zC (zKf f c).1,.bool (zKf f c).2]) H) [(2,.ref b2 0 0 0),(4,.ref b4 0 0 0),(0,.str s),(5,zu i)] H1:=by
 have g2:=(zg h2).1
 have g4:=(zg h4).1
 have key:=fun (H1 : Heap) (hO : Old H H1) f hp0 c i h2 h4 hs hi=>zNg (C:=C) (GT:=GT) (H:=H) (H1:=H1) (b2:=b2) (b4:=b4) (i:=i) hO l2 d f hp0 h2 h4 l4 s c hs hi hl
 have hz:=zGw c
 have hrl : c.length = s.length - i:=by rw [← hs,List.length_drop]
 have hg : ∀ j,s[i + j]? = c[j]?:=fun j=>by rw [← hs,List.getElem?_drop]
 have hdd : s.drop (i + zc c) = c.drop (zc c):=by rw [← hs,List.drop_drop]
 refine zE6 (fun j : Nat=>[(5,zu (i + j)),(4,.ref b4 0 0 0),(2,.ref b2 0 0 0),(0,.str s)]) (fun j H'=>H' = H1.set b4 (.box (zC { f with least:=j }).cells) ∧ j ≤ zc c) (fun j=>zc c - j) 0 rfl ⟨by rw [show ({ f with least:=0 } : FormP) = f by rw [← hl0]]; exact (zIA h4).symm,Nat.zero_le _⟩ (fun j H2 hi2=>?_)
 obtain ⟨rfl,j2⟩:=hi2
 have h4j:=zH (x:=ABlk.box (zC { f with least:=j }).cells) h4
 have h2j:=zI (b:=b4) (x:=ABlk.box (zC { f with least:=j }).cells) (fun e=>d e.symm) h2
 by_cases hj : j < zc c
 ·have hx : s[i + j]? = some 48:=by rw [hg]; exact zKI hj
  have hj3:=(zg hx).1
  refine zq tT <| zEm rfl hx <| zE <| zE <| zA (zu j) h4j rfl <| zAf (r:=j + 1) rfl tO ?_; refine zJ (v:=zu (j + 1)) (zC { f with least:=j + 1 }).cells h4j rfl rfl rfl rfl <| zAf (r:=i + (j + 1)) tO tO ?_
  exact zEq (j + 1) rfl ⟨by rw [List.set_set],by omega⟩ tO
 ·obtain rfl : j = zc c:=by omega
  have hend : s[i + zc c]? ≠ some 48:=by rw [hg]; exact zKJ
  have keyz:=key _ (hO.set l4 _) { f with least:=zc c } hp0 (c.drop (zc c)) (i + zc c) h2j h4j hdd tO
  unfold zKf
  generalize hzz : zc c = p at *
  by_cases hp : p = 0
  ·rw [if_pos hp]
   have e0 : ({ f with least:=p } : FormP) = f:=by rw [hp,← hl0]
   rw [e0] at h4j ⊢
   by_cases hlt : i + p < s.length
   ·obtain ⟨x,hx⟩ : ∃ x,s[i + p]? = some x:=⟨_,List.getElem?_eq_getElem hlt⟩
    have hx48 : x.toNat ≠ 48:=fun h=>hend (by rw [hx]; exact congrArg some (UInt8.toNat_inj.1 h))
    refine zq tT <| zEm rfl hx <| zE <| zU tF <| zA (zu f.least) h4j rfl <| zq tT ?_; refine zA (zC f) h4j rfl <| zJ (v:=zC f) (AV.cells (zC f)) (zI tA h2) rfl rfl rfl rfl ?_
    exact zQ (o:=0) rfl rfl (zk (zH (zI tA h2))) rfl rfl rfl rfl ((hO.set tA _).set tA _)
   ·refine zU tF <| zD <| zD <| zA (zu f.least) h4j rfl <| zq tT <| zA (zC f) h4j rfl ?_; refine zJ (v:=zC f) (AV.cells (zC f)) (zI tA h2) rfl rfl rfl rfl ?_
    exact zQ (o:=0) rfl rfl (zk (zH (zI tA h2))) rfl rfl rfl rfl ((hO.set tA _).set tA _)
  ·rw [if_neg hp]
   by_cases hlt : i + p < s.length
   ·obtain ⟨x,hx⟩ : ∃ x,s[i + p]? = some x:=⟨_,List.getElem?_eq_getElem hlt⟩
    have hx48 : x.toNat ≠ 48:=fun h=>hend (by rw [hx]; exact congrArg some (UInt8.toNat_inj.1 h))
    refine zq tT <| zEm rfl hx <| zE <| zU tF <| zA (zu p) h4j rfl <| zU tF ?_; refine zAo rfl keyz ?_
    rfl
   ·refine zU tF <| zD <| zD <| zA (zu p) h4j rfl <| zU tF <| zAo rfl keyz ?_
    rfl
set_option maxHeartbeats 8000000 in
theorem zNi {H H1 : Heap} {b2 b4 i : Nat} (hO : Old H H1) (l2 : H.length ≤ b2) (d : b2 ≠ b4) (f : FormP) (hp0 : f.point = 0) (hl0 : f.least = 0) (hg0 : f.group = false) (h2 : H1[b2]? = some (.box (zC ⟨[],[],false,0,0⟩).cells)) (h4 : H1[b4]? = some (.box (zC f).cells)) (l4 : H.length ≤ b4) (s c : Bs1) (hs : s.drop i = c) (hi : i ≤ s.length) (hl : s.length ≤ 40) :
  EW C GT (zAF.behind 5) (zIu zp H (.tup [zC (zEA f c).1,.bool (zEA f c).2]) H) [(2,.ref b2 0 0 0),(4,.ref b4 0 0 0),(0,.str s),(5,zu i)] H1:=by
 have g2:=(zg h2).1
 have g4:=(zg h4).1
 have key:=fun (H1 : Heap) (hO : Old H H1) f hp0 hl0 c i h2 h4 hs hi=>zNh (C:=C) (GT:=GT) (H:=H) (H1:=H1) (b2:=b2) (b4:=b4) (i:=i) hO l2 d f hp0 hl0 h2 h4 l4 s c hs hi hl
 have hrl : c.length = s.length - i:=by rw [← hs,List.length_drop]
 unfold zEA
 by_cases hlt : i + 1 < s.length
 ·have hsl : zf none (.str s) (some (zu i)) (some (zu (i + 2))) = some (.str ((s.drop i).take (i + 2 - i))):=zGJ s i (i + 2) tO tO
  have hh:=zKg hs hlt
  cases hP : zCU c with
  | true=>
   rw [hP] at hh
   have hR : ze c = c.drop 2:=if_pos hP
   have h4':=zH (x:=ABlk.box (zC { f with group:=true }).cells) h4
   have h2':=zI (b:=b4) (x:=ABlk.box (zC { f with group:=true }).cells) (fun e=>d e.symm) h2
   have keyz:=key _ (hO.set l4 _) { f with group:=true } hp0 hl0 (c.drop 2) (i + 2) h2' h4' (by rw [← hs,List.drop_drop]) tO
   rw [hR]
   refine zAf (r:=i + 1) rfl tO <| zq tT <| zAf (r:=i + 2) rfl tO <| za hsl <| zE <| zq hh ?_; refine zJ (v:=AV.bool true) (zC { f with group:=true }).cells h4 rfl rfl rfl rfl <| zAf (r:=i + 2) rfl tO <| zAo rfl keyz ?_
   rfl
  | false=>
   rw [hP] at hh
   have hR : ze c = c:=if_neg (by rw [hP]; decide)
   have keyz:=key _ hO f hp0 hl0 c i h2 h4 hs hi
   rw [hR,show ({ f with group:=false } : FormP) = f by rw [← hg0]]
   refine zAf (r:=i + 1) rfl tO <| zq tT <| zAf (r:=i + 2) rfl tO <| za hsl <| zE <| zU hh ?_; refine zAo rfl keyz ?_
   rfl
 ·have hP:=zHk (c:=c) tO
  have hR : ze c = c:=if_neg (by rw [hP]; decide)
  have keyz:=key _ hO f hp0 hl0 c i h2 h4 hs hi
  rw [hR,hP,show ({ f with group:=false } : FormP) = f by rw [← hg0]]
  refine zAf (r:=i + 1) rfl tO <| zU tF <| zD <| zD <| zAo rfl keyz ?_
  rfl
end
end Go.AM
set_option maxRecDepth 20000
namespace Go.AM
def zF : FormP:=⟨[],[],false,0,0⟩
def zDm (s : Bs1) : FormP × Bool:=if 40 < s.length then (zF,false) else match zAG s with
 | none=>(zF,false)
 | some (a,r)=>zEA { zF with ahead:=a } r
theorem zFh (f : FormP) (h0 : f.behind = []) (s : Bs1) : (∃ b,zDV s = some b ∧ zCi f s = ({ f with behind:=b },true)) ∨ (zDV s = none ∧ (zCi f s).2 = false):=by
 cases s with
 | nil=>exact .inl ⟨[],rfl,by show (f,true) = _; rw [← h0]⟩
 | cons c r=>
  unfold zDV zCi
  by_cases h37 : c :: r = [37]
  ·rw [if_pos h37]; simp only [if_pos h37]; exact .inl ⟨_,rfl,rfl⟩
  ·rw [if_neg h37]; simp only [if_neg h37,zAG]
   by_cases h34 : c = 34
   ·simp only [if_pos h34]
    cases hf : fcut r with
    | none=>exact .inr ⟨rfl,rfl⟩
    | some p=>
     obtain ⟨b,t⟩:=p
     cases t with
     | nil=>exact .inl ⟨_,rfl,rfl⟩
     | cons _ _=>exact .inr ⟨rfl,rfl⟩
   ·simp only [if_neg h34]; exact .inr (by constructor <;> first | trivial | rfl)
theorem zI8 (f : FormP) (h0 : f.behind = []) (hp : f.point = 0) (s : Bs1) : (∃ b p r,zBV s = some (p,r) ∧ zDV r = some b ∧ zD9 f s = ({ f with behind:=b,point:=p },true)) ∨ ((∀ p r,zBV s = some (p,r) → zDV r = none) ∧ (zD9 f s).2 = false):=by
 have go : ∀ (f : FormP),f.behind = [] → ∀ r p,f.point = p → zBV s = some (p,r) → zD9 f s = zCi f r → (∃ b p r,zBV s = some (p,r) ∧ zDV r = some b ∧ zD9 f s = ({ f with behind:=b,point:=p },true)) ∨ ((∀ p r,zBV s = some (p,r) → zDV r = none) ∧ (zD9 f s).2 = false):=fun f h0 r p hp e1 e2=>by
  rcases zFh f h0 r with ⟨b,h1,h2⟩ | ⟨h1,h2⟩
  ·exact .inl ⟨b,p,r,e1,h1,by rw [e2,h2,← hp]⟩
  ·exact .inr ⟨fun p' r' h=>by rw [e1] at h; cases h; exact h1,by rw [e2]; exact h2⟩
 cases s with
 | nil=>exact go f h0 [] 0 hp rfl rfl
 | cons c r=>
  by_cases h46 : c = 46
  ·have e : zD9 f (c :: r) = if zc r < 1 ∨ 6 < zc r then ({ f with point:=zc r },false) else zCi { f with point:=zc r } (r.drop (zc r)):=if_pos h46
   have e1 : zBV (c :: r) = if 1 ≤ zc r ∧ zc r ≤ 6 then some (zc r,r.drop (zc r)) else none:=if_pos h46
   rw [e,e1]
   by_cases hz : zc r < 1 ∨ 6 < zc r
   ·rw [if_pos hz,if_neg tO]; exact .inr ⟨fun p r h=>(by cases h),rfl⟩
   ·rw [if_neg hz,if_pos tO]
    rcases zFh { f with point:=zc r } h0 (r.drop (zc r)) with ⟨b,h1,h2⟩ | ⟨h1,h2⟩
    ·exact .inl ⟨b,_,_,rfl,h1,h2⟩
    ·exact .inr ⟨fun p' r' h=>by cases h; exact h1,h2⟩
  ·exact go f h0 (c :: r) 0 hp (if_neg h46) (if_neg h46)
theorem zI9 (s : Bs1) : (∃ f,zGy s = some f ∧ zDm s = (f,true)) ∨ (zGy s = none ∧ (zDm s).2 = false):=by
 unfold zGy zDm
 by_cases hl : 40 < s.length
 ·rw [if_pos hl,if_pos hl]; exact .inr ⟨rfl,rfl⟩
 ·rw [if_neg hl,if_neg hl]
  cases zAG s with
  | none=>exact .inr ⟨rfl,rfl⟩
  | some q=>
   obtain ⟨a,r⟩:=q
   show (∃ f,zGx a r = some f ∧ zEA { zF with ahead:=a } r = (f,true)) ∨ (zGx a r = none ∧ (zEA { zF with ahead:=a } r).2 = false)
   unfold zGx zEA zKf
   by_cases hz : zc (ze r) = 0
   ·rw [if_pos hz]
    refine .inr ⟨?_,rfl⟩
    cases zBV ((ze r).drop (zc (ze r))) with
    | none=>rfl
    | some p=>obtain ⟨p,r2⟩:=p; cases h : zDV r2 with
     | none=>simp only [h]
     | some b=>simp only [h,if_pos hz]
   ·rw [if_neg hz]
    rcases zI8 (⟨a,[],zCU r,zc (ze r),0⟩) rfl rfl ((ze r).drop (zc (ze r))) with ⟨b,p,r2,h1,h2,h3⟩ | ⟨h1,h2⟩
    ·refine .inl ⟨⟨a,b,zCU r,zc (ze r),p⟩, ?_,h3⟩
     rw [h1]; simp only [h2,if_neg hz]
    ·refine .inr ⟨?_,h2⟩
     cases hp : zBV ((ze r).drop (zc (ze r))) with
     | none=>rfl
     | some p=>obtain ⟨p,r2⟩:=p; simp only [h1 p r2 hp]
section
variable {C : CSpec} {GT : Nat → Option AV}
set_option maxHeartbeats 8000000 in
theorem zNj {H H1 : Heap} {b2 b4 : Nat} (hO : Old H H1) (l2 : H.length ≤ b2) (d : b2 ≠ b4) (h2 : H1[b2]? = some (.box (zC zF).cells)) (h4 : H1[b4]? = some (.box (zC zF).cells)) (l4 : H.length ≤ b4) (s : Bs1) (hl : s.length ≤ 40) (w : FormP × Bool) (hw : zDm s = w) :
  EW C GT (zAF.behind 4) (zIu zp H (.tup [zC w.1,.bool w.2]) H) [(2,.ref b2 0 0 0),(4,.ref b4 0 0 0),(0,.str s),(5,zu 0)] H1:=by
 have g2:=(zg h2).1
 have g4:=(zg h4).1
 have key:=fun (H1 : Heap) (hO : Old H H1) f hp0 hl0 hg0 c i h2 h4 hs hi=>zNi (C:=C) (GT:=GT) (H:=H) (H1:=H1) (b2:=b2) (b4:=b4) (i:=i) hO l2 d f hp0 hl0 hg0 h2 h4 l4 s c hs hi hl
 have hw : (match zAG s with
  | none=>(zF,false)
  | some (a,r)=>zEA { zF with ahead:=a } r) = w:=by rw [← hw]; exact (if_neg tO).symm
 cases s with
 | nil=>
  have hw : zEA zF [] = w:=hw
  rw [← hw]
  have keyz:=key _ hO zF rfl rfl rfl [] 0 h2 h4 rfl (Nat.zero_le _)
  refine zD <| zD <| zD <| zAo rfl keyz ?_
  rfl
 | cons c r=>
  have hc : (c :: r)[0]? = some c:=rfl
  by_cases h34 : c = 34
  ·subst h34
   have hw : (match fcut r with
    | none=>(zF,false)
    | some (a,t)=>zEA { zF with ahead:=a } t) = w:=hw
   simp only [List.length_cons] at hl
   obtain ⟨e,e1,e2,e3,e4⟩:=zII (s:=34 :: r) (r:=r) (a:=1) rfl (by simp)
   simp only [List.length_cons] at e2
   refine zq tT <| zEm (i:=0) rfl hc <| zE <| zE <| zAf (r:=1) rfl tO ?_; refine zE6 (fun j : Nat=>[(5,zu j),(2,.ref b2 0 0 0),(4,.ref b4 0 0 0),(0,.str (34 :: r)),(6,zu 1)]) (fun j H'=>H' = H1 ∧ 1 ≤ j ∧ j ≤ e) (fun j=>e - j) 1 rfl ⟨rfl,Nat.le_refl _,e1⟩ (fun j H2 hi2=>?_)
   obtain ⟨rfl,j1,j2⟩:=hi2
   by_cases hje : j < e
   ·obtain ⟨x,hx,hx34⟩:=e3 j j1 hje
    have hx34' : x.toNat ≠ 34:=fun h=>hx34 (UInt8.toNat_inj.1 h)
    have hxn : (((x.toNat : Nat) : Int) != 34) = true:=bne_iff_ne.2 tO
    refine zq (tT (by simp only [List.length_cons]; omega)) <| zEm rfl hx <| zE <| zq hxn <| zAf (r:=j + 1) rfl tO ?_
    exact zEq (j + 1) rfl ⟨rfl,by omega,by omega⟩ tO
   ·obtain rfl : j = e:=by omega
    rcases e4 with ⟨hf,he⟩ | ⟨bb,t,hf,h34e,hel,hbb,htt,htl⟩
    ·rw [hf] at hw
     rw [← hw]
     subst he
     have hq : ((((34 :: r : Bs1).length : Nat) : Int) == (((34 :: r : Bs1).length : Nat) : Int)) = true:=beq_self_eq_true _
     refine zU tF <| zD <| zD <| zq tT <| zA (zC zF) h4 rfl <| zJ (v:=zC zF) (AV.cells (zC zF)) h2 rfl rfl rfl rfl ?_
     exact zQ (o:=0) rfl rfl (zk (zH h2)) rfl rfl rfl rfl (hO.set tA _)
    ·rw [hf] at hw
     have hw : zEA { zF with ahead:=bb } t = w:=hw
     rw [← hw]
     simp only [List.length_cons] at hel htl
     have hsb : zf none (.str (34 :: r)) (some (zu 1)) (some (zu j)) = some (.str bb):=by rw [← hbb]; exact zGJ (34 :: r) 1 j j1 (by simp only [List.length_cons]; omega)
     have h4':=zH (x:=ABlk.box (zC { zF with ahead:=bb }).cells) h4
     have h2':=zI (b:=b4) (x:=ABlk.box (zC { zF with ahead:=bb }).cells) (fun e=>d e.symm) h2
     have hq : (((j : Nat) : Int) == (((34 :: r : Bs1).length : Nat) : Int)) = false:=tN (by simp only [List.length_cons]; omega)
     have keyz:=key _ (hO.set l4 _) { zF with ahead:=bb } rfl rfl rfl t (j + 1) h2' h4' htt (by simp only [List.length_cons]; omega)
     refine zq (tT (by simp only [List.length_cons]; omega)) <| zEm rfl h34e <| zE <| zD <| zU hq <| za hsb ?_; refine zJ (v:=AV.str bb) (zC { zF with ahead:=bb }).cells h4 rfl rfl rfl rfl <| zAf (r:=j + 1) rfl tO ?_
     exact zAo rfl keyz rfl
  ·have e : zAG (c :: r) = some ([],c :: r):=if_neg h34
   rw [e] at hw
   have hw : zEA zF (c :: r) = w:=hw
   rw [← hw]
   have h34' : c.toNat ≠ 34:=fun h=>h34 (UInt8.toNat_inj.1 h)
   have keyz:=key _ hO zF rfl rfl rfl (c :: r) 0 h2 h4 rfl (Nat.zero_le _)
   refine zq (tT (by simp only [List.length_cons]; omega)) <| zEm (i:=0) rfl hc <| zE <| zU tF <| zAo rfl keyz ?_
   rfl
theorem zMr (s : Bs1) (H : Heap) : EFun C GT zp [.str s] H (.tup [zC (zDm s).1,.bool (zDm s).2]) H:=by
 refine zS ?_
 have key:=fun (H1 : Heap) (b2 b4 : Nat) (hO : Old H H1) l2 d h2 h4 l4 hl=>zNj (C:=C) (GT:=GT) (H:=H) (H1:=H1) (b2:=b2) (b4:=b4) hO l2 d h2 h4 l4 s hl (zDm s) rfl
 by_cases hl : 40 < s.length
 ·have e : zDm s = (zF,false):=if_pos hl
  rw [e]
  refine za (v:=[AV.str [],AV.str [],AV.bool false,.int .i64 0,.int .i64 0]) rfl <| zJ (v:=AV.agg [AV.str [],AV.str [],AV.bool false,.int .i64 0,.int .i64 0]) (AV.cells (AV.agg [AV.str [],AV.str [],AV.bool false,.int .i64 0,.int .i64 0])) zB rfl rfl rfl rfl <| zq tT <| zA (AV.agg [AV.str [],AV.str [],AV.bool false,.int .i64 0,.int .i64 0]) (zH zB) rfl <| zJ (v:=AV.agg [AV.str [],AV.str [],AV.bool false,.int .i64 0,.int .i64 0]) (AV.cells (AV.agg [AV.str [],AV.str [],AV.bool false,.int .i64 0,.int .i64 0])) (zI tA (zT zB)) rfl rfl rfl rfl ?_
  exact zQ (o:=0) rfl rfl (zk (zH (zI tA (zT zB)))) rfl rfl rfl rfl (((((Old.refl _).push _).push _).set tA _).set tA _)
 ·refine za (v:=[AV.str [],AV.str [],AV.bool false,.int .i64 0,.int .i64 0]) rfl <| zJ (v:=AV.agg [AV.str [],AV.str [],AV.bool false,.int .i64 0,.int .i64 0]) (AV.cells (AV.agg [AV.str [],AV.str [],AV.bool false,.int .i64 0,.int .i64 0])) zB rfl rfl rfl rfl <| zU tF ?_
  exact zAo rfl (key _ H.length (H ++ [ABlk.box (zC zF).cells]).length ((((Old.refl H).push _).push _).set (by simp) _) (Nat.le_refl _) (by simp) (zI (by simp) (zT zB)) (zH zB) (by simp) tO) rfl
end
end Go.AM
set_option maxRecDepth 20000
namespace Go.AM
theorem zLq (k n : Nat) (h : n < 10 ^ k) (hk : 1 ≤ k) : (zBe n).length ≤ k:=by
 unfold zBe
 split
 ·exact hk
 ·rw [List.length_reverse]; exact zGB k n h
theorem zLr (n : Nat) : 1 ≤ (zBe n).length:=List.length_pos_iff.2 (zMW n)
theorem zLs {s r : Bs1} {p : Nat} (h : zBV s = some (p,r)) : p ≤ 6 ∧ r.length ≤ s.length:=by
 cases s with
 | nil=>cases h; exact ⟨Nat.zero_le _,Nat.le_refl _⟩
 | cons c t=>
  have h : (if c = 46 then (if 1 ≤ zc t ∧ zc t ≤ 6 then some (zc t,t.drop (zc t)) else none) else some (0,c :: t)) = some (p,r):=h
  by_cases hc : c = 46
  ·rw [if_pos hc] at h
   by_cases hz : 1 ≤ zc t ∧ zc t ≤ 6
   ·rw [if_pos hz] at h
    cases h
    refine ⟨hz.2, ?_⟩
    rw [List.length_drop,List.length_cons]; omega
   ·rw [if_neg hz] at h; cases h
  ·rw [if_neg hc] at h
   cases h
   exact ⟨Nat.zero_le _,Nat.le_refl _⟩
theorem zLt {s b : Bs1} (h : zDV s = some b) : b.length ≤ s.length:=by
 unfold zDV at h
 by_cases h37 : s = [37]
 ·rw [if_pos h37] at h; cases h; rw [h37]; exact Nat.le_refl _
 ·rw [if_neg h37] at h
  cases hq : zAG s with
  | none=>rw [hq] at h; cases h
  | some x=>
   obtain ⟨u,v⟩:=x
   rw [hq] at h
   have:=zDl hq
   cases v with
   | nil=>cases h; omega
   | cons c t=>cases h
theorem zMs {s : Bs1} {f : FormP} (h : zGy s = some f) : 1 ≤ f.least ∧ f.least ≤ 40 ∧ f.point ≤ 6 ∧ f.ahead.length ≤ 40 ∧ f.behind.length ≤ 40:=by
 unfold zGy at h
 by_cases hl : 40 < s.length
 ·rw [if_pos hl] at h; cases h
 rw [if_neg hl] at h
 cases hq : zAG s with
 | none=>rw [hq] at h; cases h
 | some x=>
  obtain ⟨a,r⟩:=x
  rw [hq] at h
  have l1:=zDl hq
  have l2 : (ze r).length ≤ r.length:=by
   unfold ze
   split
   ·rw [List.length_drop]; omega
   ·exact Nat.le_refl _
  have l3:=zGw (ze r)
  have h : zGx a r = some f:=h
  unfold zGx at h
  cases hp : zBV ((ze r).drop (zc (ze r))) with
  | none=>rw [hp] at h; cases h
  | some y=>
   obtain ⟨p,r2⟩:=y
   rw [hp] at h
   obtain ⟨l4,l5⟩:=zLs hp
   rw [List.length_drop] at l5
   dsimp only at h
   cases ht : zDV r2 with
   | none=>rw [ht] at h; cases h
   | some b=>
    rw [ht] at h
    have l6:=zLt ht
    dsimp only at h
    by_cases hz : zc (ze r) = 0
    ·rw [if_pos hz] at h; cases h
    ·rw [if_neg hz] at h
     cases h
     dsimp only
     omega
theorem zNk {n : Int} (h : zCf n) : 1 ≤ (zBe n.natAbs).length ∧ (zBe n.natAbs).length ≤ 19:=by
 refine ⟨zLr _,zLq 19 _ ?_ tO⟩
 have : (10 : Nat) ^ 19 = 10000000000000000000:=by decide
 rw [this]
 unfold zCf at h; omega
end Go.AM
namespace Go.AM
theorem zKh (s : Bs1) : (∃ f,zGy s = some f ∧ zDm s = (f,true) ∧ zAL s = (f,true)) ∨ ((zDm s).2 = false ∧ (zAL s).2 = false):=by
 have hr:=zKM s
 rcases zI9 s with ⟨f,h1,h2⟩ | ⟨h1,h2⟩
 ·rw [h1] at hr
  by_cases h : (zAL s).2 = true
  ·rw [if_pos h] at hr
   refine .inl ⟨f,h1,h2, ?_⟩
   have e:=Option.some.inj hr
   rw [e,← h]
  ·rw [if_neg h] at hr; cases hr
 ·rw [h1] at hr
  refine .inr ⟨h2, ?_⟩
  by_cases h : (zAL s).2 = true
  ·rw [if_pos h] at hr; cases hr
  ·exact Bool.not_eq_true _ ▸ h
end Go.AM
namespace Go.AM
theorem zKi (s : List UInt8) (n : Nat) (h : n ≤ s.length) : zf none (.str s) none (some (.int .i64 (n : Int))) = some (.str (s.take n)):=by
 simp only [zf,zAv,aHi,aLo]
 rw [if_pos ⟨by omega,by omega⟩]
 simp
theorem zBD : ∀ (p s : List UInt8),p.isPrefixOf s = (decide (p.length ≤ s.length) && (s.take p.length == p))
 | [],s=>by simp
 | a :: p,[]=>by simp
 | a :: p,b :: s=>by
  simp only [List.isPrefixOf,zBD p s,List.length_cons,List.take_succ_cons]
  rw [Bool.eq_iff_iff]
  simp only [Bool.and_eq_true,beq_iff_eq,decide_eq_true_eq,List.cons.injEq]
  constructor
  ·rintro ⟨h1,h2,h3⟩; exact ⟨by omega,h1.symm,h3⟩
  ·rintro ⟨h1,h2,h3⟩; exact ⟨h2.symm,by omega,h3⟩
section
variable {C : CSpec} {GT : Nat → Option AV}
theorem zG9 (s p : List UInt8) (H : Heap) : EFun C GT zAt [.str s,.str p] H (.bool (p.isPrefixOf s)) H:=by
 refine zE5 (fun h=>?_) (fun h=>?_)
 ·have h : p.length ≤ s.length:=by
   have:=of_decide_eq_true h
   omega
  have e : p.isPrefixOf s = (s.take p.length == p):=by rw [zBD,decide_eq_true h,Bool.true_and]
  rw [e]
  refine za (zKi s p.length h) <| zE ?_
  exact sRr
 ·have h : ¬ p.length ≤ s.length:=by
   have:=of_decide_eq_false h
   omega
  have e : p.isPrefixOf s = false:=by rw [zBD,decide_eq_false h,Bool.false_and]
  rw [e]
  refine zD ?_
  exact sRr
end
end Go.AM
