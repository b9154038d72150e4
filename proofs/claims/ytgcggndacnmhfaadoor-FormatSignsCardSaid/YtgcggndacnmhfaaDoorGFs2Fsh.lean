/- Several texts of mine in one (Fs2, Bg0, Fsf, Pre, Fsh). Own work. -/
import Derived.Test.YtgcggndacnmhfaaDoorGItdErr
import Derived.Test.YtgcggndacnmhfaaDoorGFp1Fs1
import Derived.Test.YtgcggndacnmhfaaDoorGAm22Cc
import Derived.Test.YtgcggndacnmhfaaDoorGItQFp0
import Derived.Lib.Strings
set_option linter.all false
set_option maxRecDepth 20000
namespace Go.AM
theorem zCo (s : Bs) (a : Nat) (h : a ≤ s.length) : zk none (.str s) (some (.int .i64 (a : Int))) none = some (.str (s.drop a)):=by
 simp only [zk,zAo,aHi,aLo]
 have h1 : ¬ ((a : Int) < 0):=by omega
 have e1 : (a : Int).toNat = a:=Int.toNat_natCast a
 simp [h1,e1,h]
section
variable {C : CSpec} {GT : Nat → Option AV}
abbrev Bs1:=List UInt8
def zGq (s : Bs1) : AV:=match zAD s with
 | some (a,r)=>.tup [.str a,.str r,.bool true]
 | none=>.tup [.str (s.drop 1),.str [],.bool false]
abbrev CutH (C : CSpec) : Prop:=∀ (s : Bs1) H,s.length ≤ 1000 → C zAk [.str s,.str [34]] H (.tup [.str (Lib.cut s [34]).1,.str (Lib.cut s [34]).2.1,.bool (Lib.cut s [34]).2.2]) H
abbrev TriH (C : CSpec) : Prop:=∀ (s : Bs1) H,s.length ≤ 1000 → C zu [.str s,.str [48]] H (.str (Lib.trimLeftB s 48)) H
abbrev CpxH (C : CSpec) : Prop:=∀ (s p : Bs1) H,s.length ≤ 1000 → C zq [.str s,.str p] H (.tup [.str (Lib.trimPrefix s p),.bool (Lib.hasPrefix s p)]) H
theorem zI8 (hC : CutH C) (s : Bs1) (hl : s.length ≤ 40) (H : Heap) : EFun C GT zBr [.str s] H (zGq s) H:=by
 refine zr ?_
 cases s with
 | nil=>
  clear hC
  refine zP <| zP <| zP ?_
  exact sRr
 | cons c r=>
  have hne : (c :: r == ([] : Bs1)) = false:=rfl
  have hc : (c :: r)[0]? = some c:=rfl
  by_cases h34 : c = 34
  ·subst h34
   have hl2 : r.length ≤ 1000:=by simp only [List.length_cons] at hl; omega
   have hk:=fun H=>hC r H hl2
   rw [zLt] at hk
   have hs : zk none (.str (34 :: r)) (some (.int .i64 1)) none = some (.str r):=zCo (34 :: r) 1 (by simp)
   clear hC
   have eq : zGq (34 :: r) = match fcut r with
    | some (a,b)=>.tup [.str a,.str b,.bool true]
    | none=>.tup [.str r,.str [],.bool false]:=rfl
   rw [eq]
   cases hf : fcut r with
   | none=>
    rw [hf] at hk
    refine zAI hne <| zFv (i:=0) rfl hc <| zAI hne <| zAI hne <| zR hs <| zB (hk _) ?_; refine zR rfl <| zR rfl <| zR rfl ?_
    exact sRr
   | some p=>
    obtain ⟨a,b⟩:=p
    rw [hf] at hk
    refine zAI hne <| zFv (i:=0) rfl hc <| zAI hne <| zAI hne <| zR hs <| zB (hk _) ?_; refine zR rfl <| zR rfl <| zR rfl ?_
    exact sRr
  ·have h34' : c.toNat ≠ 34:=fun e=>h34 (UInt8.toNat_inj.1 e)
   have q : zAD (c :: r) = some ([],c :: r):=if_neg h34
   have e : zGq (c :: r) = .tup [.str [],.str (c :: r),.bool true]:=by unfold zGq; rw [q]
   have hb : (((c.toNat : Nat) : Int) != 34) = true:=bne_iff_ne.2 tO
   rw [e]
   clear hC
   refine zAI hne <| zFv (i:=0) rfl hc <| zAI hne <| zBc hb ?_
   exact sRr
theorem zJ9 (hT : TriH C) (s : Bs1) (hl : s.length ≤ 1000) (H : Heap) : EFun C GT zB4 [.str s] H (zAw (zc s)) H:=by
 have hk:=fun H=>hT s H hl
 rw [zI3] at hk
 have hz:=zH7 s
 clear hT
 refine zr ?_; refine zB (hk _) <| zBq (r:=zc s) (by rw [List.length_drop]; omega) tO ?_
 exact sRr
def zK (f : FormP) : AV:=.agg [.str f.ahead,.str f.behind,.bool f.group,zAw f.least,zAw f.point]
def zCN (f : FormP) (s : Bs1) : FormP × Bool:=if s = [37] then ({ f with behind:=[37] },decide (0 < f.least)) else match zAD s with
 | none=>({ f with behind:=s.drop 1 },false)
 | some (b,r)=>({ f with behind:=b },decide (0 < f.least) && (r == []))
def zIB (f : FormP) (s : Bs1) : FormP × Bool:=match s with
 | []=>zCN f []
 | c :: r=>if c = 46 then (if zc r < 1 ∨ 6 < zc r then ({ f with point:=zc r },false) else zCN { f with point:=zc r } (r.drop (zc r))) else zCN f (c :: r)
theorem zHH (f : FormP) (r : Bs1) : zIB f (46 :: r) = if zc r < 1 ∨ 6 < zc r then ({ f with point:=zc r },false) else zCN { f with point:=zc r } (r.drop (zc r)):=by
 unfold zIB
 simp only [if_true]
def zAx (s : Bs1) : FormP × Bool:=if 40 < s.length then (⟨[],[],false,0,0⟩,false) else match zAD s with
 | none=>(⟨s.drop 1,[],false,0,0⟩,false)
 | some (a,r)=>zIB ⟨a,[],zCm r,zc (zj r),0⟩ ((zj r).drop (zc (zj r)))
abbrev QuoH (C : CSpec) : Prop:=∀ (s : Bs1) H,s.length ≤ 40 → C zAN [.str s] H (zGq s) H
abbrev ZerH (C : CSpec) : Prop:=∀ (s : Bs1) H,s.length ≤ 1000 → C zAX [.str s] H (zAw (zc s)) H
theorem zC1 : ∀ {s a r : Bs1},zAD s = some (a,r) → a.length + r.length ≤ s.length
 | [],a,r,h=>by cases h; exact Nat.le_refl _
 | c :: t,a,r,h=>by
  have h : (if c = 34 then fcut t else some ([],c :: t)) = some (a,r):=h
  by_cases hc : c = 34
  ·rw [if_pos hc] at h
   have:=(zGH h).1
   rw [this]; simp only [List.length_cons,List.length_append]; omega
  ·rw [if_neg hc] at h; cases h; simp
set_option maxHeartbeats 4000000 in
theorem zGr (hQ : QuoH C) {H H1 : Heap} {b : Nat} (hO : Old H H1) (lb : H.length ≤ b) (f : FormP) (hb : H1[b]? = some (.box (zK f).cells)) (s : Bs1) (hl : s.length ≤ 40) :
  EW C GT (zBV.behind 7) (zKh zAm H (.tup [zK (zCN f s).1,.bool (zCN f s).2]) H) [(2,.ref b 0 0 0),(0,.str s)] H1:=by
 have gb:=(zg hb).1
 by_cases h37 : s = [37]
 ·subst h37
  have e : zCN f [37] = ({ f with behind:=[37] },decide (0 < f.least)):=rfl
  rw [e]
  by_cases h0 : 0 < f.least
  ·have gg : decide (((f.least : Nat) : Int) > 0) = true:=tT
   rw [decide_eq_true h0]
   refine zBc (b:=(([37] : Bs1) == [37])) rfl <| zI (v:=AV.str [37]) (zK { f with behind:=[37] }).cells hb rfl rfl rfl rfl <| zA (zK { ahead:=f.ahead,behind:=[37],group:=f.group,least:=f.least,point:=f.point }) (zC hb) rfl <| zA _ (zC hb) rfl <| zBc gg <| zBc (b:=(([37] : Bs1) == [37])) rfl ?_; refine zI (v:=zK { ahead:=f.ahead,behind:=[37],group:=f.group,least:=f.least,point:=f.point }) (AV.cells (zK { ahead:=f.ahead,behind:=[37],group:=f.group,least:=f.least,point:=f.point })) (zC hb) rfl rfl rfl rfl ?_
   exact zAA (o:=0) rfl rfl (zAK (zC (zC hb))) rfl rfl rfl rfl ((hO.set tA _).set tA _)
  ·have gg : decide (((f.least : Nat) : Int) > 0) = false:=tF
   rw [decide_eq_false h0]
   refine zBc (b:=(([37] : Bs1) == [37])) rfl <| zI (v:=AV.str [37]) (zK { f with behind:=[37] }).cells hb rfl rfl rfl rfl <| zA (zK { ahead:=f.ahead,behind:=[37],group:=f.group,least:=f.least,point:=f.point }) (zC hb) rfl <| zA _ (zC hb) rfl <| zAI gg <| zG ?_; refine zI (v:=zK { ahead:=f.ahead,behind:=[37],group:=f.group,least:=f.least,point:=f.point }) (AV.cells (zK { ahead:=f.ahead,behind:=[37],group:=f.group,least:=f.least,point:=f.point })) (zC hb) rfl rfl rfl rfl ?_
   exact zAA (o:=0) rfl rfl (zAK (zC (zC hb))) rfl rfl rfl rfl ((hO.set tA _).set tA _)
 ·have hn : (s == ([37] : Bs1)) = false:=tN h37
  have hq:=fun H=>hQ s H hl
  unfold zGq at hq
  unfold zCN
  rw [if_neg h37]
  clear hQ
  cases e : zAD s with
  | none=>
   rw [e] at hq
   refine zAI hn <| zB (hq _) <| zR rfl <| zR rfl <| zR rfl <| zI (v:=AV.str (s.drop 1)) (zK { f with behind:=s.drop 1 }).cells hb rfl rfl rfl rfl ?_; refine zP <| zA (zK { ahead:=f.ahead,behind:=List.drop 1 s,group:=f.group,least:=f.least,point:=f.point }) (zC hb) rfl <| zI (v:=zK { ahead:=f.ahead,behind:=List.drop 1 s,group:=f.group,least:=f.least,point:=f.point }) (AV.cells (zK { ahead:=f.ahead,behind:=List.drop 1 s,group:=f.group,least:=f.least,point:=f.point })) (zC hb) rfl rfl rfl rfl ?_
   exact zAA (o:=0) rfl rfl (zAK (zC (zC hb))) rfl rfl rfl rfl ((hO.set tA _).set tA _)
  | some p=>
   obtain ⟨b2,r⟩:=p
   rw [e] at hq
   dsimp only
   by_cases h0 : 0 < f.least
   ·have gg : decide (((f.least : Nat) : Int) > 0) = true:=tT
    rw [decide_eq_true h0,Bool.true_and]
    refine zAI hn <| zB (hq _) <| zR rfl <| zR rfl <| zR rfl <| zI (v:=AV.str b2) (zK { f with behind:=b2 }).cells hb rfl rfl rfl rfl ?_; refine zG <| zA (zK { ahead:=f.ahead,behind:=b2,group:=f.group,least:=f.least,point:=f.point }) (zC hb) rfl <| zA _ (zC hb) rfl <| zBc gg <| zP <| zI (v:=zK { ahead:=f.ahead,behind:=b2,group:=f.group,least:=f.least,point:=f.point }) (AV.cells (zK { ahead:=f.ahead,behind:=b2,group:=f.group,least:=f.least,point:=f.point })) (zC hb) rfl rfl rfl rfl ?_
    exact zAA (o:=0) rfl rfl (zAK (zC (zC hb))) rfl rfl rfl rfl ((hO.set tA _).set tA _)
   ·have gg : decide (((f.least : Nat) : Int) > 0) = false:=tF
    rw [decide_eq_false h0,Bool.false_and]
    refine zAI hn <| zB (hq _) <| zR rfl <| zR rfl <| zR rfl <| zI (v:=AV.str b2) (zK { f with behind:=b2 }).cells hb rfl rfl rfl rfl ?_; refine zG <| zA (zK { ahead:=f.ahead,behind:=b2,group:=f.group,least:=f.least,point:=f.point }) (zC hb) rfl <| zA _ (zC hb) rfl <| zAI gg <| zG <| zI (v:=zK { ahead:=f.ahead,behind:=b2,group:=f.group,least:=f.least,point:=f.point }) (AV.cells (zK { ahead:=f.ahead,behind:=b2,group:=f.group,least:=f.least,point:=f.point })) (zC hb) rfl rfl rfl rfl ?_
    exact zAA (o:=0) rfl rfl (zAK (zC (zC hb))) rfl rfl rfl rfl ((hO.set tA _).set tA _)
set_option maxHeartbeats 8000000 in
theorem zLC (hQ : QuoH C) (hZ : ZerH C) (hX : CpxH C) {H H1 : Heap} {b : Nat} (hO : Old H H1) (lb : H.length ≤ b) (a : Bs1) (hb : H1[b]? = some (.box (zK ⟨a,[],false,0,0⟩).cells)) (s : Bs1) (hl : s.length ≤ 40) :
  EW C GT (zBV.behind 3) (zKh zAm H (.tup [zK (zIB ⟨a,[],zCm s,zc (zj s),0⟩ ((zj s).drop (zc (zj s)))).1,.bool (zIB ⟨a,[],zCm s,zc (zj s),0⟩ ((zj s).drop (zc (zj s)))).2]) H) [(2,.ref b 0 0 0),(0,.str s)] H1:=by
 have gb:=(zg hb).1
 have hr : (zj s).length ≤ 40:=by
  unfold zj
  split
  ·rw [List.length_drop]; omega
  ·exact hl
 have x1:=fun H=>hX s [35,44] H tO
 rw [zI4,zJ6] at x1
 have z1:=fun H=>hZ (zj s) H tO
 have hz:=zH7 (zj s)
 have s1 : zk none (.str (zj s)) (some (zAw (zc (zj s)))) none = some (.str ((zj s).drop (zc (zj s)))):=zCo _ _ hz
 have hl3 : ((zj s).drop (zc (zj s))).length ≤ 40:=by rw [List.length_drop]; omega
 generalize zCm s = g at x1 ⊢
 generalize zj s = c2 at x1 z1 s1 hl3 hz hr ⊢
 generalize zc c2 = n at z1 s1 hl3 hz ⊢
 generalize c2.drop n = c3 at s1 hl3 ⊢
 have x2:=fun H=>hX c3 [46] H tO
 rw [zLu] at x2
 have hO1 : Old H ((H1.set b (.box (zK ⟨a,[],g,0,0⟩).cells)).set b (.box (zK ⟨a,[],g,n,0⟩).cells)):=(hO.set lb _).set lb _
 have hb1 : ((H1.set b (.box (zK ⟨a,[],g,0,0⟩).cells)).set b (.box (zK ⟨a,[],g,n,0⟩).cells))[b]? = some (.box (zK ⟨a,[],g,n,0⟩).cells):=zC (zC hb)
 clear hX
 cases c3 with
 | nil=>
  have key:=zGr (GT:=GT) hQ hO1 lb ⟨a,[],g,n,0⟩ hb1 [] hl3
  clear hQ hZ
  refine zB (x1 _) <| zR rfl <| zR rfl <| zI (v:=AV.bool g) (zK ⟨a,[],g,0,0⟩).cells hb rfl rfl rfl rfl <| zB (z1 _) <| zI (v:=zAw n) (zK ⟨a,[],g,n,0⟩).cells (zC hb) rfl rfl rfl rfl ?_; refine zA _ (zC (zC hb)) rfl <| zR s1 <| zB (x2 _) <| zR rfl <| zR rfl <| zG ?_; refine zCz rfl key ?_
  rfl
 | cons c r=>
  by_cases h46 : c = 46
  ·subst h46
   have ht : Lib.trimPrefix (46 :: r) [46] = r:=rfl
   rw [ht] at x2
   have z2:=fun H=>hZ r H (by simp only [List.length_cons] at hl3; omega)
   have s2 : zk none (.str r) (some (zAw (zc r))) none = some (.str (r.drop (zc r))):=zCo _ _ (zH7 r)
   have hzr:=zH7 r
   have hl4 : (r.drop (zc r)).length ≤ 40:=by rw [List.length_drop]; simp only [List.length_cons] at hl3; omega
   have hb2:=fun p=>zC (x:=ABlk.box (zK ⟨a,[],g,n,p⟩).cells) hb1
   by_cases hp : zc r < 1 ∨ 6 < zc r
   ·have e : zIB ⟨a,[],g,n,0⟩ (46 :: r) = (⟨a,[],g,n,zc r⟩,false):=(zHH _ r).trans (if_pos hp)
    rw [e]
    have hb2:=hb2 (zc r)
    clear hQ hZ
    generalize zc r = p at *
    rcases hp with hp | hp
    ·refine zB (x1 _) <| zR rfl <| zR rfl <| zI (v:=AV.bool g) (zK ⟨a,[],g,0,0⟩).cells hb rfl rfl rfl rfl <| zB (z1 _) <| zI (v:=zAw n) (zK ⟨a,[],g,n,0⟩).cells (zC hb) rfl rfl rfl rfl ?_; refine zA _ (zC (zC hb)) rfl <| zR s1 <| zB (x2 _) <| zR rfl <| zR rfl <| zP ?_; refine zB (z2 _) <| zI (v:=zAw p) (zK ⟨a,[],g,n,p⟩).cells hb1 rfl rfl rfl rfl <| zA (zAw p) hb2 rfl <| zR s2 <| zA (zAw p) hb2 rfl ?_
     refine zBc tT <| zP <| zP <| zA (zK ⟨a,[],g,n,p⟩) hb2 rfl <| zI (v:=zK { ahead:=a,behind:=[],group:=g,least:=n,point:=p }) (AV.cells (zK { ahead:=a,behind:=[],group:=g,least:=n,point:=p })) (zC (zC (zC hb))) rfl rfl rfl rfl ?_
     exact zAA (o:=0) rfl rfl (zAK (zC (zC (zC (zC hb))))) rfl rfl rfl rfl ((hO1.set tA _).set tA _)
    ·refine zB (x1 _) <| zR rfl <| zR rfl <| zI (v:=AV.bool g) (zK ⟨a,[],g,0,0⟩).cells hb rfl rfl rfl rfl <| zB (z1 _) <| zI (v:=zAw n) (zK ⟨a,[],g,n,0⟩).cells (zC hb) rfl rfl rfl rfl ?_; refine zA _ (zC (zC hb)) rfl <| zR s1 <| zB (x2 _) <| zR rfl <| zR rfl <| zP ?_; refine zB (z2 _) <| zI (v:=zAw p) (zK ⟨a,[],g,n,p⟩).cells hb1 rfl rfl rfl rfl <| zA (zAw p) hb2 rfl <| zR s2 <| zA (zAw p) hb2 rfl <| zAI tF ?_
     refine zA (zAw p) hb2 rfl <| zG <| zBc tT <| zA (zK ⟨a,[],g,n,p⟩) hb2 rfl <| zI (v:=zK { ahead:=a,behind:=[],group:=g,least:=n,point:=p }) (AV.cells (zK { ahead:=a,behind:=[],group:=g,least:=n,point:=p })) (zC (zC (zC hb))) rfl rfl rfl rfl ?_
     exact zAA (o:=0) rfl rfl (zAK (zC (zC (zC (zC hb))))) rfl rfl rfl rfl ((hO1.set tA _).set tA _)
   ·have e : zIB ⟨a,[],g,n,0⟩ (46 :: r) = zCN ⟨a,[],g,n,zc r⟩ (r.drop (zc r)):=(zHH _ r).trans (if_neg hp)
    rw [e]
    have hb2:=hb2 (zc r)
    have key:=zGr (GT:=GT) hQ (hO1.set lb _) lb ⟨a,[],g,n,zc r⟩ hb2 (r.drop (zc r)) hl4
    clear hQ hZ
    generalize r.drop (zc r) = c4 at *
    generalize zc r = p at *
    refine zB (x1 _) <| zR rfl <| zR rfl <| zI (v:=AV.bool g) (zK ⟨a,[],g,0,0⟩).cells hb rfl rfl rfl rfl <| zB (z1 _) <| zI (v:=zAw n) (zK ⟨a,[],g,n,0⟩).cells (zC hb) rfl rfl rfl rfl ?_; refine zA _ (zC (zC hb)) rfl <| zR s1 <| zB (x2 _) <| zR rfl <| zR rfl <| zP ?_; refine zB (z2 _) <| zI (v:=zAw p) (zK ⟨a,[],g,n,p⟩).cells hb1 rfl rfl rfl rfl <| zA (zAw p) hb2 rfl <| zR s2 <| zA (zAw p) hb2 rfl <| zAI tF ?_
    refine zA (zAw p) hb2 rfl <| zG <| zAI tF <| zCz rfl key ?_
    rfl
  ·have e : zIB ⟨a,[],g,n,0⟩ (c :: r) = zCN ⟨a,[],g,n,0⟩ (c :: r):=if_neg h46
   have hh : ((c :: r).head? == some (46 : UInt8)) = false:=tN (fun h=>h46 (Option.some.inj h))
   rw [hh] at x2
   rw [e]
   have key:=zGr (GT:=GT) hQ hO1 lb ⟨a,[],g,n,0⟩ hb1 (c :: r) hl3
   clear hQ hZ
   refine zB (x1 _) <| zR rfl <| zR rfl <| zI (v:=AV.bool g) (zK ⟨a,[],g,0,0⟩).cells hb rfl rfl rfl rfl <| zB (z1 _) <| zI (v:=zAw n) (zK ⟨a,[],g,n,0⟩).cells (zC hb) rfl rfl rfl rfl ?_; refine zA _ (zC (zC hb)) rfl <| zR s1 <| zB (x2 _) <| zR rfl <| zR rfl <| zG ?_; refine zCz rfl key ?_
   rfl
set_option maxHeartbeats 4000000 in
theorem zLD (hQ : QuoH C) (hZ : ZerH C) (hX : CpxH C) (s : Bs1) (H : Heap) : EFun C GT zAm [.str s] H (.tup [zK (zAx s).1,.bool (zAx s).2]) H:=by
 have hz : (H ++ [ABlk.box [.str [],.str [],.bool false,.int .i64 0,.int .i64 0]])[H.length]? = some (.box (zK ⟨[],[],false,0,0⟩).cells):=zF
 refine zr ?_
 unfold zAx
 by_cases hl : 40 < s.length
 ·rw [if_pos hl]
  clear hQ hZ hX
  refine zBc tT <| zA (zK ⟨[],[],false,0,0⟩) hz rfl <| zI (v:=zK { ahead:=[],behind:=[],group:=false,least:=0,point:=0 }) (AV.cells (zK { ahead:=[],behind:=[],group:=false,least:=0,point:=0 })) zF rfl rfl rfl rfl ?_
  exact zAA (o:=0) rfl rfl (zAK (zC zF)) rfl rfl rfl rfl (((Old.refl _).push _).set tA _)
 ·rw [if_neg hl]
  have hq:=fun H=>hQ s H tO
  unfold zGq at hq
  cases e : zAD s with
  | none=>
   rw [e] at hq
   clear hQ hZ hX
   have hb1:=zC (x:=ABlk.box (zK ⟨s.drop 1,[],false,0,0⟩).cells) hz
   refine zAI tF <| zB (hq _) <| zR rfl <| zR rfl <| zR rfl <| zI (v:=AV.str (s.drop 1)) (zK ⟨s.drop 1,[],false,0,0⟩).cells hz rfl rfl rfl rfl ?_; refine zP <| zA (zK ⟨s.drop 1,[],false,0,0⟩) hb1 rfl <| zI (v:=zK { ahead:=List.drop 1 s,behind:=[],group:=false,least:=0,point:=0 }) (AV.cells (zK { ahead:=List.drop 1 s,behind:=[],group:=false,least:=0,point:=0 })) (zC zF) rfl rfl rfl rfl ?_
   exact zAA (o:=0) rfl rfl (zAK (zC (zC zF))) rfl rfl rfl rfl ((((Old.refl _).push _).set tA _).set tA _)
  | some p=>
   obtain ⟨a,r⟩:=p
   rw [e] at hq
   have hql:=zC1 e
   have hb1:=zC (x:=ABlk.box (zK ⟨a,[],false,0,0⟩).cells) hz
   have key:=zLC (GT:=GT) hQ hZ hX (((Old.refl H).push _).set (Nat.le_refl _) _) (Nat.le_refl _) a hb1 r tO
   clear hQ hZ hX
   dsimp only
   refine zAI tF <| zB (hq _) <| zR rfl <| zR rfl <| zR rfl <| zI (v:=AV.str a) (zK ⟨a,[],false,0,0⟩).cells hz rfl rfl rfl rfl ?_; refine zG <| zCz rfl key ?_
   rfl
end
theorem zD7 (a : Bs1) (g : Bool) (n p : Nat) (s : Bs1) : (match zH8 s with
  | none=>none
  | some b=>if n = 0 then none else some ⟨a,b,g,n,p⟩ : Option FormP) = if (zCN ⟨a,[],g,n,p⟩ s).2 = true then some (zCN ⟨a,[],g,n,p⟩ s).1 else none:=by
 unfold zH8 zCN
 by_cases h : s = [37]
 ·rw [if_pos h,if_pos h]
  by_cases h0 : n = 0
  ·simp [h0]
  ·simp [h0,Nat.pos_of_ne_zero h0]
 ·rw [if_neg h,if_neg h]
  cases e : zAD s with
  | none=>rfl
  | some q=>
   obtain ⟨b,r⟩:=q
   cases r with
   | nil=>
    by_cases h0 : n = 0
    ·simp [h0]
    ·simp [h0,Nat.pos_of_ne_zero h0]
   | cons c r=>simp
theorem zI9 (a r : Bs1) : zGo a r = if (zIB ⟨a,[],zCm r,zc (zj r),0⟩ ((zj r).drop (zc (zj r)))).2 = true then some (zIB ⟨a,[],zCm r,zc (zj r),0⟩ ((zj r).drop (zc (zj r)))).1 else none:=by
 unfold zGo
 generalize (zj r).drop (zc (zj r)) = c3
 generalize zc (zj r) = n
 generalize zCm r = g
 cases c3 with
 | nil=>exact zD7 a g n 0 []
 | cons c t=>
  by_cases h46 : c = 46
  ·by_cases hp : 1 ≤ zc t ∧ zc t ≤ 6
   ·have e1 : zEo (c :: t) = some (zc t,t.drop (zc t)):=(if_pos h46).trans (if_pos hp)
    have e2 : zIB ⟨a,[],g,n,0⟩ (c :: t) = zCN ⟨a,[],g,n,zc t⟩ (t.drop (zc t)):=(if_pos h46).trans (if_neg tO)
    rw [e1,e2]
    exact zD7 a g n (zc t) (t.drop (zc t))
   ·have e1 : zEo (c :: t) = none:=(if_pos h46).trans (if_neg hp)
    have e2 : zIB ⟨a,[],g,n,0⟩ (c :: t) = (⟨a,[],g,n,zc t⟩,false):=(if_pos h46).trans (if_pos tO)
    rw [e1,e2]; rfl
  ·have e1 : zEo (c :: t) = some (0,c :: t):=if_neg h46
   have e2 : zIB ⟨a,[],g,n,0⟩ (c :: t) = zCN ⟨a,[],g,n,0⟩ (c :: t):=if_neg h46
   rw [e1,e2]
   exact zD7 a g n 0 (c :: t)
theorem zJA (s : Bs1) : zFU s = if (zAx s).2 = true then some (zAx s).1 else none:=by
 unfold zFU zAx
 by_cases hl : 40 < s.length
 ·rw [if_pos hl,if_pos hl]; rfl
 ·rw [if_neg hl,if_neg hl]
  cases e : zAD s with
  | none=>rfl
  | some p=>exact zI9 p.1 p.2
end Go.AM
namespace Go.AM
def zHI (n : Int) : Prop:=-9223372036854775808 ≤ n ∧ n ≤ 9223372036854775807
instance (n : Int) : Decidable (zHI n):=by unfold zHI; exact inferInstance
def zL0 : Nat → Nat → Nat
 | 0,_=>0
 | f + 1,n=>if n = 0 then 0 else zL0 f (n / 2) + 1
def bits (n : Nat) : Nat:=zL0 n n
end Go.AM
set_option maxRecDepth 20000
namespace Go.AM
theorem zKA (k n : Nat) (h : n < 10 ^ k) (hk : 1 ≤ k) : (zAH n).length ≤ k:=by
 unfold zAH
 split
 ·exact hk
 ·rw [List.length_reverse]; exact zHF k n h
theorem zKB (n : Nat) : 1 ≤ (zAH n).length:=List.length_pos_iff.2 (zC0 n)
theorem zKC {s r : Bs1} {p : Nat} (h : zEo s = some (p,r)) : p ≤ 6 ∧ r.length ≤ s.length:=by
 cases s with
 | nil=>cases h; exact ⟨Nat.zero_le _,Nat.le_refl _⟩
 | cons c t=>
  have h : (if c = 46 then (if 1 ≤ zc t ∧ zc t ≤ 6 then some (zc t,t.drop (zc t)) else none) else some (0,c :: t)) = some (p,r):=h
  by_cases hc : c = 46
  ·rw [if_pos hc] at h
   by_cases hz : 1 ≤ zc t ∧ zc t ≤ 6
   ·rw [if_pos hz] at h
    cases h
    refine ⟨hz.2, ?_⟩
    rw [List.length_drop,List.length_cons]; omega
   ·rw [if_neg hz] at h; cases h
  ·rw [if_neg hc] at h
   cases h
   exact ⟨Nat.zero_le _,Nat.le_refl _⟩
theorem zKD {s b : Bs1} (h : zH8 s = some b) : b.length ≤ s.length:=by
 unfold zH8 at h
 by_cases h37 : s = [37]
 ·rw [if_pos h37] at h; cases h; rw [h37]; exact Nat.le_refl _
 ·rw [if_neg h37] at h
  cases hq : zAD s with
  | none=>rw [hq] at h; cases h
  | some x=>
   obtain ⟨u,v⟩:=x
   rw [hq] at h
   have:=zC1 hq
   cases v with
   | nil=>cases h; omega
   | cons c t=>cases h
theorem zLE {s : Bs1} {f : FormP} (h : zFU s = some f) : 1 ≤ f.least ∧ f.least ≤ 40 ∧ f.point ≤ 6 ∧ f.ahead.length ≤ 40 ∧ f.behind.length ≤ 40:=by
 unfold zFU at h
 by_cases hl : 40 < s.length
 ·rw [if_pos hl] at h; cases h
 rw [if_neg hl] at h
 cases hq : zAD s with
 | none=>rw [hq] at h; cases h
 | some x=>
  obtain ⟨a,r⟩:=x
  rw [hq] at h
  have l1:=zC1 hq
  have l2 : (zj r).length ≤ r.length:=by
   unfold zj
   split
   ·rw [List.length_drop]; omega
   ·exact Nat.le_refl _
  have l3:=zH7 (zj r)
  have h : zGo a r = some f:=h
  unfold zGo at h
  cases hp : zEo ((zj r).drop (zc (zj r))) with
  | none=>rw [hp] at h; cases h
  | some y=>
   obtain ⟨p,r2⟩:=y
   rw [hp] at h
   obtain ⟨l4,l5⟩:=zKC hp
   rw [List.length_drop] at l5
   dsimp only at h
   cases ht : zH8 r2 with
   | none=>rw [ht] at h; cases h
   | some b=>
    rw [ht] at h
    have l6:=zKD ht
    dsimp only at h
    by_cases hz : zc (zj r) = 0
    ·rw [if_pos hz] at h; cases h
    ·rw [if_neg hz] at h
     cases h
     dsimp only
     omega
theorem zKE {n : Int} (h : zHI n) : 1 ≤ (zAH n.natAbs).length ∧ (zAH n.natAbs).length ≤ 19:=by
 refine ⟨zKB _,zKA 19 _ ?_ tO⟩
 have : (10 : Nat) ^ 19 = 10000000000000000000:=by decide
 rw [this]
 unfold zHI at h; omega
end Go.AM
namespace Go.AM
theorem zJB (s : List UInt8) (n : Nat) (h : n ≤ s.length) : zk none (.str s) none (some (.int .i64 (n : Int))) = some (.str (s.take n)):=by
 simp only [zk,zAo,aHi,aLo]
 rw [if_pos ⟨by omega,by omega⟩]
 simp
theorem zAR : ∀ (p s : List UInt8),p.isPrefixOf s = (decide (p.length ≤ s.length) && (s.take p.length == p))
 | [],s=>by simp
 | a :: p,[]=>by simp
 | a :: p,b :: s=>by
  simp only [List.isPrefixOf,zAR p s,List.length_cons,List.take_succ_cons]
  rw [Bool.eq_iff_iff]
  simp only [Bool.and_eq_true,beq_iff_eq,decide_eq_true_eq,List.cons.injEq]
  constructor
  ·rintro ⟨h1,h2,h3⟩; exact ⟨by omega,h1.symm,h3⟩
  ·rintro ⟨h1,h2,h3⟩; exact ⟨h2.symm,by omega,h3⟩
section
variable {C : CSpec} {GT : Nat → Option AV}
theorem zGI (s p : List UInt8) (H : Heap) : EFun C GT zAP [.str s,.str p] H (.bool (p.isPrefixOf s)) H:=by
 refine sCond (fun h=>?_) (fun h=>?_)
 ·have h : p.length ≤ s.length:=by
   have:=of_decide_eq_true h
   omega
  have e : p.isPrefixOf s = (s.take p.length == p):=by rw [zAR,decide_eq_true h,Bool.true_and]
  rw [e]
  refine zR (zJB s p.length h) <| zP ?_
  exact sRr
 ·have h : ¬ p.length ≤ s.length:=by
   have:=of_decide_eq_false h
   omega
  have e : p.isPrefixOf s = false:=by rw [zAR,decide_eq_false h,Bool.false_and]
  rw [e]
  refine zG ?_
  exact sRr
end
end Go.AM
set_option maxRecDepth 20000
namespace Go.AM
section
variable {C : CSpec} {GT : Nat → Option AV}
theorem zKF (s : List UInt8) (a : Nat) (h : a ≤ s.length) : zk none (.str s) (some (.int .i64 (a : Int))) none = some (.str (s.drop a)):=by
 simp only [zk,zAo,aHi,aLo]
 have h1 : ¬ ((a : Int) < 0):=by omega
 have e1 : (a : Int).toNat = a:=Int.toNat_natCast a
 simp [h1,e1,h]
theorem zD8 (hP : ∀ s p H,C zM [.str s,.str p] H (.bool (p.isPrefixOf s)) H) (s p : List UInt8) (H : Heap) : EFun C GT zAO [.str s,.str p] H (.tup [.str (Lib.trimPrefix s p),.bool (Lib.hasPrefix s p)]) H:=by
 have hp:=hP s p H
 clear hP
 unfold Lib.trimPrefix Lib.hasPrefix
 refine zr ?_
 by_cases h : p.isPrefixOf s = true
 ·rw [h] at hp ⊢
  have hl : p.length ≤ s.length:=by rw [zAR,Bool.and_eq_true,decide_eq_true_iff] at h; exact h.1
  refine zB hp <| zG ?_; refine zR (v:=.str (s.drop p.length)) (zKF s p.length hl) ?_
  exact sRr
 ·have h:=Bool.eq_false_iff.2 h
  rw [h] at hp ⊢
  refine zB hp <| zP ?_
  exact sRr
theorem zGJ (hP : ∀ s p H,C zX [.str s,.str p] H (.tup [.str (Lib.trimPrefix s p),.bool (Lib.hasPrefix s p)]) H) (s p : List UInt8) (H : Heap) : EFun C GT zAs [.str s,.str p] H (.tup [.str (Lib.trimPrefix s p),.bool (Lib.hasPrefix s p)]) H:=by
 have hp:=hP s p H
 clear hP
 refine zr <| zB hp ?_; refine zR rfl <| zR rfl ?_
 exact sRr
end
end Go.AM
