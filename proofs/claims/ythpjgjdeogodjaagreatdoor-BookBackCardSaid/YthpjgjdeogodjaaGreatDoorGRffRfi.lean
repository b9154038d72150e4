/- Several texts of mine in one (Rff, Chk, Rfg, Rfh, Rfi). Own work. -/
import Derived.Test.YthpjgjdeogodjaaGreatDoorGRfaRfe
import Derived.Test.YthpjgjdeogodjaaGreatDoorGFmAm24
import Derived.Test.YthpjgjdeogodjaaGreatDoorGAm31Rf1
set_option linter.all false
set_option maxRecDepth 20000
namespace Go.AM
section
variable {C : CSpec} {GT : Nat → Option AV}
end
structure RefK (PR : Program) : Prop where
 hm : PR.follows .mixedOrders = true
 wordly : z7 PR zCW zHe = true
 wrongs : z7 PR zCX zHg = true
 bad : z7 PR zGA a_sccref1_Bad = true
 named : z7 PR zEm zIu = true
 token : z7 PR zAH zIn = true
 called : z7 PR zEG zHj = true
 whole : z7 PR zCo zIs = true
 ref : z7 PR zCf a_sccref1_Ref = true
 sign : z7 PR zFI a_sccref1_Sign = true
 tight : z7 PR zCn zIq = true
 fail : z7 PR zAh zGw = true
 deeper : z7 PR zBF zFf = true
 close : z7 PR zBV zGL = true
 one : z7 PR zCV zHb = true
 call : z7 PR zDZ zGy = true
 loose : z7 PR zAG zGG = true
structure BigG (PR : Program) (GT : Nat → Option AV) : Prop where
 new : ∀ v H,zGb v → Good PR GT zBa [zl v] H (.ref H.length 0 0 0) (H ++ [.box (bigC v)])
 mul : ∀ b t v av H,H[b]? = some (.box [.bool false,av]) → H[t]? = some (.box (bigC 10)) → Mag av v → (wds v).length ≤ 1000 → Good PR GT zB1 [.ref b 0 0 0,.ref b 0 0 0,.ref t 0 0 0] H (.ref b 0 0 0) (H.set b (.box [.bool false,mulV v]))
 add : ∀ (b t v d : Nat) (av : AV) (H : Heap),H[b]? = some (.box [.bool false,av]) → H[t]? = some (.box (bigC d)) → Mag av v → (wds v).length ≤ 1000 → (wds d).length ≤ 1000 → Good PR GT zB2 [.ref b 0 0 0,.ref b 0 0 0,.ref t 0 0 0] H (.ref b 0 0 0) (H.set b (.box (bigC ((v + d : Nat) : Int))))
 fit : ∀ b v H,H[b]? = some (.box (bigC v)) → (wds v.natAbs).length ≤ 100 → Good PR GT zFJ [.ref b 0 0 0] H (.bool (decide (zGb v))) H
 i64 : ∀ b v H,H[b]? = some (.box (bigC v)) → zGb v → Good PR GT zBl [.ref b 0 0 0] H (zl v) H
section
variable {PR : Program} {GT : Nat → Option AV}
end
end Go.AM
set_option maxRecDepth 20000
namespace Go.AM
structure Fil where
 col : Int
 row : Int
 text : Bs
 deriving DecidableEq
def zAa (c r : Int) : AV:=.agg [zl c,zl r]
def zd (f : Fil) : AV:=.agg [zl f.col,zl f.row,.str f.text]
def okC (c r : Int) : Bool:=decide (1 ≤ c) && decide (c ≤ 26) && decide (1 ≤ r) && decide (r ≤ 99)
def cmp3 (a b : Int) : Int:=if a < b then -1 else if b < a then 1 else 0
def cmpC (c1 r1 c2 r2 : Int) : Int:=if cmp3 r1 r2 ≠ 0 then cmp3 r1 r2 else cmp3 c1 c2
def zFC (a b : Fil) : Bool:=decide (cmpC a.col a.row b.col b.row < 0)
def zCA (s : Bs) : Nat:=if 200 < s.length then 4 else if s.head? = some 61 then (match zI6 s with
 | some _=>0
 | none=>2) else 0
def eV (n : Nat) : AV:=if n = 0 then .nili else zEJ n
def filN (prev : Option Fil) (f : Fil) : Nat:=if okC f.col f.row = false then 1 else if (match prev with
 | some p=>zFC p f
 | none=>true) = false then 5 else if f.text = [] then 3 else zCA f.text
def zFD (prev : Option Fil) : List Fil → Nat
 | []=>0
 | f :: r=>if filN prev f = 0 then zFD (some f) r else filN prev f
def zBD (l : List Fil) : Nat:=if 200 < l.length then 4 else zFD none l
theorem filsN_drop (l : List Fil) (i : Nat) (f : Fil) (h : l[i]? = some f) (prev : Option Fil) : zFD prev (l.drop i) = if filN prev f = 0 then zFD (some f) (l.drop (i + 1)) else filN prev f:=by
 have hi:=(zg h).1
 have e : l.drop i = f :: l.drop (i + 1):=by
  rw [List.drop_eq_getElem_cons hi]
  rw [(zg h).2]
 rw [e]; rfl
theorem sIdxW {v : AV} {H : Heap} {k : Nat} {xs : List AV} {n : Int} {K : AV → Prop} (i : Nat) (x : AV) (hv : view H k v = some xs) (hn : n = (i : Int)) (hx : xs[i]? = some x) (q1 : K (.lref x 0)) (q2 : ∀ b j,zr H (.ref b k j 0) = some (x.cells,0) → K (.ref b k j 0)) : idxN k v n K:=by
 have hlt:=(zg hx).1
 unfold view at hv
 split at hv
 ·split at hv
  ·rename_i hk
   cases hv; subst hk
   exact sIdx hn hx q1
  ·split at hv
   ·cases hv; simp at hlt
   ·cases hv
 ·rw [zF5]; unfold idxNW
  simp only
  split at hv
  ·rename_i hk
   subst hk
   split at hv
   ·rename_i hb
    split at hv
    ·rename_i hc
     cases hv
     rw [List.length_take,List.length_drop] at hlt
     rw [List.getElem?_take,if_pos tO,List.getElem?_drop] at hx
     subst hn
     rw [hc.1] at hb
     refine zFZ ⟨rfl,by omega,by omega⟩ (q2 _ _ (ptr_row hb hx))
    ·cases hv
   ·rename_i hb
    split at hv
    ·rename_i hc
     cases hv
     rw [List.length_take,List.length_drop] at hlt
     rw [List.getElem?_take,if_pos tO,List.getElem?_drop] at hx
     subst hn
     rw [hc.1] at hb
     refine zFZ ⟨rfl,by omega,by omega⟩ (q2 _ _ ?_)
     show zr H (.ref _ _ _ _) = _
     simp only [zr,hb,if_true,Int.toNat_natCast,hx,Option.map_some]
    ·cases hv
   ·cases hv
  ·cases hv
 ·cases hv
section
variable {C : CSpec} {GT : Nat → Option AV}
theorem aok_ev (c r : Int) (H : Heap) : EFun C GT a_addr_ok [zAa c r] H (.bool (okC c r)) H:=by
 refine zb ?_
 unfold okC
 by_cases h1 : 1 ≤ c
 ·rw [decide_eq_true h1]
  by_cases h2 : c ≤ 26
  ·rw [decide_eq_true h2]
   by_cases h3 : 1 ≤ r
   ·rw [decide_eq_true h3]
    refine zCj (x:=zAa c r) rfl <| zC (zl c) zD rfl <| zi tT <| zC (zl c) zD rfl <| zH <| zi tT ?_; refine zC (zl r) zD rfl <| zH <| zi tT <| zC (zl r) zD rfl <| zH ?_
    exact zBW rfl rfl rfl rfl ((Old.refl _).push _)
   ·rw [decide_eq_false h3]
    refine zCj (x:=zAa c r) rfl <| zC (zl c) zD rfl <| zi tT <| zC (zl c) zD rfl <| zH <| zi tT ?_; refine zC (zl r) zD rfl <| zH <| zc tF <| zF ?_
    exact zBW rfl rfl rfl rfl ((Old.refl _).push _)
  ·rw [decide_eq_false h2]
   refine zCj (x:=zAa c r) rfl <| zC (zl c) zD rfl <| zi tT <| zC (zl c) zD rfl ?_; refine zH <| zc tF <| zF <| zF <| zF ?_
   exact zBW rfl rfl rfl rfl ((Old.refl _).push _)
 ·rw [decide_eq_false h1]
  refine zCj (x:=zAa c r) rfl <| zC (zl c) zD rfl ?_; refine zc tF <| zF <| zF <| zF <| zF <| zF ?_
  exact zBW rfl rfl rfl rfl ((Old.refl _).push _)
theorem acheck_ev (hO : ∀ c r H,C zF9 [zAa c r] H (.bool (okC c r)) H) (c r : Int) (H : Heap) : EFun C GT zHP [zAa c r] H (if okC c r = true then .nili else zEJ 1) H:=by
 have ho:=hO c r
 clear hO
 refine zb ?_
 cases hk : okC c r with
 | true=>
  rw [hk] at ho
  refine zCj (x:=zAa c r) rfl <| zC (zAa c r) zD rfl <| zI (ho _) <| zF ?_
  exact zBW rfl rfl rfl rfl ((Old.refl _).push _)
 | false=>
  rw [hk] at ho
  refine zCj (x:=zAa c r) rfl <| zC (zAa c r) zD rfl <| zI (ho _) <| zH ?_
  exact zBW rfl rfl rfl rfl ((Old.refl _).push _)
theorem nan_ev (a : Int) (H : Heap) : EFun C GT zEI [zl a] H (.bool false) H:=by
 refine zb ?_; refine zFc ?_ rfl rfl rfl rfl (Old.refl _)
 show AV.bool false = AV.bool (a != a)
 simp
theorem ccmp_ev (hN : ∀ a H,C zBJ [zl a] H (.bool false) H) (a b : Int) (H : Heap) : EFun C GT zDB [zl a,zl b] H (zl (cmp3 a b)) H:=by
 have hn:=hN
 clear hN
 refine zb ?_
 unfold cmp3
 by_cases h1 : a < b
 ·rw [if_pos h1]
  refine zI (hn _ _) <| zI (hn _ _) <| zF <| zF <| zi tT ?_
  exact sRr
 ·rw [if_neg h1]
  by_cases h2 : b < a
  ·rw [if_pos h2]
   refine zI (hn _ _) <| zI (hn _ _) <| zF <| zF <| zc tF <| zi tT ?_
   exact sRr
  ·rw [if_neg h2]
   refine zI (hn _ _) <| zI (hn _ _) <| zF <| zF <| zc tF <| zc tF ?_
   exact sRr
theorem cor_ev (b : Nat) (x y : Int) (H : Heap) (hb : H[b]? = some (.row 1 [zl x,zl y])) : EFun C GT zGH [.sl (some false) b 1 0 2] H (zl (if x ≠ 0 then x else y)) H:=by
 refine zb ?_
 obtain ⟨r,hr⟩ : ∃ r,(if x ≠ 0 then x else y) = r:=⟨_,rfl⟩
 rw [hr]
 refine sLenSl ?_; refine zDw (fun i : Nat=>[(8,zP i),(3,zl 0),(6,.sl (some false) b 1 0 2),(7,zP 2)]) (fun i H'=>H' = H ∧ i ≤ 2 ∧ (1 ≤ i → x = 0) ∧ (2 ≤ i → y = 0)) (fun i=>2 - i) 0 rfl ⟨rfl,by omega,fun h=>by omega,fun h=>by omega⟩ (fun i H1 ⟨hH,hi,hx,hy⟩=>?_)
 subst hH
 dsimp only
 rcases (show i = 0 ∨ i = 1 ∨ i = 2 by omega) with rfl | rfl | rfl
 ·by_cases h0 : x = 0
  ·refine zi tT <| sAt ⟨by omega,by omega⟩ <| zDx 0 (zl x) (zl x) rfl hb rfl rfl <| zc (bne_eq_false_iff_eq.2 tO) <| zj (r:=1) rfl tO ?_; refine zBz 1 rfl ⟨rfl,by omega,fun _=>h0,fun h=>by omega⟩ tO
  ·rw [if_pos h0] at hr
   subst hr
   refine zi tT <| sAt ⟨by omega,by omega⟩ <| zDx 0 (zl x) (zl x) rfl hb rfl rfl <| zi (bne_iff_ne.2 tO) ?_
   exact sRr
 ·have h0:=hx tO
  rw [if_neg (fun h=>h h0)] at hr
  subst hr
  by_cases h1 : y = 0
  ·refine zi tT <| sAt ⟨by omega,by omega⟩ <| zDx 1 (zl y) (zl y) rfl hb rfl rfl <| zc (bne_eq_false_iff_eq.2 tO) <| zj (r:=2) rfl tO ?_; refine zBz 2 rfl ⟨rfl,by omega,fun _=>h0,fun _=>h1⟩ tO
  ·refine zi tT <| sAt ⟨by omega,by omega⟩ <| zDx 1 (zl y) (zl y) rfl hb rfl rfl <| zi (bne_iff_ne.2 tO) ?_
   exact sRr
 ·have h0:=hx tO
  have h1:=hy tO
  rw [if_neg (fun h=>h h0),h1] at hr
  subst hr
  refine zc tF ?_
  exact sRr
theorem acomp_ev (hC : ∀ a b H,C zAt [zl a,zl b] H (zl (cmp3 a b)) H) (hO : ∀ b x y H,H[b]? = some (.row 1 [zl x,zl y]) → C zCe [.sl (some false) b 1 0 2] H (zl (if x ≠ 0 then x else y)) H) (c1 r1 c2 r2 : Int) (H : Heap) :
  EFun C GT zFL [zAa c1 r1,zAa c2 r2] H (zl (cmpC c1 r1 c2 r2)) H:=by
 have hc:=hC
 have ho:=fun b H h=>hO b (cmp3 r1 r2) (cmp3 c1 c2) H h
 clear hO hC
 refine zb ?_
 unfold cmpC
 refine zCj (x:=zAa c1 r1) rfl <| zCj (x:=zAa c2 r2) rfl <| zC (zl r1) (zA zD) rfl <| zC (zl r2) zD rfl <| zI (hc _ _ _) <| zC (zl c1) (zA zD) rfl ?_; refine zC (zl c2) zD rfl <| zI (hc _ _ _) <| zCT (vs':=[zl (cmp3 r1 r2),zl (cmp3 c1 c2)]) rfl rfl <| zI (ho _ _ hP) ?_
 exact zBW rfl rfl rfl rfl ((((Old.refl _).push _).push _).push _)
theorem aless_ev (hC : ∀ c1 r1 c2 r2 H,C zBK [zAa c1 r1,zAa c2 r2] H (zl (cmpC c1 r1 c2 r2)) H) (a b : Fil) (H : Heap) : EFun C GT zIi [zAa a.col a.row,zAa b.col b.row] H (.bool (zFC a b)) H:=by
 have hc:=hC a.col a.row b.col b.row
 clear hC
 refine zb ?_
 unfold zFC
 refine zCj (x:=zAa a.col a.row) rfl <| zCj (x:=zAa b.col b.row) rfl <| zC (zAa a.col a.row) (zA zD) rfl <| zC (zAa b.col b.row) zD rfl <| zI (hc _) ?_
 exact zBW rfl rfl rfl rfl (((Old.refl _).push _).push _)
theorem gtext_ev (hCo : ∀ s H,C zAF [.str s] H (.bool (decide (s.head? ≠ some 61))) H) (hP : ∀ s H,C zAX [.str s] H (zEF s) H) (s : Bs) (H : Heap) : EFun C GT zHQ [.str s] H (eV (zCA s)) H:=by
 have hc:=hCo s
 have hp:=hP s
 clear hCo hP
 refine zb ?_
 unfold zCA
 by_cases hl : 200 < s.length
 ·rw [if_pos hl]
  refine zi tT ?_
  exact sRr
 ·rw [if_neg hl]
  by_cases h : s.head? = some 61
  ·rw [if_pos h]
   rw [tF (fun x=>x h)] at hc
   unfold zEF at hp
   cases hq : zI6 s with
   | some n=>
    rw [hq] at hp
    have hp : ∀ H,C zAX [.str s] H (.tup [ndV n,.int .i64 0,.nili]) H:=hp
    refine zc tF <| zI (hc _) <| zH <| zI (hp _) <| zT rfl <| zT rfl ?_; refine zT rfl <| zG (v:=ndV n) (AV.cells (ndV n)) zD rfl rfl rfl rfl <| zT rfl <| zF ?_
    exact zBW rfl rfl rfl rfl (((Old.refl _).push _).set tA _)
   | none=>
    rw [hq] at hp
    have hp : ∀ H,C zAX [.str s] H (.tup [ndV zq,.sca,.iface zJ .undef]) H:=hp
    refine zc tF <| zI (hc _) <| zH <| zI (hp _) <| zT rfl <| zT rfl ?_; refine zT rfl <| zG (v:=ndV zq) (AV.cells (ndV zq)) zD rfl rfl rfl rfl <| zT rfl <| zH ?_
    exact zBW rfl rfl rfl rfl (((Old.refl _).push _).set tA _)
  ·rw [if_neg h]
   rw [decide_eq_true h] at hc
   refine zc tF <| zI (hc _) <| zF ?_
   exact sRr
theorem gcheck_ev (hA : ∀ c r H,C zAs [zAa c r] H (if okC c r = true then .nili else zEJ 1) H) (hL : ∀ a b H,C zD0 [zAa a.col a.row,zAa b.col b.row] H (.bool (zFC a b)) H) (hT : ∀ s H,C zAg [.str s] H (eV (zCA s)) H)
  (lv : AV) (l : List Fil) (H : Heap) (hv : view H 3 lv = some (l.map zd)) : EFun C GT zGD [lv] H (eV (zBD l)) H:=by
 have hlm : (l.map zd).length = l.length:=List.length_map _
 refine zb ?_
 unfold zBD
 by_cases hl : 200 < l.length
 ·rw [if_pos hl]
  clear hA hL hT
  refine zGo hv <| zi tT ?_
  exact sRr
 rw [if_neg hl]
 obtain ⟨r,hr⟩ : ∃ r,zFD none l = r:=⟨_,rfl⟩
 rw [hr]
 refine zGo hv <| zc tF <| zGo hv ?_; refine zDw (fun i : Nat=>[(12,zP i),(0,lv),(10,lv),(11,.int .i64 ((l.map zd).length : Nat))]) (fun i H'=>Old H H' ∧ view H' 3 lv = some (l.map zd) ∧ i ≤ l.length ∧ zFD (if i = 0 then none else l[i - 1]?) (l.drop i) = r) (fun i=>l.length - i) 0 rfl ⟨Old.refl _,hv,by omega,hr⟩ (fun i H1 ⟨hH,hv1,hi,hq⟩=>?_)
 dsimp only
 by_cases hlt : i < l.length
 ·obtain ⟨f,hf⟩ : ∃ f,l[i]? = some f:=⟨_,List.getElem?_eq_getElem hlt⟩
  have hfm : (l.map zd)[i]? = some (zd f):=by rw [List.getElem?_map,hf]; rfl
  rw [filsN_drop l i f hf] at hq
  have hvo : view ((H1 ++ [ABlk.box [.int .i64 0,.int .i64 0,AV.str []]]).set (List.length H1) (ABlk.box (zd f).cells)) 3 lv = some (l.map zd):=zH2 (((Old.refl H1).push _).set (Nat.le_refl _) _) hv1
  have ha:=hA f.col f.row
  have ht:=hT f.text
  have hH2 : ∀ X Y,Old H ((H1 ++ [X]).set H1.length Y):=fun X Y=>(hH.push _).set hH.1 _
  clear hA hT
  unfold filN at hq
  cases hok : okC f.col f.row with
  | false=>
   rw [hok] at ha hq
   have hq : 1 = r:=hq
   subst hq
   clear hL ht
   refine zi tT ?_; refine zFa i (zd f) hv1 rfl hfm (fun p hp=>?_)
   refine zBg (zd f) hp rfl <| zG (v:=zd f) (AV.cells (zd f)) zD rfl rfl rfl rfl <| zC (AV.agg [zl f.col,zl f.row]) (zE zD) rfl <| zI (ha _) <| zT rfl <| zH ?_
   exact zBW rfl rfl rfl rfl (hH2 _ _)
  | true=>
   rw [hok] at ha hq
   rw [if_neg (by simp : ¬ (true = false))] at hq
   have ha : ∀ H,C zAs [zAa f.col f.row] H .nili H:=ha
   by_cases hi0 : i = 0
   ·rw [if_pos hi0] at hq
    have hq : (if (if f.text = [] then 3 else zCA f.text) = 0 then zFD (some f) (l.drop (i + 1)) else if f.text = [] then 3 else zCA f.text) = r:=hq
    clear hL
    by_cases h0 : f.text = []
    ·rw [if_pos h0] at hq
     have hq : 3 = r:=hq
     subst hq
     clear ht
     refine zi tT ?_; refine zFa i (zd f) hv1 rfl hfm (fun p hp=>?_)
     refine zBg (zd f) hp rfl <| zG (v:=zd f) (AV.cells (zd f)) zD rfl rfl rfl rfl <| zC (AV.agg [zl f.col,zl f.row]) (zE zD) rfl <| zI (ha _) <| zT rfl ?_; refine zF <| zc tF <| zF <| zF <| zC (AV.str f.text) (zE zD) rfl <| zi (tE h0) ?_
     exact zBW rfl rfl rfl rfl (hH2 _ _)
    ·rw [if_neg h0] at hq
     by_cases hz : zCA f.text = 0
     ·rw [if_pos hz] at hq
      rw [hz] at ht
      have ht : ∀ H,C zAg [.str f.text] H .nili H:=ht
      refine zi tT ?_; refine zFa i (zd f) hv1 rfl hfm (fun p hp=>?_)
      refine zBg (zd f) hp rfl <| zG (v:=zd f) (AV.cells (zd f)) zD rfl rfl rfl rfl <| zC (AV.agg [zl f.col,zl f.row]) (zE zD) rfl <| zI (ha _) <| zT rfl ?_; refine zF <| zc tF <| zF <| zF <| zC (AV.str f.text) (zE zD) rfl <| zc (tN h0) ?_; refine zC (AV.str f.text) (zE zD) rfl <| zI (ht _) <| zT rfl <| zF <| zj (r:=i + 1) rfl tO ?_; refine zBz (i + 1) rfl ⟨hH2 _ _,hvo,by omega, ?_⟩ tO
      rw [if_neg tO,Nat.add_sub_cancel,hf]
      exact hq
     ·rw [if_neg hz] at hq
      subst hq
      have ht : ∀ H,C zAg [.str f.text] H (zEJ (zCA f.text)) H:=fun H=>by have:=ht H; rwa [eV,if_neg hz] at this
      rw [eV,if_neg hz]
      refine zi tT ?_; refine zFa i (zd f) hv1 rfl hfm (fun p hp=>?_)
      refine zBg (zd f) hp rfl <| zG (v:=zd f) (AV.cells (zd f)) zD rfl rfl rfl rfl <| zC (AV.agg [zl f.col,zl f.row]) (zE zD) rfl <| zI (ha _) <| zT rfl ?_; refine zF <| zc tF <| zF <| zF <| zC (AV.str f.text) (zE zD) rfl <| zc (tN h0) ?_; refine zC (AV.str f.text) (zE zD) rfl <| zI (ht _) <| zT rfl <| zH ?_
      exact zBW rfl rfl rfl rfl (hH2 _ _)
   ·obtain ⟨g,hg⟩ : ∃ g,l[i - 1]? = some g:=⟨_,List.getElem?_eq_getElem tO⟩
    have hgm : (l.map zd)[i - 1]? = some (zd g):=by rw [List.getElem?_map,hg]; rfl
    rw [if_neg hi0,hg] at hq
    have hq : (if (if zFC g f = false then 5 else if f.text = [] then 3 else zCA f.text) = 0 then zFD (some f) (l.drop (i + 1)) else if zFC g f = false then 5 else if f.text = [] then 3 else zCA f.text) = r:=hq
    have hls:=hL g f
    clear hL
    cases hlp : zFC g f with
    | false=>
     rw [hlp] at hls hq
     have hq : 5 = r:=hq
     subst hq
     clear ht
     refine zi tT ?_; refine zFa i (zd f) hv1 rfl hfm (fun p hp=>?_)
     refine zBg (zd f) hp rfl <| zG (v:=zd f) (AV.cells (zd f)) zD rfl rfl rfl rfl <| zC (AV.agg [zl f.col,zl f.row]) (zE zD) rfl <| zI (ha _) <| zT rfl ?_; refine zF <| zi tT <| zj (r:=i - 1) tO tO ?_; refine sIdxW (i - 1) (zd g) hvo rfl hgm ?_ (fun b2 j2 hp2=>?_)
     ·refine zBk (zAa g.col g.row) rfl <| zC (AV.agg [zl f.col,zl f.row]) (zE zD) rfl <| zI (hls _) <| zH <| zH ?_
      exact zBW rfl rfl rfl rfl (hH2 _ _)
     ·refine zBg (zAa g.col g.row) hp2 rfl <| zC (AV.agg [zl f.col,zl f.row]) (zE zD) rfl <| zI (hls _) <| zH <| zH ?_
      exact zBW rfl rfl rfl rfl (hH2 _ _)
    | true=>
     rw [hlp] at hls hq
     rw [if_neg (by simp : ¬ (true = false))] at hq
     by_cases h0 : f.text = []
     ·rw [if_pos h0] at hq
      have hq : 3 = r:=hq
      subst hq
      clear ht
      refine zi tT ?_; refine zFa i (zd f) hv1 rfl hfm (fun p hp=>?_)
      refine zBg (zd f) hp rfl <| zG (v:=zd f) (AV.cells (zd f)) zD rfl rfl rfl rfl <| zC (AV.agg [zl f.col,zl f.row]) (zE zD) rfl <| zI (ha _) <| zT rfl ?_; refine zF <| zi tT <| zj (r:=i - 1) tO tO ?_; refine sIdxW (i - 1) (zd g) hvo rfl hgm ?_ (fun b2 j2 hp2=>?_)
      ·refine zBk (zAa g.col g.row) rfl <| zC (AV.agg [zl f.col,zl f.row]) (zE zD) rfl <| zI (hls _) <| zH <| zF <| zC (AV.str f.text) (zE zD) rfl ?_; refine zi (tE h0) ?_
       exact zBW rfl rfl rfl rfl (hH2 _ _)
      ·refine zBg (zAa g.col g.row) hp2 rfl <| zC (AV.agg [zl f.col,zl f.row]) (zE zD) rfl <| zI (hls _) <| zH <| zF <| zC (AV.str f.text) (zE zD) rfl ?_; refine zi (tE h0) ?_
       exact zBW rfl rfl rfl rfl (hH2 _ _)
     ·rw [if_neg h0] at hq
      by_cases hz : zCA f.text = 0
      ·rw [if_pos hz] at hq
       rw [hz] at ht
       have ht : ∀ H,C zAg [.str f.text] H .nili H:=ht
       refine zi tT ?_; refine zFa i (zd f) hv1 rfl hfm (fun p hp=>?_)
       refine zBg (zd f) hp rfl <| zG (v:=zd f) (AV.cells (zd f)) zD rfl rfl rfl rfl <| zC (AV.agg [zl f.col,zl f.row]) (zE zD) rfl <| zI (ha _) <| zT rfl ?_; refine zF <| zi tT <| zj (r:=i - 1) tO tO ?_; refine sIdxW (i - 1) (zd g) hvo rfl hgm ?_ (fun b2 j2 hp2=>?_)
       ·refine zBk (zAa g.col g.row) rfl <| zC (AV.agg [zl f.col,zl f.row]) (zE zD) rfl <| zI (hls _) <| zH <| zF <| zC (AV.str f.text) (zE zD) rfl ?_; refine zc (tN h0) <| zC (AV.str f.text) (zE zD) rfl <| zI (ht _) <| zT rfl <| zF <| zj (r:=i + 1) rfl tO ?_; refine zBz (i + 1) rfl ⟨hH2 _ _,hvo,by omega, ?_⟩ tO
        rw [if_neg tO,Nat.add_sub_cancel,hf]
        exact hq
       ·refine zBg (zAa g.col g.row) hp2 rfl <| zC (AV.agg [zl f.col,zl f.row]) (zE zD) rfl <| zI (hls _) <| zH <| zF <| zC (AV.str f.text) (zE zD) rfl ?_; refine zc (tN h0) <| zC (AV.str f.text) (zE zD) rfl <| zI (ht _) <| zT rfl <| zF <| zj (r:=i + 1) rfl tO ?_; refine zBz (i + 1) rfl ⟨hH2 _ _,hvo,by omega, ?_⟩ tO
        rw [if_neg tO,Nat.add_sub_cancel,hf]
        exact hq
      ·rw [if_neg hz] at hq
       subst hq
       have ht : ∀ H,C zAg [.str f.text] H (zEJ (zCA f.text)) H:=fun H=>by have:=ht H; rwa [eV,if_neg hz] at this
       rw [eV,if_neg hz]
       refine zi tT ?_; refine zFa i (zd f) hv1 rfl hfm (fun p hp=>?_)
       refine zBg (zd f) hp rfl <| zG (v:=zd f) (AV.cells (zd f)) zD rfl rfl rfl rfl <| zC (AV.agg [zl f.col,zl f.row]) (zE zD) rfl <| zI (ha _) <| zT rfl ?_; refine zF <| zi tT <| zj (r:=i - 1) tO tO ?_; refine sIdxW (i - 1) (zd g) hvo rfl hgm ?_ (fun b2 j2 hp2=>?_)
       ·refine zBk (zAa g.col g.row) rfl <| zC (AV.agg [zl f.col,zl f.row]) (zE zD) rfl <| zI (hls _) <| zH <| zF <| zC (AV.str f.text) (zE zD) rfl ?_; refine zc (tN h0) <| zC (AV.str f.text) (zE zD) rfl <| zI (ht _) <| zT rfl <| zH ?_
        exact zBW rfl rfl rfl rfl (hH2 _ _)
       ·refine zBg (zAa g.col g.row) hp2 rfl <| zC (AV.agg [zl f.col,zl f.row]) (zE zD) rfl <| zI (hls _) <| zH <| zF <| zC (AV.str f.text) (zE zD) rfl ?_; refine zc (tN h0) <| zC (AV.str f.text) (zE zD) rfl <| zI (ht _) <| zT rfl <| zH ?_
        exact zBW rfl rfl rfl rfl (hH2 _ _)
 ·have hd : l.drop i = []:=List.drop_eq_nil_of_le tO
  rw [hd] at hq
  have hq : 0 = r:=hq
  subst hq
  clear hA hL hT
  refine zc tF ?_
  exact zBW rfl rfl rfl rfl hH
end
end Go.AM
set_option maxRecDepth 20000
namespace Go.AM
section
variable {C : CSpec} {GT : Nat → Option AV}
end
end Go.AM
set_option maxRecDepth 20000
namespace Go.AM
section
variable {C : CSpec} {GT : Nat → Option AV}
end
structure RefK2 (PR : Program) : Prop extends RefK PR where
 parse : z7 PR zEl zIk = true
 isIn : z7 PR zHK a_sccref1_In = true
 ahead : z7 PR zEk zIg = true
 text : z7 PR zFH a_sccref2_Text = true
section
variable {PR : Program} {GT : Nat → Option AV}
end
end Go.AM
set_option maxRecDepth 20000
namespace Go.AM
section
variable {C : CSpec} {GT : Nat → Option AV}
end
structure RefK3 (PR : Program) : Prop extends RefK2 PR where
 check : z7 PR zIZ zIb = true
section
variable {PR : Program} {GT : Nat → Option AV}
end
end Go.AM
