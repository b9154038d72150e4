/- Several texts of mine in one (Rfh, Rfi, Gq, Am33, Sk0). Own work. -/
import Derived.Test.YthllabjbdobpgaaGreatDoorGRfdRfg
import Derived.Test.YthllabjbdobpgaaGreatDoorLdQ3
import Derived.Test.YthllabjbdobpgaaGreatDoorGRf5Rf3
import Derived.Test.YthllabjbdobpgaaGreatDoorGFmAm24
import Derived.Shelf.Spec.SlicesInsert
import Derived.Lib.AppendZerosOnto
import Derived.Laws.NewBlocks
set_option linter.all false
set_option maxRecDepth 20000
namespace Go.AM
theorem zKG {v : AV} {H : Heap} {k : Nat} {xs : List AV} (hv : view H k v = some xs) : (∀ (n : Int) (i : Nat) (x : AV) (K : AV → Prop),n = (i : Int) → xs[i]? = some x → K (.lref x 0) → idxN k v n K) ∨
  (∀ (n : Int) (i : Nat) (x : AV) (K : AV → Prop),n = (i : Int) → xs[i]? = some x → (∀ b j,(∀ o,zAC H (.ref b k j o) = some (x.cells,o)) → K (.ref b k j 0)) → idxN k v n K):=by
 unfold view at hv
 split at hv
 ·split at hv
  ·rename_i hk
   cases hv; subst hk
   exact .inl fun n i x K hn hx q=>sIdx hn hx q
  ·split at hv
   ·cases hv
    exact .inl fun n i x K hn hx q=>by simp at hx
   ·cases hv
 ·refine .inr fun n i x K hn hx q2=>?_
  have hlt:=(zg hx).1
  rw [zHj]; unfold idxNW
  simp only
  split at hv
  ·rename_i hk
   subst hk
   split at hv
   ·rename_i hb
    split at hv
    ·rename_i hc
     cases hv
     rw [zMy,zNQ] at hlt
     rw [zNC,zMg tO,zNF] at hx
     subst hn
     rw [hc.1] at hb
     refine zGE ⟨rfl,by omega,by omega⟩ (q2 _ _ fun o=>?_)
     show zAC H (.ref _ _ _ _) = _
     simp only [zAC,hb,zND,zNt,hx,zMv]
    ·cases hv
   ·rename_i hb
    split at hv
    ·rename_i hc
     cases hv
     rw [zMy,zNQ] at hlt
     rw [zNC,zMg tO,zNF] at hx
     subst hn
     rw [hc.1] at hb
     refine zGE ⟨rfl,by omega,by omega⟩ (q2 _ _ fun o=>?_)
     show zAC H (.ref _ _ _ _) = _
     simp only [zAC,hb,zND,zNt,hx,zMv]
    ·cases hv
   ·cases hv
  ·cases hv
 ·cases hv
section
variable {C : CSpec} {GT : Nat → Option AV}
theorem rtext_ev (hP : ∀ s,s.length ≤ 200 → s.head? = some 61 → RPar C s) (s : Bs) (H : Heap) : EFun C GT zFM [.str s] H (zJ (zB3 s)) H:=by
 have hp:=hP s
 clear hP
 refine zc ?_
 unfold zB3
 by_cases hl : 200 < s.length
 ·rw [zMg hl]
  clear hp
  refine zP tT ?_
  exact sRr
 ·rw [zMe hl]
  cases s with
  | nil=>
   clear hp
   refine zO tF <| zG <| zG <| zG ?_
   exact sRr
  | cons c r=>
   have hne : (c :: r) ≠ []:=by simp
   have h0 : (c :: r)[0]? = some c:=rfl
   by_cases h : c = 61
   ·subst h
    have hp:=hp tO rfl
    rw [zMg (show (61 :: r : Bs).head? = some 61 from rfl)]
    obtain ⟨s,hs⟩ : ∃ s : Bs,(61 :: r : Bs) = s:=⟨_,rfl⟩
    rw [hs] at hl hp hne h0 ⊢
    cases hq : zEG s with
    | some n=>
     have hp:=hp.1 n hq
     refine zO tF <| zP (zNP.2 hne) <| zn rfl h0 <| zH <| zH <| zI (hp _) ?_; refine zS rfl <| zS rfl <| zS rfl <| zF (v:=ndV n) (AV.cells (ndV n)) zD rfl rfl rfl rfl <| zG ?_
     exact zBO rfl rfl rfl rfl (((Old.refl _).push _).set tA _)
    | none=>
     obtain ⟨w,e,he,hp⟩:=hp.2 hq H
     refine zO tF <| zP (zNP.2 hne) <| zn rfl h0 <| zH <| zH <| zI hp ?_; refine zS rfl <| zS rfl <| zS rfl <| zF (v:=ndV zY) (AV.cells (ndV zY)) zD rfl rfl rfl rfl <| zP (zNP.2 he) ?_
     exact zBO rfl rfl rfl rfl (((Old.refl _).push _).set tA _)
   ·rw [zMe (show ¬ (c :: r : Bs).head? = some 61 from fun x=>h (zM5 x))]
    clear hp
    obtain ⟨s,hs⟩ : ∃ s : Bs,(c :: r : Bs) = s:=⟨_,rfl⟩
    rw [hs] at hl hne h0 ⊢
    refine zO tF <| zP (zNP.2 hne) <| zn rfl h0 <| zH <| zO (tN (fun x=>h (zM0.1 (by have : (61 : UInt8).toNat = 61:=rfl; omega)))) ?_
    exact sRr
end
structure RefK2 (PR : Program) : Prop extends RefK PR where
 parse : zAH PR zCY zCZ = true
 isIn : zAH PR zDz zHK = true
 ahead : zAH PR zA2 zEX = true
 text : zAH PR zCw zFM = true
section
variable {PR : Program} {GT : Nat → Option AV}
theorem q_parse (k : RefK2 PR) (g : BigG PR GT) (s : Bs) (hl : s.length ≤ 200) (h61 : s.head? = some 61) : RPar (Good PR GT) s:=by
 have h0 : s[0]? = some 61:=by rw [← List.head?_eq_getElem?]; exact h61
 have h1 : 1 ≤ s.length:=by cases s with
  | nil=>cases h61
  | cons c r=>simp
 have lo:=fun b=>(q_all k.toRefK g b s hl (s.length - 1) 1 h1 rfl 0 tO).2 1
 cases hlo : (P s).loose 1 1 0 with
 | none=>
  have hpp : zEG s = none:=by unfold zEG; rw [zMg ⟨hl,h61⟩,hlo]; rfl
  refine ⟨fun n h=>(by rw [hpp] at h; cases h),fun _ H=>?_⟩
  obtain ⟨n,a,w,e,d,h2,h3,h4⟩:=(lo (H ++ [ABlk.box (ndC zY)]).length).2 hlo
  exact ⟨w,e,h2,zN k.hm k.parse (rparse_bad (zGf k.toRefK) s hl h0 n a w e d h3 h2 H h4)⟩
 | some x=>
  obtain ⟨n,e⟩:=x
  have hx:=(zCE s).loose 1 1 0 _ h1 hlo
  simp only at hx
  have hl2:=fun b=>(lo b).1 n e hlo
  by_cases hk : tok s e = .fin
  ·have hpp : zEG s = some n:=by unfold zEG; rw [zMg ⟨hl,h61⟩,hlo]; simp only [zNb,hk]
   refine ⟨fun n' h H=>?_,fun h=>by rw [hpp] at h; cases h⟩
   rw [hpp] at h; cases h
   exact zN k.hm k.parse (rparse_ok (zGf k.toRefK) s hl h0 n e hx.2 hk hl2 H)
  ·have hpp : zEG s = none:=by
    unfold zEG
    rw [zMg ⟨hl,h61⟩,hlo]
    simp only [zNb]
   refine ⟨fun n h=>(by rw [hpp] at h; cases h),fun _ H=>⟨_,2,by decide,zN k.hm k.parse (rparse_tail (zGf k.toRefK) (q_fail k.toRefK) s hl h0 n e hx.2 (fun h=>hk ?_) hl2 H)⟩⟩
   cases ht : tok s e <;> rw [ht] at h <;> first | rfl | (simp only [tkK] at h; omega)
theorem q_in (k : RefK2 PR) (c r : Int) (H : Heap) : Good PR GT zDz [zr c r] H (.bool (okC c r)) H:=zN k.hm k.isIn (rin_ev c r H)
theorem q_ahead (k : RefK2 PR) (a b : Fil) (H : Heap) : Good PR GT zA2 [zr a.col a.row,zr b.col b.row] H (.bool (zDQ a b)) H:=zN k.hm k.ahead (rahead_ev a b H)
theorem q_text (k : RefK2 PR) (g : BigG PR GT) (s : Bs) (H : Heap) : Good PR GT zCw [.str s] H (zJ (zB3 s)) H:=zN k.hm k.text (rtext_ev (q_parse k g) s H)
end
end Go.AM
set_option maxRecDepth 20000
namespace Go.AM
section
variable {C : CSpec} {GT : Nat → Option AV}
theorem rcheck_ev (hA : ∀ c r H,C zDz [zr c r] H (.bool (okC c r)) H) (hL : ∀ a b H,C zA2 [zr a.col a.row,zr b.col b.row] H (.bool (zDQ a b)) H) (hT : ∀ s H,C zCw [.str s] H (zJ (zB3 s)) H)
  (lv : AV) (l : List Fil) (H : Heap) (hv : view H 3 lv = some (l.map zb)) : EFun C GT zEW [lv] H (zJ (zBH l)) H:=by
 have hlm : (l.map zb).length = l.length:=zMl _
 refine zc ?_
 unfold zBH
 by_cases hl : 200 < l.length
 ·rw [zMg hl]
  clear hA hL hT
  refine zBV hv <| zP tT ?_
  exact sRr
 rw [zMe hl]
 obtain ⟨r,hr⟩ : ∃ r,zEw none l = r:=⟨_,rfl⟩
 rw [hr]
 refine zBV hv <| zO tF ?_; refine zBB (fun i : Nat=>[(3,zJ i),(0,lv)]) (fun i H'=>H' = H ∧ i ≤ l.length ∧ zEw (if i = 0 then none else l[i - 1]?) (l.drop i) = r) (fun i=>l.length - i) 0 rfl ⟨rfl,by omega,hr⟩ (fun i H1 ⟨hH,hi,hq⟩=>?_)
 subst hH
 dsimp only
 by_cases hlt : i < l.length
 ·obtain ⟨f,hf⟩ : ∃ f,l[i]? = some f:=⟨_,zMf hlt⟩
  have hfm : (l.map zb)[i]? = some (zb f):=by rw [zMq,hf]; rfl
  rw [zKF l i f hf] at hq
  have ha:=hA f.col f.row
  have ht:=hT f.text
  clear hA hT
  unfold filN at hq
  rcases zKG hv with hx | hx
  ·cases hok : okC f.col f.row with
   | false=>
    rw [hok] at ha hq
    have hq : 1 = r:=hq
    subst hq
    clear hL ht
    refine zBV hv <| zP tT ?_; refine hx _ i (zb f) _ rfl hfm ?_; refine zk (zr f.col f.row) rfl <| zI (ha _) <| zH ?_
    exact sRr
   | true=>
    rw [hok] at ha hq
    rw [zMe (by simp : ¬ (true = false))] at hq
    by_cases hi0 : i = 0
    ·rw [zMg hi0] at hq
     have hq : (if (if f.text = [] then 3 else zB3 f.text) = 0 then zEw (some f) (l.drop (i + 1)) else if f.text = [] then 3 else zB3 f.text) = r:=hq
     clear hL
     by_cases h0 : f.text = []
     ·rw [zMg h0] at hq
      have hq : 3 = r:=hq
      subst hq
      clear ht
      refine zBV hv <| zP tT ?_; refine hx _ i (zb f) _ rfl hfm ?_; refine zk (zr f.col f.row) rfl <| zI (ha _) <| zG <| zO tF <| zG <| zG ?_; refine hx _ i (zb f) _ rfl hfm ?_; refine zk (.str f.text) rfl <| zP (tE h0) ?_
      exact sRr
     ·rw [zMe h0] at hq
      by_cases hz : zB3 f.text = 0
      ·rw [zMg hz] at hq
       rw [hz] at ht
       refine zBV hv <| zP tT ?_; refine hx _ i (zb f) _ rfl hfm ?_; refine zk (zr f.col f.row) rfl <| zI (ha _) <| zG <| zO tF <| zG <| zG ?_; refine hx _ i (zb f) _ rfl hfm ?_; refine zk (.str f.text) rfl <| zO (tN h0) ?_; refine hx _ i (zb f) _ rfl hfm ?_; refine zk (.str f.text) rfl <| zI (ht _) <| zG <| zM (r:=i + 1) rfl tO ?_; refine zAA (i + 1) rfl ⟨rfl,by omega, ?_⟩ tO
       rw [zMe tO,zNg,hf]
       exact hq
      ·rw [zMe hz] at hq
       subst hq
       refine zBV hv <| zP tT ?_; refine hx _ i (zb f) _ rfl hfm ?_; refine zk (zr f.col f.row) rfl <| zI (ha _) <| zG <| zO tF <| zG <| zG ?_; refine hx _ i (zb f) _ rfl hfm ?_; refine zk (.str f.text) rfl <| zO (tN h0) ?_; refine hx _ i (zb f) _ rfl hfm ?_; refine zk (.str f.text) rfl <| zI (ht _) <| zP (zNP.2 tO) ?_
       exact sRr
    ·obtain ⟨g,hg⟩ : ∃ g,l[i - 1]? = some g:=⟨_,zMf tO⟩
     have hgm : (l.map zb)[i - 1]? = some (zb g):=by rw [zMq,hg]; rfl
     rw [zMe hi0,hg] at hq
     have hq : (if (if zDQ g f = false then 5 else if f.text = [] then 3 else zB3 f.text) = 0 then zEw (some f) (l.drop (i + 1)) else if zDQ g f = false then 5 else if f.text = [] then 3 else zB3 f.text) = r:=hq
     have hls:=hL g f
     clear hL
     cases hlp : zDQ g f with
     | false=>
      rw [hlp] at hls hq
      have hq : 5 = r:=hq
      subst hq
      clear ht
      refine zBV hv <| zP tT ?_; refine hx _ i (zb f) _ rfl hfm ?_; refine zk (zr f.col f.row) rfl <| zI (ha _) <| zG <| zP tT <| zM (r:=i - 1) tO tO ?_; refine hx _ (i - 1) (zb g) _ tO hgm ?_; refine zk (zr g.col g.row) rfl ?_; refine hx _ i (zb f) _ rfl hfm ?_; refine zk (zr f.col f.row) rfl <| zI (hls _) <| zH <| zH ?_
      exact sRr
     | true=>
      rw [hlp] at hls hq
      rw [zMe (by simp : ¬ (true = false))] at hq
      by_cases h0 : f.text = []
      ·rw [zMg h0] at hq
       have hq : 3 = r:=hq
       subst hq
       clear ht
       refine zBV hv <| zP tT ?_; refine hx _ i (zb f) _ rfl hfm ?_; refine zk (zr f.col f.row) rfl <| zI (ha _) <| zG <| zP tT <| zM (r:=i - 1) tO tO ?_; refine hx _ (i - 1) (zb g) _ tO hgm ?_; refine zk (zr g.col g.row) rfl ?_; refine hx _ i (zb f) _ rfl hfm ?_; refine zk (zr f.col f.row) rfl <| zI (hls _) <| zH <| zG ?_; refine hx _ i (zb f) _ rfl hfm ?_; refine zk (.str f.text) rfl <| zP (tE h0) ?_
       exact sRr
      ·rw [zMe h0] at hq
       by_cases hz : zB3 f.text = 0
       ·rw [zMg hz] at hq
        rw [hz] at ht
        refine zBV hv <| zP tT ?_; refine hx _ i (zb f) _ rfl hfm ?_; refine zk (zr f.col f.row) rfl <| zI (ha _) <| zG <| zP tT <| zM (r:=i - 1) tO tO ?_; refine hx _ (i - 1) (zb g) _ tO hgm ?_; refine zk (zr g.col g.row) rfl ?_; refine hx _ i (zb f) _ rfl hfm ?_; refine zk (zr f.col f.row) rfl <| zI (hls _) <| zH <| zG ?_; refine hx _ i (zb f) _ rfl hfm ?_; refine zk (.str f.text) rfl <| zO (tN h0) ?_
        refine hx _ i (zb f) _ rfl hfm ?_; refine zk (.str f.text) rfl <| zI (ht _) <| zG <| zM (r:=i + 1) rfl tO ?_; refine zAA (i + 1) rfl ⟨rfl,by omega, ?_⟩ tO
        rw [zMe tO,zNg,hf]
        exact hq
       ·rw [zMe hz] at hq
        subst hq
        refine zBV hv <| zP tT ?_; refine hx _ i (zb f) _ rfl hfm ?_; refine zk (zr f.col f.row) rfl <| zI (ha _) <| zG <| zP tT <| zM (r:=i - 1) tO tO ?_; refine hx _ (i - 1) (zb g) _ tO hgm ?_; refine zk (zr g.col g.row) rfl ?_; refine hx _ i (zb f) _ rfl hfm ?_; refine zk (zr f.col f.row) rfl <| zI (hls _) <| zH <| zG ?_; refine hx _ i (zb f) _ rfl hfm ?_; refine zk (.str f.text) rfl <| zO (tN h0) ?_
        refine hx _ i (zb f) _ rfl hfm ?_; refine zk (.str f.text) rfl <| zI (ht _) <| zP (zNP.2 tO) ?_
        exact sRr
  ·cases hok : okC f.col f.row with
   | false=>
    rw [hok] at ha hq
    have hq : 1 = r:=hq
    subst hq
    clear hL ht
    refine zBV hv <| zP tT ?_; refine hx _ i (zb f) _ rfl hfm (fun b2 j2 hp2=>?_)
    refine zz (zr f.col f.row) (hp2 _) rfl <| zI (ha _) <| zH ?_
    exact sRr
   | true=>
    rw [hok] at ha hq
    rw [zMe (by simp : ¬ (true = false))] at hq
    by_cases hi0 : i = 0
    ·rw [zMg hi0] at hq
     have hq : (if (if f.text = [] then 3 else zB3 f.text) = 0 then zEw (some f) (l.drop (i + 1)) else if f.text = [] then 3 else zB3 f.text) = r:=hq
     clear hL
     by_cases h0 : f.text = []
     ·rw [zMg h0] at hq
      have hq : 3 = r:=hq
      subst hq
      clear ht
      refine zBV hv <| zP tT ?_; refine hx _ i (zb f) _ rfl hfm (fun b2 j2 hp2=>?_)
      refine zz (zr f.col f.row) (hp2 _) rfl <| zI (ha _) <| zG <| zO tF <| zG <| zG ?_; refine hx _ i (zb f) _ rfl hfm (fun b2 j2 hp2=>?_)
      refine zz (.str f.text) (hp2 _) rfl <| zP (tE h0) ?_
      exact sRr
     ·rw [zMe h0] at hq
      by_cases hz : zB3 f.text = 0
      ·rw [zMg hz] at hq
       rw [hz] at ht
       refine zBV hv <| zP tT ?_; refine hx _ i (zb f) _ rfl hfm (fun b2 j2 hp2=>?_)
       refine zz (zr f.col f.row) (hp2 _) rfl <| zI (ha _) <| zG <| zO tF <| zG <| zG ?_; refine hx _ i (zb f) _ rfl hfm (fun b2 j2 hp2=>?_)
       refine zz (.str f.text) (hp2 _) rfl <| zO (tN h0) ?_; refine hx _ i (zb f) _ rfl hfm (fun b2 j2 hp2=>?_)
       refine zz (.str f.text) (hp2 _) rfl <| zI (ht _) <| zG <| zM (r:=i + 1) rfl tO ?_; refine zAA (i + 1) rfl ⟨rfl,by omega, ?_⟩ tO
       rw [zMe tO,zNg,hf]
       exact hq
      ·rw [zMe hz] at hq
       subst hq
       refine zBV hv <| zP tT ?_; refine hx _ i (zb f) _ rfl hfm (fun b2 j2 hp2=>?_)
       refine zz (zr f.col f.row) (hp2 _) rfl <| zI (ha _) <| zG <| zO tF <| zG <| zG ?_; refine hx _ i (zb f) _ rfl hfm (fun b2 j2 hp2=>?_)
       refine zz (.str f.text) (hp2 _) rfl <| zO (tN h0) ?_; refine hx _ i (zb f) _ rfl hfm (fun b2 j2 hp2=>?_)
       refine zz (.str f.text) (hp2 _) rfl <| zI (ht _) <| zP (zNP.2 tO) ?_
       exact sRr
    ·obtain ⟨g,hg⟩ : ∃ g,l[i - 1]? = some g:=⟨_,zMf tO⟩
     have hgm : (l.map zb)[i - 1]? = some (zb g):=by rw [zMq,hg]; rfl
     rw [zMe hi0,hg] at hq
     have hq : (if (if zDQ g f = false then 5 else if f.text = [] then 3 else zB3 f.text) = 0 then zEw (some f) (l.drop (i + 1)) else if zDQ g f = false then 5 else if f.text = [] then 3 else zB3 f.text) = r:=hq
     have hls:=hL g f
     clear hL
     cases hlp : zDQ g f with
     | false=>
      rw [hlp] at hls hq
      have hq : 5 = r:=hq
      subst hq
      clear ht
      refine zBV hv <| zP tT ?_; refine hx _ i (zb f) _ rfl hfm (fun b2 j2 hp2=>?_)
      refine zz (zr f.col f.row) (hp2 _) rfl <| zI (ha _) <| zG <| zP tT <| zM (r:=i - 1) tO tO ?_; refine hx _ (i - 1) (zb g) _ tO hgm (fun b2 j2 hp2=>?_)
      refine zz (zr g.col g.row) (hp2 _) rfl ?_; refine hx _ i (zb f) _ rfl hfm (fun b2 j2 hp2=>?_)
      refine zz (zr f.col f.row) (hp2 _) rfl <| zI (hls _) <| zH <| zH ?_
      exact sRr
     | true=>
      rw [hlp] at hls hq
      rw [zMe (by simp : ¬ (true = false))] at hq
      by_cases h0 : f.text = []
      ·rw [zMg h0] at hq
       have hq : 3 = r:=hq
       subst hq
       clear ht
       refine zBV hv <| zP tT ?_; refine hx _ i (zb f) _ rfl hfm (fun b2 j2 hp2=>?_)
       refine zz (zr f.col f.row) (hp2 _) rfl <| zI (ha _) <| zG <| zP tT <| zM (r:=i - 1) tO tO ?_; refine hx _ (i - 1) (zb g) _ tO hgm (fun b2 j2 hp2=>?_)
       refine zz (zr g.col g.row) (hp2 _) rfl ?_; refine hx _ i (zb f) _ rfl hfm (fun b2 j2 hp2=>?_)
       refine zz (zr f.col f.row) (hp2 _) rfl <| zI (hls _) <| zH <| zG ?_; refine hx _ i (zb f) _ rfl hfm (fun b2 j2 hp2=>?_)
       refine zz (.str f.text) (hp2 _) rfl <| zP (tE h0) ?_
       exact sRr
      ·rw [zMe h0] at hq
       by_cases hz : zB3 f.text = 0
       ·rw [zMg hz] at hq
        rw [hz] at ht
        refine zBV hv <| zP tT ?_; refine hx _ i (zb f) _ rfl hfm (fun b2 j2 hp2=>?_)
        refine zz (zr f.col f.row) (hp2 _) rfl <| zI (ha _) <| zG <| zP tT <| zM (r:=i - 1) tO tO ?_; refine hx _ (i - 1) (zb g) _ tO hgm (fun b2 j2 hp2=>?_)
        refine zz (zr g.col g.row) (hp2 _) rfl ?_; refine hx _ i (zb f) _ rfl hfm (fun b2 j2 hp2=>?_)
        refine zz (zr f.col f.row) (hp2 _) rfl <| zI (hls _) <| zH <| zG ?_; refine hx _ i (zb f) _ rfl hfm (fun b2 j2 hp2=>?_)
        refine zz (.str f.text) (hp2 _) rfl <| zO (tN h0) ?_; refine hx _ i (zb f) _ rfl hfm (fun b2 j2 hp2=>?_)
        refine zz (.str f.text) (hp2 _) rfl <| zI (ht _) <| zG <| zM (r:=i + 1) rfl tO ?_; refine zAA (i + 1) rfl ⟨rfl,by omega, ?_⟩ tO
        rw [zMe tO,zNg,hf]
        exact hq
       ·rw [zMe hz] at hq
        subst hq
        refine zBV hv <| zP tT ?_; refine hx _ i (zb f) _ rfl hfm (fun b2 j2 hp2=>?_)
        refine zz (zr f.col f.row) (hp2 _) rfl <| zI (ha _) <| zG <| zP tT <| zM (r:=i - 1) tO tO ?_; refine hx _ (i - 1) (zb g) _ tO hgm (fun b2 j2 hp2=>?_)
        refine zz (zr g.col g.row) (hp2 _) rfl ?_; refine hx _ i (zb f) _ rfl hfm (fun b2 j2 hp2=>?_)
        refine zz (zr f.col f.row) (hp2 _) rfl <| zI (hls _) <| zH <| zG ?_; refine hx _ i (zb f) _ rfl hfm (fun b2 j2 hp2=>?_)
        refine zz (.str f.text) (hp2 _) rfl <| zO (tN h0) ?_; refine hx _ i (zb f) _ rfl hfm (fun b2 j2 hp2=>?_)
        refine zz (.str f.text) (hp2 _) rfl <| zI (ht _) <| zP (zNP.2 tO) ?_
        exact sRr
 ·have hd : l.drop i = []:=zNx tO
  rw [hd] at hq
  have hq : 0 = r:=hq
  subst hq
  clear hA hL hT
  refine zBV hv <| zO tF ?_
  exact sRr
end
structure RefK3 (PR : Program) : Prop extends RefK2 PR where
 check : zAH PR zA1 zEW = true
section
variable {PR : Program} {GT : Nat → Option AV}
theorem q_check (k : RefK3 PR) (g : BigG PR GT) (lv : AV) (l : List Fil) (H : Heap) (hv : view H 3 lv = some (l.map zb)) : Good PR GT zA1 [lv] H (zJ (zBH l)) H:=zN k.hm k.check (rcheck_ev (q_in k.toRefK2) (q_ahead k.toRefK2) (q_text k.toRefK2 g) lv l H hv)
end
end Go.AM
set_option maxRecDepth 100000
namespace Go.Proofs.YthllabjbdobpgaaGreatDoor
open Go.AM
theorem parK : ParK Tryz.prog:={ hm:=mixed,contains:=zD4,mkSet:=zG2,trimR:=zFx,trimL:=zGY,trim:=k_strings_Trim,slPre:=zGV,pre:=zIY,slTrim:=zFy,trimP:=zH3,wrong:=k_value_Wrong,is:=k_value_Is,whole:=k_value_Whole,lit:=zMK,ref:=k_addr_Ref,dollar:=k_addr_Ref_c1,wordly:=zK2,called:=zK3,plain:=zML,opOf:=k_formula_opOf,fail:=zGw,blanks:=zFu,word:=zG0,want:=zGy,within:=zFv,text:=zGz,neg:=zHU,negc:=zFw,prim:=zGx,prim1:=zFV,prim2:=zFW,call:=zG1,argument:=zEv,two:=zHT }
theorem parK2 : ParK2 Tryz.prog:={ parK with const:=zJL,parse:=zMF,clos:=zJO,dfr:=by kernel_rfl,rcv:=by kernel_rfl }
theorem refK : RefK Tryz.prog:={ hm:=mixed,wordly:=zKy,wrongs:=zKz,bad:=k_sccref1_Bad,named:=zMJ,token:=zMG,called:=zK1,whole:=zMI,ref:=k_sccref1_Ref,sign:=k_sccref1_Sign,tight:=zMH,fail:=zJ4,deeper:=zIZ,close:=zJP,one:=zKx,call:=zJ5,loose:=zJM }
theorem refK2 : RefK2 Tryz.prog:={ refK with parse:=zME,isIn:=k_sccref1_In,ahead:=zMC,text:=k_sccref2_Text }
theorem refK3 : RefK3 Tryz.prog:={ refK2 with check:=zL9 }
section
variable {m : Int} {ev : Value}
theorem parG (hev : ∃ te pe,ev = .iface te pe) : ParG Tryz.prog (gtQ m ev):={ atoi:=atoi_ok,atoi2:=atoi_bad hev,texts:=rfl,loose:=rfl }
end
section
variable {GT : Nat → Option AV}
theorem g_trim (b m : Nat) (ws : List Nat) (H : Heap) (hm : ws.length = m) (hb : H[b]? = some (.row 1 (ws.map zBL))) (hw : Small ws) (hl : m ≤ 1000000) : Go.AM.Good Tryz.prog GT z7 [.sl (some false) b 1 0 m] H (.sl (some false) b 1 0 (wds (wval ws)).length) H:=
 zN mixed zIa (trim_ev b m ws H hm hb hw hl)
theorem g_words (x : Nat) (H : Heap) (hx : x < 18446744073709551616) : Go.AM.Good Tryz.prog GT zBq [u64V x] H (zEP x) H:=zN mixed zH2 (words_ev g_trim x hx H)
theorem g_badd (av bv : AV) (x y : Nat) (H : Heap) (ha : Mag av x) (hb : Mag bv y) (h1 : (wds x).length ≤ 100000) (h2 : (wds y).length ≤ 100000) : Go.AM.Good Tryz.prog GT zCS [av,bv] H (zEP (x + y)) H:=
 zN mixed zJS (add_ev g_trim av bv x y H ha hb h1 h2)
theorem g_bsub (av bv : AV) (x y : Nat) (H : Heap) (ha : Mag av x) (hb : Mag bv y) (h : y ≤ x) (h1 : (wds x).length ≤ 100000) : Go.AM.Good Tryz.prog GT zBd [av,bv] H (zEP (x - y)) H:=
 zN mixed zJU (sub_ev g_trim av bv x y _ H ha hb h rfl h1)
theorem g_bcmp (av bv : AV) (x y : Nat) (H : Heap) (ha : Mag av x) (hb : Mag bv y) (h1 : (wds x).length ≤ 100000) (h2 : (wds y).length ≤ 100000) : Go.AM.Good Tryz.prog GT zCT [av,bv] H (zK (cmpN x y)) H:=
 zN mixed zJT (bcmp_ev av bv x y H ha hb h1 h2)
theorem g_bsum (av bv : AV) (xn yn : Bool) (x y : Nat) (H : Heap) (ha : Mag av x) (hb : Mag bv y) (h1 : (wds x).length ≤ 100000) (h2 : (wds y).length ≤ 100000) :
  Go.AM.Good Tryz.prog GT zCR [.bool xn,av,.bool yn,bv] H (.tup [.bool (sumS xn x yn y).1,zEP (sumS xn x yn y).2]) H:=zN mixed zJR (bsum_ev g_badd g_bsub g_bcmp av bv xn yn x y H ha hb h1 h2)
theorem g_bit (av : AV) (m i : Nat) (H : Heap) (ha : Mag av m) (hl : (wds m).length ≤ 100000) (hi : i ≤ 1000000) : Go.AM.Good Tryz.prog GT zCU [av,zK i] H (u64V (m / 2 ^ i % 2)) H:=zN mixed zJV (bit_ev av m i H ha hl hi)
theorem g_tzb (b m n : Nat) (x av : AV) (H : Heap) (hb : H[b]? = some (.box [x,av])) (ha : Mag av m) (h0 : m ≠ 0) (hl : (wds m).length ≤ 100) (hn : n ≤ 10000) (h1 : m % 2 ^ n = 0) (h2 : m / 2 ^ n % 2 = 1) :
  Go.AM.Good Tryz.prog GT zAJ [.ref b 0 0 0] H (u64V n) H:=zN mixed zC1 (tzb_ev g_bit b m n x av H hb ha h0 hl hn h1 h2)
theorem g_blen (av : AV) (m : Nat) (H : Heap) (ha : Mag av m) (hl : (wds m).length ≤ 1000) : Go.AM.Good Tryz.prog GT zBe [av] H (zJ (Go.AM.bits m)) H:=zN mixed zHV (length_ev av m H ha hl)
theorem g_uint64 (b m : Nat) (x av : AV) (H : Heap) (hb : H[b]? = some (.box [x,av])) (ha : Mag av m) (hm : m < 18446744073709551616) : Go.AM.Good Tryz.prog GT zAt [.ref b 0 0 0] H (u64V m) H:=
 zN mixed zEu (uint64_ev b m x av H hb ha hm)
theorem g_int64 (b : Nat) (v : Int) (H : Heap) (hb : H[b]? = some (.box (zGB v))) (hv : zDP v) : Go.AM.Good Tryz.prog GT zAY [.ref b 0 0 0] H (zK v) H:=zN mixed zFU (int64_ev g_uint64 b v H hb hv)
theorem g_isInt64 (b : Nat) (v : Int) (H : Heap) (hb : H[b]? = some (.box (zGB v))) (hv : (wds v.natAbs).length ≤ 100) : Go.AM.Good Tryz.prog GT zAo [.ref b 0 0 0] H (.bool (decide (zDP v))) H:=
 zN mixed zEf (isInt64_ev g_blen g_tzb b v H hb hv)
theorem g_give (b n : Nat) (neg : Bool) (x0 x1 : AV) (H : Heap) (hb : H[b]? = some (.box [x0,x1])) : Go.AM.Good Tryz.prog GT zu [.ref b 0 0 0,.bool neg,zEP n] H (.ref b 0 0 0) (H.set b (.box [.bool (neg && decide (0 < n)),zEP n])):=
 zN mixed zDM (give_ev b n neg x0 x1 H hb)
theorem g_setInt64 (b : Nat) (v : Int) (x0 x1 : AV) (H : Heap) (hb : H[b]? = some (.box [x0,x1])) (hv : zDP v) : Go.AM.Good Tryz.prog GT zAh [.ref b 0 0 0,zK v] H (.ref b 0 0 0) (H.set b (.box (zGB v))):=
 zN mixed zEN (setInt64_ev g_words g_give b v x0 x1 H hb hv)
theorem k_bigNew : zAH Tryz.prog zAe a_bigNew = true:=by kernel_rfl
theorem g_newInt (v : Int) (H : Heap) (hv : zDP v) : Go.AM.Good Tryz.prog GT zAe [zK v] H (.ref H.length 0 0 0) (H ++ [.box (zGB v)]):=zN mixed k_bigNew (newInt_ev g_setInt64 v H hv)
theorem g_fits (b : Nat) (v : Int) (H : Heap) (hb : H[b]? = some (.box (zGB v))) (hv : (wds v.natAbs).length ≤ 100) : Go.AM.Good Tryz.prog GT zCy [.ref b 0 0 0] H (.bool (decide (zDP v))) H:=zN mixed k_sccref1_Fits (fits_ev g_isInt64 b v H hb hv)
theorem g_give0 (b : Nat) (xs : List AV) (nv x0 x1 : AV) (H : Heap) (hb : H[b]? = some (.box [x0,x1])) (hv : zAs nv 1 xs) : Go.AM.Good Tryz.prog GT zu [.ref b 0 0 0,.bool false,nv] H (.ref b 0 0 0) (H.set b (.box [.bool false,nv])):=
 zN mixed zDM (give0_ev b xs nv x0 x1 H hb hv) (hn:=by obtain ⟨q,k',rfl,_⟩:=hv; rfl)
theorem g_mul10 (av : AV) (x : Nat) (H : Heap) (ha : Mag av x) (hl : (wds x).length ≤ 100000) : Go.AM.Good Tryz.prog GT zCQ [av,zEP 10] H (mulV x) H:=zN mixed zJQ (mul10_ev g_trim av x _ H ha rfl hl)
theorem g_bigMul (b t v : Nat) (av : AV) (H : Heap) (hb : H[b]? = some (.box [.bool false,av])) (ht : H[t]? = some (.box (zGB 10))) (ha : Mag av v) (hl : (wds v).length ≤ 1000) : Go.AM.Good Tryz.prog GT zAm [.ref b 0 0 0,.ref b 0 0 0,.ref t 0 0 0] H (.ref b 0 0 0) (H.set b (.box [.bool false,mulV v])):=
 zN mixed zGW (bigMul_ev g_mul10 g_give0 b t v av H hb ht ha hl)
theorem g_bigAddM (b t v d : Nat) (av : AV) (H : Heap) (hb : H[b]? = some (.box [.bool false,av])) (ht : H[t]? = some (.box (zGB d))) (ha : Mag av v) (hl : (wds v).length ≤ 1000) (hd : (wds d).length ≤ 1000) : Go.AM.Good Tryz.prog GT zAn [.ref b 0 0 0,.ref b 0 0 0,.ref t 0 0 0] H (.ref b 0 0 0) (H.set b (.box (zGB ((v + d : Nat) : Int)))):=
 zN mixed zGX (bigAddM_ev g_bsum g_give b t v d av H hb ht ha hl hd)
theorem bigG : BigG Tryz.prog GT:={ new:=fun v H h=>g_newInt v H h,mul:=fun b t v av H h1 h2 h3 h4=>g_bigMul b t v av H h1 h2 h3 h4,add:=fun b t v d av H h1 h2 h3 h4 h5=>g_bigAddM b t v d av H h1 h2 h3 h4 h5,fit:=fun b v H h1 h2=>g_fits b v H h1 h2,i64:=fun b v H h1 h2=>g_int64 b v H h1 h2 }
theorem g_aok (c r : Int) (H : Heap) : Go.AM.Good Tryz.prog GT zI3 [zr c r] H (.bool (okC c r)) H:=zN mixed k_addr_ok (aok_ev c r H)
theorem g_acheck (c r : Int) (H : Heap) : Go.AM.Good Tryz.prog GT zD0 [zr c r] H (if okC c r = true then .nili else zFX 1) H:=zN mixed k_addr_Check (acheck_ev g_aok c r H)
theorem g_nan (a : Int) (H : Heap) : Go.AM.Good Tryz.prog GT zCC [zK a] H (.bool false) H:=zN mixed zK0 (nan_ev a H)
theorem g_ccmp (a b : Int) (H : Heap) : Go.AM.Good Tryz.prog GT zBc [zK a,zK b] H (zK (cmp3 a b)) H:=zN mixed zJN (ccmp_ev g_nan a b H)
theorem g_cor (b : Nat) (x y : Int) (H : Heap) (hb : H[b]? = some (.row 1 [zK x,zK y])) : Go.AM.Good Tryz.prog GT zEL [.sl (some false) b 1 0 2] H (zK (if x ≠ 0 then x else y)) H:=zN mixed k_cmp_Or_int_ (cor_ev b x y H hb)
theorem g_acomp (c1 r1 c2 r2 : Int) (H : Heap) : Go.AM.Good Tryz.prog GT zBk [zr c1 r1,zr c2 r2] H (zK (cmpC c1 r1 c2 r2)) H:=zN mixed k_addr_Compare (acomp_ev g_ccmp g_cor c1 r1 c2 r2 H)
theorem g_aless (a b : Fil) (H : Heap) : Go.AM.Good Tryz.prog GT zGH [zr a.col a.row,zr b.col b.row] H (.bool (zDQ a b)) H:=zN mixed k_addr_Less (aless_ev g_acomp a b H)
theorem g_told_nil (H : Heap) : Go.AM.Good Tryz.prog GT zDJ [.nili] H (.int .i64 0) H:=zN mixed zKY (told_nil_ev H)
end
section
variable {m : Int} {ev : Value} (hev : ∃ te pe,ev = .iface te pe)
abbrev GQ (m : Int) (ev : Value) : CSpec:=Go.AM.Good Tryz.prog (gtQ m ev)
include hev in
theorem g_text (s : Bs) (H : Heap) : GQ m ev zB5 [.str s] H (eV (zB3 s)) H:=zN mixed k_graph_Text (gtext_ev (p_const parK2) (p_parse parK2 (parG hev)) s H)
include hev in
theorem g_check (lv : AV) (l : List Fil) (H : Heap) (hv : view H 3 lv = some (l.map zb)) : GQ m ev zDZ [lv] H (eV (zBH l)) H:=zN mixed k_graph_Check (gcheck_ev g_acheck g_aless (g_text hev) lv l H hv)
theorem g_rcheck (lv : AV) (l : List Fil) (H : Heap) (hv : view H 3 lv = some (l.map zb)) : GQ m ev zA1 [lv] H (zJ (zBH l)) H:=q_check refK3 bigG lv l H hv
theorem g_told_err (n : Int) (H : Heap) : GQ m ev zDJ [zFX n] H (.int .i64 n) H:=zN mixed zKY (told_err_ev (fun n old b H hb=>as_good n old b H hb) n H)
theorem g_errN (n : Nat) (H : Heap) : GQ m ev zDY [eV n,zJ n] H (.bool true) H:=by
 have h : ErrIs (eV n) n:=by
  unfold eV
  by_cases h0 : n = 0
  ·rw [zMg h0]; exact .inl ⟨rfl,by omega⟩
  ·rw [zMe h0]; exact .inr rfl
 have:=zN (GT:=gtQ m ev) mixed zMD (same_ev g_told_nil g_told_err (eV n) n n h H) (hn:=by rcases h with ⟨h,_⟩ | h <;> rw [h] <;> rfl)
 rwa [show ((n : Int) == (n : Int)) = true from beq_self_eq_true _] at this
end
end Go.Proofs.YthllabjbdobpgaaGreatDoor
namespace Go.AM
section
variable {P : Program} {GT : Nat → Option AV} {w w' : World} {M : AMap} {I : Nat → Prop} {H : Heap}
theorem Sim.mut_at (hS : Sim GT w M I H) {b : Nat} {x : ABlk} (hb : H[b]? = some x) (hm : x.mut = true) {g o : Nat} (hM : M b = some (g,o)) : ∃ _cur : Array Value,True ∧ ¬ I g ∧ g < w.heap.size:=by
 have h:=hS.blk b x hb
 cases x with
 | dead=>simp [ABlk.mut] at hm
 | frz=>simp [ABlk.mut] at hm
 | box cs=>
  obtain ⟨g1,o1,cur,h1,h2,h3,_⟩:=h
  rw [hM] at h1
  cases h1
  obtain ⟨e,fz,h4,h5⟩:=h2
  exact ⟨cur,trivial,h3,(zMx.1 h4).1⟩
 | mp ks vs=>
  obtain ⟨g1,es,cl,h1,h2,h3,_⟩:=h
  rw [hM] at h1
  simp only [zMc,zMj] at h1
  obtain ⟨rfl,_⟩:=h1
  exact ⟨#[],trivial,h3,(zMx.1 h2).1⟩
 | row k xs=>
  obtain ⟨_,⟨h1,_⟩ | ⟨g1,o1,cur,h1,h2,h3,_⟩⟩:=h
  ·rw [hM] at h1; cases h1
  ·rw [hM] at h1
   cases h1
   obtain ⟨e,fz,h4,h5⟩:=h2
   exact ⟨cur,trivial,h3,(zMx.1 h4).1⟩
theorem row_turned (hS : Sim GT w M I H) {b : Nat} {x : ABlk} (hb : H[b]? = some x) (hm : x.mut = true) {g o : Nat} (hM : M b = some (g,o)) (hos : w'.os = w.os) (htape : w'.tape = w.tape) (hout : w'.output = w.output) (hsize : w.heap.size ≤ w'.heap.size)
  (hfr : ∀ j,j < w.heap.size → j ≠ g → w'.heap[j]? = w.heap[j]?) (hshape : ∀ s,w.shape? g = some s → w'.shape? g = some s) {y : ABlk} {G : Nat → Prop} (hG : ∀ j,G j → (j = g ∧ y.mut = false) ∨ w.heap.size ≤ j) (hGl : ∀ j,G j → j < w'.heap.size)
  (hy : BlkOK w' M (fun j=>I j ∨ G j) H.length b y) :
  Grow w M I H w' M (fun j=>I j ∨ G j) (H.set b y) ∧ Sim GT w' M (fun j=>I j ∨ G j) (H.set b y):=by
 obtain ⟨cur,hcur,hnI,hglt⟩:=hS.mut_at hb hm hM
 have hblt:=(zg hb).1
 have live : zGh H M g:=⟨b,x,o,hb,hm,hM⟩
 have shp : ∀ j s,w.shape? j = some s → w'.shape? j = some s:=fun j s hs=>by
  by_cases hj : j = g
  ·subst hj; exact hshape s hs
  ·have hlt : j < w.heap.size:=by
    rcases zOB j w.heap.size with h | h
    ·exact h
    ·simp [World.shape?,zOG h] at hs
   rw [zAk (hfr j hlt hj)]; exact hs
 have hIh : ∀ k,I k → w'.heap[k]? = w.heap[k]?:=fun k hk=>hfr k (hS.idom k hk) (fun e=>hnI (e ▸ hk))
 have other : ∀ b' x',(H.set b y)[b']? = some x' → b' ≠ b → H[b']? = some x':=fun b' x' h hne=>by rwa [zM4 (zNa hne)] at h
 have at_b : (H.set b y)[b]? = some y:=zMz hblt
 refine ⟨⟨hos,htape,hout,hsize,fun _ _=>rfl,fun _ h=>.inl h,fun j hj hlt=>?_,fun j hlt hn=>hfr j hlt (fun e=>hn (e ▸ live)),fun j hlt hl=>?_,shp,by rw [zMs]; exact zMh _⟩, ?_⟩
 ·rcases hj with hj | hj
  ·exact .inl hj
  ·rcases hG j hj with ⟨rfl,_⟩ | h
   ·exact .inr live
   ·omega
 ·obtain ⟨b',x',o',h1,h2,h3⟩:=hl
  by_cases e : b' = b
  ·subst e
   rw [hM] at h3
   cases h3
   exact live
  ·exact ⟨b',x',o',other b' x' h1 e,h2,h3⟩
 ·refine ⟨fun q z hz=>?_,fun k hk=>?_,fun b' x' hx=>?_,fun b1 b2 x1 x2 g1 o1 o2 h1 m1 h2 m2 e1 e2=>?_,fun q z hz=>?_⟩
  ·exact (hS.glob q z hz).mono (M':=M) (n:=0) (fun _ h=>.inl h) hIh (fun _ h=>absurd h (zNh _)) (zNX _) shp
  ·rcases hk with hk | hk
   ·exact zNK (hS.idom k hk) hsize
   ·exact hGl k hk
  ·rw [zMs]
   by_cases e : b' = b
   ·subst e
    rw [at_b] at hx
    cases hx
    exact hy
   ·have hx':=other b' x' hx e
    have far : ∀ g1 o1,M b' = some (g1,o1) → x'.mut = true → g1 ≠ g ∧ g1 < w.heap.size:=fun g1 o1 h1 hm1=>by
     refine ⟨fun eg=>?_,(hS.mut_at hx' hm1 h1).choose_spec.2.2⟩
     subst eg
     exact e (hS.inj b' b x' x g1 o1 o hx' hm1 hb hm h1 hM)
    refine (hS.blk b' x' hx').mono (zg hx').1 (fun _ h=>.inl h) hIh (fun _ _=>rfl) (zMh _) shp (fun g1 o1 h1 hm1=>?_) (fun g1 o1 h1 hm1 hn=>?_)
    ·exact hfr g1 (far g1 o1 h1 hm1).2 (far g1 o1 h1 hm1).1
    ·rintro (h | h)
     ·exact hn h
     ·rcases hG g1 h with ⟨rfl,_⟩ | h'
      ·exact (far _ o1 h1 hm1).1 rfl
      ·have:=(far g1 o1 h1 hm1).2
       omega
  ·have key : ∀ {b1 b2 : Nat} {x1 x2 : ABlk} {g1 o1 o2 : Nat},(H.set b y)[b1]? = some x1 → x1.mut = true → (H.set b y)[b2]? = some x2 → x2.mut = true → M b1 = some (g1,o1) → M b2 = some (g1,o2) → b1 = b → b2 = b:=by
    intro b1 b2 x1 x2 g1 o1 o2 h1 m1 h2 m2 e1 e2 e
    subst e
    by_cases e' : b2 = b1
    ·exact e'
    ·rw [hM] at e1
     cases e1
     exact hS.inj b2 b1 x2 x g o2 o (other b2 x2 h2 e') m2 hb hm e2 hM
   by_cases c1 : b1 = b
   ·exact c1.trans (key h1 m1 h2 m2 e1 e2 c1).symm
   ·by_cases c2 : b2 = b
    ·exact absurd (key h2 m2 h1 m1 e2 e1 c2) c1
    ·exact hS.inj b1 b2 x1 x2 g1 o1 o2 (other b1 x1 h1 c1) m1 (other b2 x2 h2 c2) m2 e1 e2
  ·obtain ⟨e,h⟩:=hS.shp q z hz
   exact ⟨e,shp q _ h⟩
theorem row_written (hS : Sim GT w M I H) {b k : Nat} {xs : List AV} (hb : H[b]? = some (.row k xs)) {g o : Nat} (hM : M b = some (g,o)) (hos : w'.os = w.os) (htape : w'.tape = w.tape) (hout : w'.output = w.output) (hsize : w.heap.size ≤ w'.heap.size)
  (hfr : ∀ j,j < w.heap.size → j ≠ g → w'.heap[j]? = w.heap[j]?) (hshape : ∀ s,w.shape? g = some s → w'.shape? g = some s) {ys : List AV} (he : Elems k ys) {cur' : Array Value} (hcur : Cells w' g cur' k) (hfit : o + ys.length * k ≤ cur'.size)
  (hcells : ∀ i j y c,ys[i]? = some y → y.cells[j]? = some c → ∃ v,cur'[o + i * k + j]? = some v ∧ ∀ M I n,Rel w' M I n c v) :
  ∃ M' I',Grow w M I H w' M' I' (H.set b (.row k ys)) ∧ Sim GT w' M' I' (H.set b (.row k ys)):=by
 obtain ⟨_,_,hnI,_⟩:=hS.mut_at hb rfl hM
 obtain ⟨h1,h2⟩:=row_turned (y:=.row k ys) (G:=fun _=>False) hS hb rfl hM hos htape hout hsize hfr hshape (fun _ hj=>hj.elim) (fun _ hj=>hj.elim) ⟨he,.inr ⟨g,o,cur',hM,hcur,by simpa using hnI,hfit,fun i j x c hx hj=>by
  obtain ⟨v,e1,e2⟩:=hcells i j x c hx hj
  exact ⟨v,e1,e2 _ _ _⟩⟩⟩
 exact ⟨M,_,h1,h2⟩
end
end Go.AM
namespace Go.AM
open Go Go.Lib Go.Proofs
end Go.AM
