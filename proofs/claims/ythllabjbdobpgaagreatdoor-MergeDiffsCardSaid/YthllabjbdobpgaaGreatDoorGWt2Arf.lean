/- Several texts of mine in one (Wt2, Ssh, Am26, Am32, Arf). Own work. -/
import Derived.Test.YthllabjbdobpgaaGreatDoorGInsDlg
import Derived.Test.YthllabjbdobpgaaGreatDoorGRffRfi
import Derived.Test.YthllabjbdobpgaaGreatDoorGGqBe0
import Derived.Test.YthllabjbdobpgaaGreatDoorGAm30Fp1
import Derived.SizedLaws
import Derived.Handed
import Derived.DataWitness
set_option linter.all false
set_option maxRecDepth 20000
namespace Go.AM
def zIs (l : List Fil) (c r : Int) : Bool:=l.any fun f=>!aheadC c r f
def zEE (l : List Fil) (c r : Int) (t : Bs) : List Fil:=l.filter (aheadC c r) ++ (if t ≠ [] ∧ zIs l c r = true then [⟨c,r,t⟩] else []) ++ l.filter (zAg c r)
theorem anyN_snoc (l : List Fil) (f : Fil) (c r : Int) : zIs (l ++ [f]) c r = (zIs l c r || !aheadC c r f):=by unfold zIs; simp
theorem anyN_no {l : List Fil} {c r : Int} (h : zIs l c r = false) : l.filter (zAg c r) = []:=by
 refine zOi.2 fun f hf=>?_
 unfold zIs at h
 rw [List.any_eq_false] at h
 have:=h f hf
 simp only [zNg,aheadC,zNT] at this
 simp only [zAg,zMz]
 omega
theorem outW_snoc (l : List Fil) (f : Fil) (c r : Int) (t : Bs) : (aheadC c r f = true → zIs l c r = false → zEE (l ++ [f]) c r t = zEE l c r t ++ [f]) ∧
  (isC c r f = true → zIs l c r = false → zEE (l ++ [f]) c r t = zEE l c r t ++ (if t ≠ [] then [⟨c,r,t⟩] else [])) ∧ (isC c r f = true → zIs l c r = true → zEE (l ++ [f]) c r t = zEE l c r t) ∧
  (zAg c r f = true → zIs l c r = false → zEE (l ++ [f]) c r t = zEE l c r t ++ (if t ≠ [] then [⟨c,r,t⟩] else []) ++ [f]) ∧ (zAg c r f = true → zIs l c r = true → zEE (l ++ [f]) c r t = zEE l c r t ++ [f]):=by
 have ex : ∀ g : Fil,(isC c r g = true → aheadC c r g = false ∧ zAg c r g = false) ∧ (zAg c r g = true → aheadC c r g = false) ∧ (aheadC c r g = true → zAg c r g = false):=fun g=>by
  simp only [isC,aheadC,zAg,zMz,zNT]
  refine ⟨fun h=>⟨by omega,by omega⟩,fun h=>by omega,fun h=>by omega⟩
 have ff : ∀ (p : Fil → Bool),(l ++ [f]).filter p = l.filter p ++ (if p f = true then [f] else []):=fun p=>by
  rw [zPQ]; cases hp : p f <;> simp [hp]
 unfold zEE
 rw [anyN_snoc,ff,ff]
 refine ⟨fun h1 h2=>?_,fun h1 h2=>?_,fun h1 h2=>?_,fun h1 h2=>?_,fun h1 h2=>?_⟩
 ·have:=(ex f).2.2 h1
  rw [anyN_no h2,h1,h2,this]
  simp
 ·obtain ⟨a,b⟩:=(ex f).1 h1
  rw [anyN_no h2,a,h2,b]
  by_cases ht : t = [] <;> simp [ht]
 ·obtain ⟨a,b⟩:=(ex f).1 h1
  rw [a,h2,b]
  simp
 ·have a:=(ex f).2.1 h1
  rw [anyN_no h2,a,h2,h1]
  by_cases ht : t = [] <;> simp [ht]
 ·have a:=(ex f).2.1 h1
  rw [a,h2,h1]
  simp
theorem withS_outW {l : List Fil} (c r : Int) (t : Bs) : zBj l c r t = if t ≠ [] ∧ zIs l c r = false then zEE l c r t ++ [⟨c,r,t⟩] else zEE l c r t:=by
 unfold zBj zEE
 by_cases ht : t = []
 ·simp [ht]
 ·cases h : zIs l c r with
  | true=>simp [ht]
  | false=>simp [ht,anyN_no h]
theorem outW_len (l : List Fil) (c r : Int) (t : Bs) : (zEE l c r t).length ≤ 2 * l.length + 1:=by
 unfold zEE
 have h1:=zOP (aheadC c r) l
 have h2:=zOP (zAg c r) l
 simp only [zM3]
 split
 ·simp only [zMu,zM7]; omega
 ·simp only [zM7]; omega
theorem ahead_before {l : List Fil} (hs : Srtd l) {i : Nat} {f : Fil} (hf : l[i]? = some f) {c r : Int} (ha : aheadC c r f = true) : zIs (l.take i) c r = false:=by
 unfold zIs
 rw [List.any_eq_false]
 intro g hg
 obtain ⟨k,hk⟩:=zNY hg
 have hki:=(zg hk).1
 rw [zM8] at hki
 rw [List.getElem?_take_of_lt tO] at hk
 obtain ⟨h1,rfl⟩:=zg hk
 obtain ⟨h2,rfl⟩:=zg hf
 have:=zPN.1 hs k i h1 h2 tO
 simp only [aheadC,zMz] at ha
 simp only [zNg,aheadC,zNT]
 omega
structure RwS where
 i : Nat
 v : AV
section
variable {C : CSpec} {GT : Nat → Option AV}
set_option maxHeartbeats 4000000 in
theorem rwith_ev (hA : ∀ a b H,C zAd [zn a.col a.row,zn b.col b.row] H (.bool (lessC a b)) H) (lv : AV) (l : List Fil) (hl : l.length ≤ 3000) (hs : Srtd l) (c r : Int) (t : Bs) (H : Heap) (hv : view H 3 lv = some (l.map zR)) :
  EFun C GT zIG [lv,zn c r,.str t] H (zIo 3 ((zBj l c r t).map zR)) H:=by
 have hlm : (l.map zR).length = l.length:=zMx _
 have hah : ∀ f H,C zAd [zn f.col f.row,zn c r] H (.bool (aheadC c r f)) H:=fun f H=>by
  have:=hA f ⟨c,r,[]⟩ H
  have e : lessC f ⟨c,r,[]⟩ = aheadC c r f:=by unfold lessC; exact aheadC_cmp c r f
  rwa [e] at this
 clear hA
 refine za ?_; refine zDw (x:=zn c r) rfl ?_; refine zBM (fun x : RwS=>[(9,zK x.i),(0,lv),(4,pR H.length),(2,.str t),(7,x.v),(8,.bool ((t == ([] : Bs)) || zIs (l.take x.i) c r))]) (fun x H'=>Old (H ++ [ABlk.box (zn c r).cells]) H' ∧ x.i ≤ l.length ∧ Owns (H ++ [ABlk.box (zn c r).cells]) H' x.v 3 ((zEE (l.take x.i) c r t).map zR)) (fun x=>l.length - x.i) ⟨0,.lst (some true) 0 []⟩ (by simp only [zPo,zIs,List.any_nil,zOf] <;> rfl) ⟨Old.refl _,zNl _,.inl ⟨rfl,by simp [zEE,zIs]⟩⟩ (fun ⟨i,v⟩ H1 ⟨hO,hi,ho⟩=>?_)
 dsimp only at hi ho ⊢
 have hO0 : Old H H1:=((Old.refl H).push _).trans hO
 have hb4 : H1[H.length]? = some (.box (zn c r).cells):=by rw [hO.2 _ (by simp)]; exact zB
 have hv1:=zDD hO0 hv
 have hol:=outW_len (l.take i) c r t
 have htl : (l.take i).length ≤ 3000:=by rw [zM8]; omega
 by_cases hlt : i < l.length
 case neg=>
  have he : l.take i = l:=zNK tO
  rw [he] at ho hol ⊢
  have hw:=withS_outW (l:=l) c r t
  cases hp : ((t == ([] : Bs)) || zIs l c r) with
  | true=>
   have hw2 : zBj l c r t = zEE l c r t:=by
    rw [hw,zMq]
    rintro ⟨a,b⟩
    rw [b,zOf] at hp
    exact a (zNJ.1 hp)
   rw [← hw2] at ho
   refine zB4 hv1 <| zW (tF) <| zF ?_
   obtain ⟨H3,hz,hO3,_⟩:=(ho.weaken (H0:=H) (by simp)).frz hO0
   exact zIX rfl rfl hz (by generalize (zBj l c r t).map zR = xs; cases xs <;> rfl) hO3
  | false=>
   rw [zOt] at hp
   have hw2 : zBj l c r t = zEE l c r t ++ [⟨c,r,t⟩]:=by rw [hw,zMt ⟨fun h=>by rw [h] at hp; exact absurd hp.1 (by decide),hp.2⟩]
   refine zB4 hv1 <| zW (tF) <| zG <| zC (zn c r) hb4 rfl <| zl (v:=[zJ c,zJ r,AV.str t]) rfl <| zAF (vs':=[AV.agg [zJ c,zJ r,AV.str t]]) rfl rfl ?_; refine zAq (H0:=H ++ [ABlk.box (zn c r).cells]) (ys:=[AV.agg [zJ c,zJ r,.str t]]) (ho.push _) (hO.push _) zAM (by decide) (by simp only [zMx,zMu,zM7]; omega) (by simp) (fun v' H' ho' hO' _ _=>?_)
   have ho' : Owns (H ++ [ABlk.box (zn c r).cells]) H' v' 3 ((zBj l c r t).map zR):=by rw [hw2,zNI]; exact ho'
   have hO0' : Old H H':=((Old.refl H).push _).trans hO'
   obtain ⟨H3,hz,hO3,_⟩:=(ho'.weaken (H0:=H) (by simp)).frz hO0'
   exact zIX rfl rfl hz (by generalize (zBj l c r t).map zR = xs; cases xs <;> rfl) hO3
 obtain ⟨f,hf⟩ : ∃ f,l[i]? = some f:=⟨_,zMr hlt⟩
 have hfm : (l.map zR)[i]? = some (zR f):=by rw [zM2,hf]; rfl
 have htk : l.take (i + 1) = l.take i ++ [f]:=by rw [zOD,hf]; rfl
 obtain ⟨q1,q2,q3,q4,q5⟩:=outW_snoc (l.take i) f c r t
 have qa:=anyN_snoc (l.take i) f c r
 rw [← htk] at q1 q2 q3 q4 q5 qa
 have hab:=fun h=>ahead_before hs hf (c:=c) (r:=r) h
 have hfa:=hah f
 clear hah
 have three : (aheadC c r f = true ∧ (f.col == c && (f.row == r && true)) = false) ∨ (aheadC c r f = false ∧ isC c r f = true ∧ f.col = c ∧ f.row = r) ∨ (aheadC c r f = false ∧ zAg c r f = true ∧ (f.col == c && (f.row == r && true)) = false):=by
  simp only [aheadC,isC,zAg,zMz,zNT,zOU,zO9,zPk]
  omega
 generalize hps : ((t == ([] : Bs)) || zIs (l.take i) c r) = ps at *
 rcases zKQ hv1 with hx | hx
 ·rcases three with ⟨ta,tc⟩ | ⟨ta,ti,tc,tr⟩ | ⟨ta,tb,tc⟩
  ·have hno:=hab ta
   rw [ta] at qa hfa
   rw [hno,zOf] at hps
   have hpn : ps = ((t == ([] : Bs)) || zIs (l.take (i + 1)) c r):=by rw [qa,hno,hps]; simp
   have hoo : zEE (l.take (i + 1)) c r t = zEE (l.take i) c r t ++ [f]:=q1 ta hno
   cases ps with
   | true=>
    refine zB4 hv1 <| zc (tT) <| zF <| zF <| zF ?_; refine hx _ i (zR f) _ rfl hfm ?_; refine zi (zn f.col f.row) rfl <| zC (zn c r) hb4 rfl <| zl rfl <| zc (show zIW true (f.col == c && (f.row == r && true)) = true from by rw [tc]; rfl) ?_; refine hx _ i (zR f) _ rfl hfm ?_; refine zi (zR f) rfl <| zAF (vs':=[zR f]) rfl rfl ?_; refine zAq (H0:=H ++ [ABlk.box (zn c r).cells]) (ys:=[zR f]) (ho.push _) (hO.push _) zAM (by decide) (by simp only [zMx,zM3,zMu,zM7]; omega) (by simp) (fun v' H' ho' hO' _ _=>?_)
    have ho' : Owns (H ++ [ABlk.box (zn c r).cells]) H' v' 3 ((zEE (l.take (i + 1)) c r t).map zR):=by rw [hoo,zNI]; exact ho'
    refine zN (r:=i + 1) rfl tO ?_; refine zAC (RwS.mk (i + 1) v') (by rw [← hpn] <;> rfl) ⟨hO',by simp only; omega,ho'⟩ (by simp only; omega)
   | false=>
    refine zB4 hv1 <| zc (tT) <| zG ?_; refine hx _ i (zR f) _ rfl hfm ?_; refine zi (zn f.col f.row) rfl <| zC (zn c r) hb4 rfl <| zI (hfa _) <| zG <| zF ?_; refine hx _ i (zR f) _ rfl hfm ?_; refine zi (zn f.col f.row) rfl <| zC (zn c r) hb4 rfl <| zl rfl <| zc (show zIW true (f.col == c && (f.row == r && true)) = true from by rw [tc]; rfl) ?_; refine hx _ i (zR f) _ rfl hfm ?_; refine zi (zR f) rfl <| zAF (vs':=[zR f]) rfl rfl ?_
    refine zAq (H0:=H ++ [ABlk.box (zn c r).cells]) (ys:=[zR f]) (ho.push _) (hO.push _) zAM (by decide) (by simp only [zMx,zM3,zMu,zM7]; omega) (by simp) (fun v' H' ho' hO' _ _=>?_)
    have ho' : Owns (H ++ [ABlk.box (zn c r).cells]) H' v' 3 ((zEE (l.take (i + 1)) c r t).map zR):=by rw [hoo,zNI]; exact ho'
    refine zN (r:=i + 1) rfl tO ?_; refine zAC (RwS.mk (i + 1) v') (by rw [← hpn] <;> rfl) ⟨hO',by simp only; omega,ho'⟩ (by simp only; omega)
  ·rw [ta] at qa hfa
   have hpn : true = ((t == ([] : Bs)) || zIs (l.take (i + 1)) c r):=by rw [qa]; simp
   cases ps with
   | true=>
    have hoo : zEE (l.take (i + 1)) c r t = zEE (l.take i) c r t:=by
     cases ha : zIs (l.take i) c r with
     | true=>exact q3 ti ha
     | false=>
      rw [ha,zOf] at hps
      rw [q2 ti ha,zNJ.1 hps]
      simp
    refine zB4 hv1 <| zc (tT) <| zF <| zF <| zF ?_; refine hx _ i (zR f) _ rfl hfm ?_; refine zi (zn f.col f.row) rfl <| zC (zn c r) hb4 rfl <| zl rfl <| zW (show zIW true (f.col == c && (f.row == r && true)) = false from by rw [tE tc,tE tr]; rfl) <| zN (r:=i + 1) rfl tO ?_; refine zAC (RwS.mk (i + 1) v) (by rw [← hpn] <;> rfl) ⟨hO,by simp only; omega,by rw [hoo]; exact ho⟩ (by simp only; omega)
   | false=>
    rw [zOt] at hps
    have hne : t ≠ []:=fun h=>by rw [h] at hps; exact absurd hps.1 (by decide)
    have hoo : zEE (l.take (i + 1)) c r t = zEE (l.take i) c r t ++ [⟨c,r,t⟩]:=by rw [q2 ti hps.2,zMt hne]
    refine zB4 hv1 <| zc (tT) <| zG ?_; refine hx _ i (zR f) _ rfl hfm ?_; refine zi (zn f.col f.row) rfl <| zC (zn c r) hb4 rfl <| zI (hfa _) <| zG <| zG <| zC (zn c r) hb4 rfl ?_; refine zl (v:=[zJ c,zJ r,AV.str t]) rfl <| zAF (vs':=[AV.agg [zJ c,zJ r,AV.str t]]) rfl rfl ?_; refine zAq (H0:=H ++ [ABlk.box (zn c r).cells]) (ys:=[AV.agg [zJ c,zJ r,.str t]]) (ho.push _) (hO.push _) zAM (by decide) (by simp only [zMx,zM3,zMu,zM7]; omega) (by simp) (fun v' H' ho' hO' _ _=>?_)
    have ho' : Owns (H ++ [ABlk.box (zn c r).cells]) H' v' 3 ((zEE (l.take (i + 1)) c r t).map zR):=by rw [hoo,zNI]; exact ho'
    have hv2:=zDD (((Old.refl H).push _).trans hO') hv
    have hb5 : H'[H.length]? = some (.box (zn c r).cells):=by rw [hO'.2 _ (by simp)]; exact zB
    rcases zKQ hv2 with hy | hy
    ·refine hy _ i (zR f) _ rfl hfm ?_; refine zi (zn f.col f.row) rfl <| zC (zn c r) hb5 rfl <| zl rfl <| zW (show zIW true (f.col == c && (f.row == r && true)) = false from by rw [tE tc,tE tr]; rfl) <| zN (r:=i + 1) rfl tO ?_; refine zAC (RwS.mk (i + 1) v') (by rw [← hpn] <;> rfl) ⟨hO',by simp only; omega,ho'⟩ (by simp only; omega)
    ·refine hy _ i (zR f) _ rfl hfm (fun b2 j2 hp2=>?_)
     refine z6 (zn f.col f.row) (hp2 _) rfl <| zC (zn c r) hb5 rfl <| zl rfl <| zW (show zIW true (f.col == c && (f.row == r && true)) = false from by rw [tE tc,tE tr]; rfl) <| zN (r:=i + 1) rfl tO ?_; refine zAC (RwS.mk (i + 1) v') (by rw [← hpn] <;> rfl) ⟨hO',by simp only; omega,ho'⟩ (by simp only; omega)
  ·rw [ta] at qa hfa
   have hpn : true = ((t == ([] : Bs)) || zIs (l.take (i + 1)) c r):=by rw [qa]; simp
   cases ps with
   | true=>
    have hoo : zEE (l.take (i + 1)) c r t = zEE (l.take i) c r t ++ [f]:=by
     cases ha : zIs (l.take i) c r with
     | true=>exact q5 tb ha
     | false=>
      rw [ha,zOf] at hps
      rw [q4 tb ha,zNJ.1 hps]
      simp
    refine zB4 hv1 <| zc (tT) <| zF <| zF <| zF ?_; refine hx _ i (zR f) _ rfl hfm ?_; refine zi (zn f.col f.row) rfl <| zC (zn c r) hb4 rfl <| zl rfl <| zc (show zIW true (f.col == c && (f.row == r && true)) = true from by rw [tc]; rfl) ?_; refine hx _ i (zR f) _ rfl hfm ?_; refine zi (zR f) rfl <| zAF (vs':=[zR f]) rfl rfl ?_; refine zAq (H0:=H ++ [ABlk.box (zn c r).cells]) (ys:=[zR f]) (ho.push _) (hO.push _) zAM (by decide) (by simp only [zMx,zM3,zMu,zM7]; omega) (by simp) (fun v' H' ho' hO' _ _=>?_)
    have ho' : Owns (H ++ [ABlk.box (zn c r).cells]) H' v' 3 ((zEE (l.take (i + 1)) c r t).map zR):=by rw [hoo,zNI]; exact ho'
    refine zN (r:=i + 1) rfl tO ?_; refine zAC (RwS.mk (i + 1) v') (by rw [← hpn] <;> rfl) ⟨hO',by simp only; omega,ho'⟩ (by simp only; omega)
   | false=>
    rw [zOt] at hps
    have hne : t ≠ []:=fun h=>by rw [h] at hps; exact absurd hps.1 (by decide)
    have hoo : zEE (l.take (i + 1)) c r t = zEE (l.take i) c r t ++ [⟨c,r,t⟩] ++ [f]:=by rw [q4 tb hps.2,zMt hne]
    refine zB4 hv1 <| zc (tT) <| zG ?_; refine hx _ i (zR f) _ rfl hfm ?_; refine zi (zn f.col f.row) rfl <| zC (zn c r) hb4 rfl <| zI (hfa _) <| zG <| zG <| zC (zn c r) hb4 rfl ?_; refine zl (v:=[zJ c,zJ r,AV.str t]) rfl <| zAF (vs':=[AV.agg [zJ c,zJ r,AV.str t]]) rfl rfl ?_; refine zAq (H0:=H ++ [ABlk.box (zn c r).cells]) (ys:=[AV.agg [zJ c,zJ r,.str t]]) (ho.push _) (hO.push _) zAM (by decide) (by simp only [zMx,zM3,zMu,zM7]; omega) (by simp) (fun v' H' ho' hO' _ _=>?_)
    have hv2:=zDD (((Old.refl H).push _).trans hO') hv
    have hb5 : H'[H.length]? = some (.box (zn c r).cells):=by rw [hO'.2 _ (by simp)]; exact zB
    rcases zKQ hv2 with hy | hy
    ·refine hy _ i (zR f) _ rfl hfm ?_; refine zi (zn f.col f.row) rfl <| zC (zn c r) hb5 rfl <| zl rfl <| zc (show zIW true (f.col == c && (f.row == r && true)) = true from by rw [tc]; rfl) ?_; refine hy _ i (zR f) _ rfl hfm ?_; refine zi (zR f) rfl <| zAF (vs':=[zR f]) rfl rfl ?_; refine zAq (H0:=H ++ [ABlk.box (zn c r).cells]) (ys:=[zR f]) (ho'.push _) (hO'.push _) zAM (by decide) (by simp only [zMx,zM3,zMu,zM7]; omega) (by simp) (fun v'' H'' ho'' hO'' _ _=>?_)
     have ho'' : Owns (H ++ [ABlk.box (zn c r).cells]) H'' v'' 3 ((zEE (l.take (i + 1)) c r t).map zR):=by rw [hoo,zNI,zNI]; exact ho''
     refine zN (r:=i + 1) rfl tO ?_; refine zAC (RwS.mk (i + 1) v'') (by rw [← hpn] <;> rfl) ⟨hO'',by simp only; omega,ho''⟩ (by simp only; omega)
    ·refine hy _ i (zR f) _ rfl hfm (fun b2 j2 hp2=>?_)
     refine z6 (zn f.col f.row) (hp2 _) rfl <| zC (zn c r) hb5 rfl <| zl rfl <| zc (show zIW true (f.col == c && (f.row == r && true)) = true from by rw [tc]; rfl) ?_; refine hy _ i (zR f) _ rfl hfm (fun b2 j2 hp2=>?_)
     refine z6 (zR f) (hp2 _) rfl <| zAF (vs':=[zR f]) rfl rfl ?_; refine zAq (H0:=H ++ [ABlk.box (zn c r).cells]) (ys:=[zR f]) (ho'.push _) (hO'.push _) zAM (by decide) (by simp only [zMx,zM3,zMu,zM7]; omega) (by simp) (fun v'' H'' ho'' hO'' _ _=>?_)
     have ho'' : Owns (H ++ [ABlk.box (zn c r).cells]) H'' v'' 3 ((zEE (l.take (i + 1)) c r t).map zR):=by rw [hoo,zNI,zNI]; exact ho''
     refine zN (r:=i + 1) rfl tO ?_; refine zAC (RwS.mk (i + 1) v'') (by rw [← hpn] <;> rfl) ⟨hO'',by simp only; omega,ho''⟩ (by simp only; omega)
 ·rcases three with ⟨ta,tc⟩ | ⟨ta,ti,tc,tr⟩ | ⟨ta,tb,tc⟩
  ·have hno:=hab ta
   rw [ta] at qa hfa
   rw [hno,zOf] at hps
   have hpn : ps = ((t == ([] : Bs)) || zIs (l.take (i + 1)) c r):=by rw [qa,hno,hps]; simp
   have hoo : zEE (l.take (i + 1)) c r t = zEE (l.take i) c r t ++ [f]:=q1 ta hno
   cases ps with
   | true=>
    refine zB4 hv1 <| zc (tT) <| zF <| zF <| zF ?_; refine hx _ i (zR f) _ rfl hfm (fun b2 j2 hp2=>?_)
    refine z6 (zn f.col f.row) (hp2 _) rfl <| zC (zn c r) hb4 rfl <| zl rfl <| zc (show zIW true (f.col == c && (f.row == r && true)) = true from by rw [tc]; rfl) ?_; refine hx _ i (zR f) _ rfl hfm (fun b2 j2 hp2=>?_)
    refine z6 (zR f) (hp2 _) rfl <| zAF (vs':=[zR f]) rfl rfl ?_; refine zAq (H0:=H ++ [ABlk.box (zn c r).cells]) (ys:=[zR f]) (ho.push _) (hO.push _) zAM (by decide) (by simp only [zMx,zM3,zMu,zM7]; omega) (by simp) (fun v' H' ho' hO' _ _=>?_)
    have ho' : Owns (H ++ [ABlk.box (zn c r).cells]) H' v' 3 ((zEE (l.take (i + 1)) c r t).map zR):=by rw [hoo,zNI]; exact ho'
    refine zN (r:=i + 1) rfl tO ?_; refine zAC (RwS.mk (i + 1) v') (by rw [← hpn] <;> rfl) ⟨hO',by simp only; omega,ho'⟩ (by simp only; omega)
   | false=>
    refine zB4 hv1 <| zc (tT) <| zG ?_; refine hx _ i (zR f) _ rfl hfm (fun b2 j2 hp2=>?_)
    refine z6 (zn f.col f.row) (hp2 _) rfl <| zC (zn c r) hb4 rfl <| zI (hfa _) <| zG <| zF ?_; refine hx _ i (zR f) _ rfl hfm (fun b2 j2 hp2=>?_)
    refine z6 (zn f.col f.row) (hp2 _) rfl <| zC (zn c r) hb4 rfl <| zl rfl <| zc (show zIW true (f.col == c && (f.row == r && true)) = true from by rw [tc]; rfl) ?_; refine hx _ i (zR f) _ rfl hfm (fun b2 j2 hp2=>?_)
    refine z6 (zR f) (hp2 _) rfl <| zAF (vs':=[zR f]) rfl rfl ?_; refine zAq (H0:=H ++ [ABlk.box (zn c r).cells]) (ys:=[zR f]) (ho.push _) (hO.push _) zAM (by decide) (by simp only [zMx,zM3,zMu,zM7]; omega) (by simp) (fun v' H' ho' hO' _ _=>?_)
    have ho' : Owns (H ++ [ABlk.box (zn c r).cells]) H' v' 3 ((zEE (l.take (i + 1)) c r t).map zR):=by rw [hoo,zNI]; exact ho'
    refine zN (r:=i + 1) rfl tO ?_; refine zAC (RwS.mk (i + 1) v') (by rw [← hpn] <;> rfl) ⟨hO',by simp only; omega,ho'⟩ (by simp only; omega)
  ·rw [ta] at qa hfa
   have hpn : true = ((t == ([] : Bs)) || zIs (l.take (i + 1)) c r):=by rw [qa]; simp
   cases ps with
   | true=>
    have hoo : zEE (l.take (i + 1)) c r t = zEE (l.take i) c r t:=by
     cases ha : zIs (l.take i) c r with
     | true=>exact q3 ti ha
     | false=>
      rw [ha,zOf] at hps
      rw [q2 ti ha,zNJ.1 hps]
      simp
    refine zB4 hv1 <| zc (tT) <| zF <| zF <| zF ?_; refine hx _ i (zR f) _ rfl hfm (fun b2 j2 hp2=>?_)
    refine z6 (zn f.col f.row) (hp2 _) rfl <| zC (zn c r) hb4 rfl <| zl rfl <| zW (show zIW true (f.col == c && (f.row == r && true)) = false from by rw [tE tc,tE tr]; rfl) <| zN (r:=i + 1) rfl tO ?_; refine zAC (RwS.mk (i + 1) v) (by rw [← hpn] <;> rfl) ⟨hO,by simp only; omega,by rw [hoo]; exact ho⟩ (by simp only; omega)
   | false=>
    rw [zOt] at hps
    have hne : t ≠ []:=fun h=>by rw [h] at hps; exact absurd hps.1 (by decide)
    have hoo : zEE (l.take (i + 1)) c r t = zEE (l.take i) c r t ++ [⟨c,r,t⟩]:=by rw [q2 ti hps.2,zMt hne]
    refine zB4 hv1 <| zc (tT) <| zG ?_; refine hx _ i (zR f) _ rfl hfm (fun b2 j2 hp2=>?_)
    refine z6 (zn f.col f.row) (hp2 _) rfl <| zC (zn c r) hb4 rfl <| zI (hfa _) <| zG <| zG <| zC (zn c r) hb4 rfl ?_; refine zl (v:=[zJ c,zJ r,AV.str t]) rfl <| zAF (vs':=[AV.agg [zJ c,zJ r,AV.str t]]) rfl rfl ?_; refine zAq (H0:=H ++ [ABlk.box (zn c r).cells]) (ys:=[AV.agg [zJ c,zJ r,.str t]]) (ho.push _) (hO.push _) zAM (by decide) (by simp only [zMx,zM3,zMu,zM7]; omega) (by simp) (fun v' H' ho' hO' _ _=>?_)
    have ho' : Owns (H ++ [ABlk.box (zn c r).cells]) H' v' 3 ((zEE (l.take (i + 1)) c r t).map zR):=by rw [hoo,zNI]; exact ho'
    have hv2:=zDD (((Old.refl H).push _).trans hO') hv
    have hb5 : H'[H.length]? = some (.box (zn c r).cells):=by rw [hO'.2 _ (by simp)]; exact zB
    rcases zKQ hv2 with hy | hy
    ·refine hy _ i (zR f) _ rfl hfm ?_; refine zi (zn f.col f.row) rfl <| zC (zn c r) hb5 rfl <| zl rfl <| zW (show zIW true (f.col == c && (f.row == r && true)) = false from by rw [tE tc,tE tr]; rfl) <| zN (r:=i + 1) rfl tO ?_; refine zAC (RwS.mk (i + 1) v') (by rw [← hpn] <;> rfl) ⟨hO',by simp only; omega,ho'⟩ (by simp only; omega)
    ·refine hy _ i (zR f) _ rfl hfm (fun b2 j2 hp2=>?_)
     refine z6 (zn f.col f.row) (hp2 _) rfl <| zC (zn c r) hb5 rfl <| zl rfl <| zW (show zIW true (f.col == c && (f.row == r && true)) = false from by rw [tE tc,tE tr]; rfl) <| zN (r:=i + 1) rfl tO ?_; refine zAC (RwS.mk (i + 1) v') (by rw [← hpn] <;> rfl) ⟨hO',by simp only; omega,ho'⟩ (by simp only; omega)
  ·rw [ta] at qa hfa
   have hpn : true = ((t == ([] : Bs)) || zIs (l.take (i + 1)) c r):=by rw [qa]; simp
   cases ps with
   | true=>
    have hoo : zEE (l.take (i + 1)) c r t = zEE (l.take i) c r t ++ [f]:=by
     cases ha : zIs (l.take i) c r with
     | true=>exact q5 tb ha
     | false=>
      rw [ha,zOf] at hps
      rw [q4 tb ha,zNJ.1 hps]
      simp
    refine zB4 hv1 <| zc (tT) <| zF <| zF <| zF ?_; refine hx _ i (zR f) _ rfl hfm (fun b2 j2 hp2=>?_)
    refine z6 (zn f.col f.row) (hp2 _) rfl <| zC (zn c r) hb4 rfl <| zl rfl <| zc (show zIW true (f.col == c && (f.row == r && true)) = true from by rw [tc]; rfl) ?_; refine hx _ i (zR f) _ rfl hfm (fun b2 j2 hp2=>?_)
    refine z6 (zR f) (hp2 _) rfl <| zAF (vs':=[zR f]) rfl rfl ?_; refine zAq (H0:=H ++ [ABlk.box (zn c r).cells]) (ys:=[zR f]) (ho.push _) (hO.push _) zAM (by decide) (by simp only [zMx,zM3,zMu,zM7]; omega) (by simp) (fun v' H' ho' hO' _ _=>?_)
    have ho' : Owns (H ++ [ABlk.box (zn c r).cells]) H' v' 3 ((zEE (l.take (i + 1)) c r t).map zR):=by rw [hoo,zNI]; exact ho'
    refine zN (r:=i + 1) rfl tO ?_; refine zAC (RwS.mk (i + 1) v') (by rw [← hpn] <;> rfl) ⟨hO',by simp only; omega,ho'⟩ (by simp only; omega)
   | false=>
    rw [zOt] at hps
    have hne : t ≠ []:=fun h=>by rw [h] at hps; exact absurd hps.1 (by decide)
    have hoo : zEE (l.take (i + 1)) c r t = zEE (l.take i) c r t ++ [⟨c,r,t⟩] ++ [f]:=by rw [q4 tb hps.2,zMt hne]
    refine zB4 hv1 <| zc (tT) <| zG ?_; refine hx _ i (zR f) _ rfl hfm (fun b2 j2 hp2=>?_)
    refine z6 (zn f.col f.row) (hp2 _) rfl <| zC (zn c r) hb4 rfl <| zI (hfa _) <| zG <| zG <| zC (zn c r) hb4 rfl ?_; refine zl (v:=[zJ c,zJ r,AV.str t]) rfl <| zAF (vs':=[AV.agg [zJ c,zJ r,AV.str t]]) rfl rfl ?_; refine zAq (H0:=H ++ [ABlk.box (zn c r).cells]) (ys:=[AV.agg [zJ c,zJ r,.str t]]) (ho.push _) (hO.push _) zAM (by decide) (by simp only [zMx,zM3,zMu,zM7]; omega) (by simp) (fun v' H' ho' hO' _ _=>?_)
    have hv2:=zDD (((Old.refl H).push _).trans hO') hv
    have hb5 : H'[H.length]? = some (.box (zn c r).cells):=by rw [hO'.2 _ (by simp)]; exact zB
    rcases zKQ hv2 with hy | hy
    ·refine hy _ i (zR f) _ rfl hfm ?_; refine zi (zn f.col f.row) rfl <| zC (zn c r) hb5 rfl <| zl rfl <| zc (show zIW true (f.col == c && (f.row == r && true)) = true from by rw [tc]; rfl) ?_; refine hy _ i (zR f) _ rfl hfm ?_; refine zi (zR f) rfl <| zAF (vs':=[zR f]) rfl rfl ?_; refine zAq (H0:=H ++ [ABlk.box (zn c r).cells]) (ys:=[zR f]) (ho'.push _) (hO'.push _) zAM (by decide) (by simp only [zMx,zM3,zMu,zM7]; omega) (by simp) (fun v'' H'' ho'' hO'' _ _=>?_)
     have ho'' : Owns (H ++ [ABlk.box (zn c r).cells]) H'' v'' 3 ((zEE (l.take (i + 1)) c r t).map zR):=by rw [hoo,zNI,zNI]; exact ho''
     refine zN (r:=i + 1) rfl tO ?_; refine zAC (RwS.mk (i + 1) v'') (by rw [← hpn] <;> rfl) ⟨hO'',by simp only; omega,ho''⟩ (by simp only; omega)
    ·refine hy _ i (zR f) _ rfl hfm (fun b2 j2 hp2=>?_)
     refine z6 (zn f.col f.row) (hp2 _) rfl <| zC (zn c r) hb5 rfl <| zl rfl <| zc (show zIW true (f.col == c && (f.row == r && true)) = true from by rw [tc]; rfl) ?_; refine hy _ i (zR f) _ rfl hfm (fun b2 j2 hp2=>?_)
     refine z6 (zR f) (hp2 _) rfl <| zAF (vs':=[zR f]) rfl rfl ?_; refine zAq (H0:=H ++ [ABlk.box (zn c r).cells]) (ys:=[zR f]) (ho'.push _) (hO'.push _) zAM (by decide) (by simp only [zMx,zM3,zMu,zM7]; omega) (by simp) (fun v'' H'' ho'' hO'' _ _=>?_)
     have ho'' : Owns (H ++ [ABlk.box (zn c r).cells]) H'' v'' 3 ((zEE (l.take (i + 1)) c r t).map zR):=by rw [hoo,zNI,zNI]; exact ho''
     refine zN (r:=i + 1) rfl tO ?_; refine zAC (RwS.mk (i + 1) v'') (by rw [← hpn] <;> rfl) ⟨hO'',by simp only; omega,ho''⟩ (by simp only; omega)
end
end Go.AM
set_option maxRecDepth 20000
namespace Go.AM
section
variable {C : CSpec} {GT : Nat → Option AV}
theorem ssheets_ev (v w : AV) (l : List Fil) (H : Heap) (hv : view H 3 v = some (l.map zR)) (hw : view H 3 w = some (l.map zR)) (hl : l.length ≤ 1000000) : EFun C GT zGk [v,w] H (.bool true) H:=by
 have hlm : (l.map zR).length = l.length:=zMx _
 refine za ?_; refine zB4 hv <| zB4 hw <| zW (zNQ.2 rfl) ?_; refine zBM (fun i : Nat=>[(5,zK i),(1,w),(0,v)]) (fun i H'=>H' = H ∧ i ≤ l.length) (fun i=>l.length - i) 0 rfl ⟨rfl,by omega⟩ (fun i H1 ⟨hH,hi⟩=>?_)
 subst hH
 dsimp only
 by_cases hlt : i < l.length
 ·obtain ⟨c,hc⟩ : ∃ c,l[i]? = some c:=⟨_,zMr hlt⟩
  have hcm : (l.map zR)[i]? = some (zR c):=by rw [zM2,hc]; rfl
  refine zB4 hv <| zc tT ?_; refine zGp i (zR c) hv rfl hcm (fun p hp=>?_)
  refine z6 (zR c) hp rfl ?_; refine zGp i (zR c) hw rfl hcm (fun p2 hp2=>?_)
  refine z6 (zR c) hp2 rfl <| zl rfl <| zW (show zIW true (c.col == c.col && (c.row == c.row && (c.text == c.text && true))) = false from by simp [zIW]) <| zN (r:=i + 1) rfl tO ?_; refine zAC (i + 1) rfl ⟨rfl,by omega⟩ tO
 ·refine zB4 hv <| zW tF ?_
  exact sRr
end
end Go.AM
namespace Go.AM
section
variable {H : Type} {enc : TypeId × Value → H} {P : Program} {w : World} {held : Bool} {base : Nat} {sp : Nat → Bool}
theorem len_of_trod {t e : TypeId} {v : Value} {d : DataW H} {ps : List MemPlace} {M : AMap} {I : Nat → Prop} {n : Nat} {q : Option Bool} {k : Nat} {xs : List AV} (hu : P.underlying t = some (.slice e)) (h : DataW.Trod enc P w base sp held t v d ps) (hr : Rel w M I n (.lst q k xs) v) :
  xs = [] ∨ ∃ elems spare,d = .slice elems spare ∧ elems.length = xs.length:=by
 obtain ⟨fuel,h⟩:=h
 cases fuel with
 | zero=>simp [DataW.trod] at h
 | succ fuel=>
 cases hr with
 | lnil=>exact .inl rfl
 | lemp=>exact .inl rfl
 | lst q k xs g o cap V hq hc hm hI he hv hr=>
  refine .inr ?_
  have hcs : (Value.slice (some ⟨g,o,none⟩) xs.length cap).cells.toList = [Value.slice (some ⟨g,o,none⟩) xs.length cap]:=rfl
  rw [hcs] at h
  simp only [DataW.trod,hu] at h
  split at h
  ·obtain ⟨elems,he,h⟩:=zNU.1 h
   obtain ⟨rest,_,h⟩:=zMy.1 h
   obtain ⟨h1,_⟩:=zEo he
   rw [zOZ] at h1
   simp only [zMw] at h
   exact ⟨_,_,h.1.symm,by rw [zMx,h1]⟩
  ·cases h
theorem sized_list {t e : TypeId} {v : Value} {d : DataW H} {ps : List MemPlace} {M : AMap} {I : Nat → Prop} {n : Nat} {q : Option Bool} {k : Nat} {xs : List AV} {ts : List TypeId} {ds : List (DataW H)} {j : Nat}
  (hsz : (DataW.weightsEach P ts ds).all (· ≤ reachBytes) = true) (ht : ts[j]? = some t) (hd : ds[j]? = some d) (hu : P.underlying t = some (.slice e)) (h : DataW.Trod enc P w base sp held t v d ps) (hr : Rel w M I n (.lst q k xs) v) :
  xs.length * P.bytesOf e < 140737488355328:=by
 have hb : reachBytes < 140737488355328:=reachBytes_lt
 rcases len_of_trod hu h hr with rfl | ⟨elems,spare,rfl,hl⟩
 ·simp
 ·have:=sized_slice hsz ht hd hu
  rw [zNa] at this
  rw [← hl]
  omega
end
end Go.AM
namespace Go.AM
section
variable {H : Type} {enc : TypeId × Value → H} {P : Program} {w : World} {held : Bool}
end
end Go.AM
namespace Go.Proofs
open Go.RowKit Go.AM
section
variable {H : Type} {enc : TypeId × Value → H}
theorem zG7 {a : Assume} {C : Checked} {os : Os} {f : FuncId} {fn : Func} {s : ChangeSpec} {conds : List PathCond} {apart fresh handsOn again : Bool} {X : World → Array Value → Prop}
  (hX : ∀ (w w' : World) (args : Array Value),w.heap = w'.heap → X w args → X w' args)
  (own : ownKnob C.prog.godebug = none) (started : os.Started) (noInit : C.prog.inits.idxOf? f = none) (hfn : C.prog.funcs[f]? = some fn)
  (witness : ∃ (w : World) (tape : Tape) (i : Input),w.os = os ∧ (w.forCall tape i).Shaped C.prog ∧ i.vars = [] ∧ Input.okWide C.prog (w.forCall tape i) .any w.heap.size f i ∧
   ((s.pre enc C.prog fn conds apart (w.forCall tape i).memory i.args ∧ X (w.forCall tape i).memory i.args) ∧ sizedMet enc C.prog fn (OpenSpec.ofChange s) apart (w.forCall tape i).memory i.args) ∧ a.holds C.prog (lone (Frame.enter C.prog f i.args .normal) [] (w.forCall tape i)))
  (contract : ∀ (W : World) (base : Nat) (args : Array Value) (ds gs : List (DataW H)) (before : List MemPlace),
   (∀ (j : Nat) t v,fn.params[j]? = some t → args[j]? = some v → Value.okWide C.prog W .any base t v) →
   DataW.Whole enc C.prog fn.params.toList s.vars apart W args.toList ds gs before →
   conds.all (PathCond.test C.prog ⟨fn.params.toList,ds,s.plain.varTypes C.prog,gs⟩) = true →
   (DataW.weightsEach C.prog (fn.params.toList ++ s.plain.varTypes C.prog) (ds ++ gs)).all (· ≤ reachBytes) = true → X W args → W.ShapedOpen C.prog →
   Calls C.prog f args W fun e W'=>∃ v,e = .returned v ∧ s.post enc C.prog fn apart fresh handsOn again W args v W') :
  ReturnsInHanded a C os f .any (fun w args=>(s.pre enc C.prog fn conds apart w args ∧ X w args) ∧ sizedMet enc C.prog fn (OpenSpec.ofChange s) apart w args) (s.post enc C.prog fn apart fresh handsOn again):=by
 refine returnsInHanded_of_calls own started noInit witness ?_
 intro w tape i _ hsh _ hok hpre hholds
 obtain ⟨_,_,_,fn',hfn',_,_,_,_,hval⟩:=hok
 have e : fn' = fn:=zNH (hfn'.symm.trans hfn)
 subst e
 obtain ⟨⟨⟨ds,gs,before,hw,hc⟩,hx⟩,hz⟩:=hpre
 have hw':=DataW.Whole.of_heap (w':=w.forCall tape i) (by rfl) hw
 refine (contract (w.forCall tape i) w.heap.size i.args ds gs before hval hw' hc (hz.weights hw) (hX _ _ _ (by rfl) hx) hsh).mono fun e W' ⟨v,he,hp⟩=>?_
 subst he
 exact ChangeSpec.post_blind hp
def varsRefB (P : Program) (w : World) : Bool:=
 let w₀:=(begin P (fun _ _=>0) default).world
 (List.range P.globals.size).all fun g=>
  match (w₀.heap[g]?).bind Obj.row? with
  | none=>true
  | some (zero,t)=>
   match w.heap[g]? with
   | some (.cells cs t' frozen)=>decide (t' = t) && decide (frozen = (0,0)) && cs.size == zero.size && (!P.buildable t || Row.okRefB P w t cs)
   | _=>false
theorem shaped_of_refB {P : Program} {w : World} (hv : varsRefB P w = true)
  (hr : (w.heap.toList.drop P.globals.size).take ((begin P (fun _ _=>0) default).world.heap.size - P.globals.size) =
   (begin P (fun _ _=>0) default).world.heap.toList.drop P.globals.size) : w.Shaped P:=by
 refine ⟨fun g zero t hg hz=>?_,fun k h1 h2=>?_⟩
 case refine_2=>
  have:=zNF (·[k - P.globals.size]?) hr
  simp only [zNL,zNO,zPZ] at this
  rw [zMt tO,Nat.add_sub_cancel' h1] at this
  exact this
 unfold varsRefB at hv
 simp only [zNz,zPR] at hv
 have:=hv g hg
 rw [hz] at this
 simp only at this
 split at this
 ·rename_i cs t' fr hw
  simp only [zMs,zMz,zNJ,zOA,zNg] at this
  obtain ⟨⟨⟨rfl,rfl⟩,hs⟩,hb⟩:=this
  refine ⟨cs,hw,hs,fun hbuild=>?_⟩
  rcases hb with hb | hb
  ·rw [hbuild] at hb; cases hb
  ·exact Row.ok_of_okRefB hb
 ·cases this
theorem witness_shaped {C : Checked} {os : Os} {f : FuncId} {fn : Func} {s : ChangeSpec} {conds : List PathCond} {apart : Bool} {X : World → Array Value → Prop} (modest : Bool) (w0 : World) (args : Array Value) (fuel : Nat) (hos : w0.os = os)
  (hsh : (w0.forCall (fun _ _=>0) ⟨#[],args,[]⟩).Shaped C.prog)
  (hok : Input.okWideB C.prog (w0.forCall (fun _ _=>0) ⟨#[],args,[]⟩) f ⟨#[],args,[]⟩ = true)
  (hpre : s.preB enc C.prog fn conds apart (w0.forCall (fun _ _=>0) ⟨#[],args,[]⟩).memory args fuel = true)
  (hsz : s.sizedB enc C.prog fn apart (w0.forCall (fun _ _=>0) ⟨#[],args,[]⟩).memory args fuel = true)
  (hx : X (w0.forCall (fun _ _=>0) ⟨#[],args,[]⟩).memory args) :
  ∃ (w : World) (tape : Tape) (i : Input),w.os = os ∧ (w.forCall tape i).Shaped C.prog ∧ i.vars = [] ∧ Input.okWide C.prog (w.forCall tape i) .any w.heap.size f i ∧
   ((s.pre enc C.prog fn conds apart (w.forCall tape i).memory i.args ∧ X (w.forCall tape i).memory i.args) ∧ sizedMet enc C.prog fn (OpenSpec.ofChange s) apart (w.forCall tape i).memory i.args) ∧ ({ modest:=modest } : Assume).holds C.prog (lone (Frame.enter C.prog f i.args .normal) [] (w.forCall tape i)):=
 ⟨w0,fun _ _=>0,⟨#[],args,[]⟩,hos,hsh,(Input.okWide_of_okWideB (base:=0) hok).1,(Input.okWide_of_okWideB hok).2,⟨⟨ChangeSpec.pre_of_preB hpre,hx⟩,sizedMet_of_sizedB hsz⟩,by
  simp only [Assume.holds]
  exact ⟨by simp,by simp,fun _=>Modest.zero,by simp,by simp⟩⟩
end
end Go.Proofs
namespace Go.AM
theorem fl_map_of {α : Type} {f : α → AV} : ∀ {ys : List AV},(∀ y ∈ ys,∃ v,y = f v) → ∃ vs : List α,ys = vs.map f
 | [],_=>⟨[],rfl⟩
 | y :: ys,h=>by
  obtain ⟨v,rfl⟩:=h y (by simp)
  obtain ⟨vs,rfl⟩:=fl_map_of (ys:=ys) fun z hz=>h z (zN1 _ hz)
  exact ⟨v :: vs,rfl⟩
theorem fl_sl {ag : Bool} {es : List Sh} {x : AV} (h : Fits (.sl ag es) x) : ∃ q xs,x = .lst (some q) es.length xs ∧ (q = true → xs = []) ∧ xs.length ≤ maxLen ∧ (∀ y ∈ xs,y.cells.length = es.length ∧ formed ag y) ∧
  ∀ y ∈ xs,∀ (i : Nat) (s : Sh) (c : AV),es[i]? = some s → y.cells[i]? = some c → Fits s c:=by
 cases h with
 | sl ag es q xs hl hq h1 h2=>exact ⟨q,xs,rfl,hq,hl,h1,h2⟩
theorem fl_int {k : IntKind} {x : AV} (h : Fits (.int k) x) : ∃ n,x = .int k n ∧ (Lit.int k n).wf = true:=by cases h with | int k n h=>exact ⟨n,rfl,h⟩
theorem fl_str {x : AV} (h : Fits .str x) : ∃ s,x = .str s:=by cases h with | str s h=>exact ⟨s,rfl⟩
theorem fl_wf {n : Int} (h : (Lit.int .i64 n).wf = true) : zDZ n:=by
 have h : IntKind.i64.min ≤ n ∧ n ≤ 9223372036854775807:=by simpa [Lit.wf] using h
 have e : IntKind.i64.min = -9223372036854775808:=rfl
 exact ⟨by omega,h.2⟩
theorem fl_num {x : AV} (h : Fits (.int .i64) x) : ∃ n,x = zJ n ∧ zDZ n:=by
 obtain ⟨n,rfl,hn⟩:=fl_int h
 exact ⟨n,rfl,fl_wf hn⟩
def shFil : List Sh:=[.int .i64,.int .i64,.str]
theorem fl_fil {cs : List AV} (hl : cs.length = 3) (h : ∀ (i : Nat) (s : Sh) (c : AV),shFil[i]? = some s → cs[i]? = some c → Fits s c) : ∃ f : Fil,AV.agg cs = zR f ∧ zDZ f.col ∧ zDZ f.row:=by
 match cs,hl with
 | [a,b,c],_=>
  obtain ⟨n,rfl,h1⟩:=fl_num (h 0 _ a rfl rfl)
  obtain ⟨m,rfl,h2⟩:=fl_num (h 1 _ b rfl rfl)
  obtain ⟨s,rfl⟩:=fl_str (h 2 _ c rfl rfl)
  exact ⟨⟨n,m,s⟩,rfl,h1,h2⟩
theorem fl_fils {x : AV} (h : Fits (.sl true shFil) x) : ∃ l : List Fil,∃ q,x = .lst (some q) 3 (l.map zR) ∧ (∀ H,view H 3 x = some (l.map zR)) ∧ ∀ f ∈ l,zDZ f.col ∧ zDZ f.row:=by
 obtain ⟨q,xs,rfl,_,_,h1,h2⟩:=fl_sl h
 obtain ⟨l,hl⟩ : ∃ vs : List {f : Fil // zDZ f.col ∧ zDZ f.row},xs = vs.map (fun f=>zR f.1):=fl_map_of fun y hy=>by
  obtain ⟨k1,cs,rfl⟩:=h1 y hy
  obtain ⟨f,e,f1,f2⟩:=fl_fil k1 (h2 _ hy)
  exact ⟨⟨f,f1,f2⟩,e⟩
 refine ⟨l.map (·.1),q,by rw [zPe,hl]; rfl,fun H=>by rw [hl,zPe]; rfl,fun f hf=>?_⟩
 obtain ⟨g,_,rfl⟩:=zNh.1 hf
 exact g.2
end Go.AM
