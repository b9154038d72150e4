/- Several texts of mine in one (Wt2, Be2, Opl, Op1, Op2). Own work. -/
import Derived.Test.YthpjgjdeogodjaaGreatDoorGInsDlg
import Derived.Test.YthpjgjdeogodjaaGreatDoorGRfhSk0
import Derived.Test.YthpjgjdeogodjaaGreatDoorGSk1Wt0
set_option linter.all false
set_option maxRecDepth 20000
namespace Go.AM
def zIR (l : List Fil) (c r : Int) : Bool:=l.any fun f=>!aheadC c r f
def zD0 (l : List Fil) (c r : Int) (t : Bs) : List Fil:=l.filter (aheadC c r) ++ (if t ≠ [] ∧ zIR l c r = true then [⟨c,r,t⟩] else []) ++ l.filter (zA9 c r)
theorem anyN_snoc (l : List Fil) (f : Fil) (c r : Int) : zIR (l ++ [f]) c r = (zIR l c r || !aheadC c r f):=by unfold zIR; simp
theorem anyN_no {l : List Fil} {c r : Int} (h : zIR l c r = false) : l.filter (zA9 c r) = []:=by
 refine List.filter_eq_nil_iff.2 fun f hf=>?_
 unfold zIR at h
 rw [List.any_eq_false] at h
 have:=h f hf
 simp only [Bool.not_eq_true',aheadC,decide_eq_false_iff_not] at this
 simp only [zA9,decide_eq_true_eq]
 omega
theorem outW_snoc (l : List Fil) (f : Fil) (c r : Int) (t : Bs) : (aheadC c r f = true → zIR l c r = false → zD0 (l ++ [f]) c r t = zD0 l c r t ++ [f]) ∧
  (isC c r f = true → zIR l c r = false → zD0 (l ++ [f]) c r t = zD0 l c r t ++ (if t ≠ [] then [⟨c,r,t⟩] else [])) ∧ (isC c r f = true → zIR l c r = true → zD0 (l ++ [f]) c r t = zD0 l c r t) ∧
  (zA9 c r f = true → zIR l c r = false → zD0 (l ++ [f]) c r t = zD0 l c r t ++ (if t ≠ [] then [⟨c,r,t⟩] else []) ++ [f]) ∧ (zA9 c r f = true → zIR l c r = true → zD0 (l ++ [f]) c r t = zD0 l c r t ++ [f]):=by
 have ex : ∀ g : Fil,(isC c r g = true → aheadC c r g = false ∧ zA9 c r g = false) ∧ (zA9 c r g = true → aheadC c r g = false) ∧ (aheadC c r g = true → zA9 c r g = false):=fun g=>by
  simp only [isC,aheadC,zA9,decide_eq_true_eq,decide_eq_false_iff_not]
  refine ⟨fun h=>⟨by omega,by omega⟩,fun h=>by omega,fun h=>by omega⟩
 have ff : ∀ (p : Fil → Bool),(l ++ [f]).filter p = l.filter p ++ (if p f = true then [f] else []):=fun p=>by
  rw [List.filter_append]; cases hp : p f <;> simp [hp]
 unfold zD0
 rw [anyN_snoc,ff,ff]
 refine ⟨fun h1 h2=>?_,fun h1 h2=>?_,fun h1 h2=>?_,fun h1 h2=>?_,fun h1 h2=>?_⟩
 ·have:=(ex f).2.2 h1
  rw [anyN_no h2,h1,h2,this]
  simp
 ·obtain ⟨a,b⟩:=(ex f).1 h1
  rw [anyN_no h2,a,h2,b]
  by_cases ht : t = [] <;> simp [ht]
 ·obtain ⟨a,b⟩:=(ex f).1 h1
  rw [a,h2,b]
  simp
 ·have a:=(ex f).2.1 h1
  rw [anyN_no h2,a,h2,h1]
  by_cases ht : t = [] <;> simp [ht]
 ·have a:=(ex f).2.1 h1
  rw [a,h2,h1]
  simp
theorem withS_outW {l : List Fil} (c r : Int) (t : Bs) : zCD l c r t = if t ≠ [] ∧ zIR l c r = false then zD0 l c r t ++ [⟨c,r,t⟩] else zD0 l c r t:=by
 unfold zCD zD0
 by_cases ht : t = []
 ·simp [ht]
 ·cases h : zIR l c r with
  | true=>simp [ht]
  | false=>simp [ht,anyN_no h]
theorem outW_len (l : List Fil) (c r : Int) (t : Bs) : (zD0 l c r t).length ≤ 2 * l.length + 1:=by
 unfold zD0
 have h1:=List.length_filter_le (aheadC c r) l
 have h2:=List.length_filter_le (zA9 c r) l
 simp only [List.length_append]
 split
 ·simp only [List.length_cons,List.length_nil]; omega
 ·simp only [List.length_nil]; omega
theorem ahead_before {l : List Fil} (hs : Srtd l) {i : Nat} {f : Fil} (hf : l[i]? = some f) {c r : Int} (ha : aheadC c r f = true) : zIR (l.take i) c r = false:=by
 unfold zIR
 rw [List.any_eq_false]
 intro g hg
 obtain ⟨k,hk⟩:=List.getElem?_of_mem hg
 have hki:=(zg hk).1
 rw [List.length_take] at hki
 rw [List.getElem?_take_of_lt tO] at hk
 obtain ⟨h1,rfl⟩:=zg hk
 obtain ⟨h2,rfl⟩:=zg hf
 have:=List.pairwise_iff_getElem.1 hs k i h1 h2 tO
 simp only [aheadC,decide_eq_true_eq] at ha
 simp only [Bool.not_eq_true',aheadC,decide_eq_false_iff_not]
 omega
structure RwS where
 i : Nat
 v : AV
section
variable {C : CSpec} {GT : Nat → Option AV}
set_option maxHeartbeats 4000000 in
theorem rwith_ev (hA : ∀ a b H,C zBQ [zx a.col a.row,zx b.col b.row] H (.bool (zFv a b)) H) (lv : AV) (l : List Fil) (hl : l.length ≤ 1000) (hs : Srtd l) (c r : Int) (t : Bs) (H : Heap) (hv : view H 3 lv = some (l.map zi)) :
  EFun C GT zHt [lv,zx c r,.str t] H (zIN 3 ((zCD l c r t).map zi)) H:=by
 have hlm : (l.map zi).length = l.length:=List.length_map _
 have hah : ∀ f H,C zBQ [zx f.col f.row,zx c r] H (.bool (aheadC c r f)) H:=fun f H=>by
  have:=hA f ⟨c,r,[]⟩ H
  have e : zFv f ⟨c,r,[]⟩ = aheadC c r f:=by unfold zFv; exact aheadC_cmp c r f
  rwa [e] at this
 clear hA
 refine zc ?_; refine zDM (x:=zx c r) rfl ?_; refine zBn (fun x : RwS=>[(9,zJ x.i),(0,lv),(4,pR H.length),(2,.str t),(7,x.v),(8,.bool ((t == ([] : Bs)) || zIR (l.take x.i) c r))]) (fun x H'=>Old (H ++ [ABlk.box (zx c r).cells]) H' ∧ x.i ≤ l.length ∧ Owns (H ++ [ABlk.box (zx c r).cells]) H' x.v 3 ((zD0 (l.take x.i) c r t).map zi)) (fun x=>l.length - x.i) ⟨0,.lst (some true) 0 []⟩ (by simp only [List.take_zero,zIR,List.any_nil,Bool.or_false] <;> rfl) ⟨Old.refl _,Nat.zero_le _,.inl ⟨rfl,by simp [zD0,zIR]⟩⟩ (fun ⟨i,v⟩ H1 ⟨hO,hi,ho⟩=>?_)
 dsimp only at hi ho ⊢
 have hO0 : Old H H1:=((Old.refl H).push _).trans hO
 have hb4 : H1[H.length]? = some (.box (zx c r).cells):=by rw [hO.2 _ (by simp)]; exact zD
 have hv1:=zEB hO0 hv
 have hol:=outW_len (l.take i) c r t
 have htl : (l.take i).length ≤ 1000:=by rw [List.length_take]; omega
 by_cases hlt : i < l.length
 case neg=>
  have he : l.take i = l:=List.take_of_length_le tO
  rw [he] at ho hol ⊢
  have hw:=withS_outW (l:=l) c r t
  cases hp : ((t == ([] : Bs)) || zIR l c r) with
  | true=>
   have hw2 : zCD l c r t = zD0 l c r t:=by
    rw [hw,if_neg]
    rintro ⟨a,b⟩
    rw [b,Bool.or_false] at hp
    exact a (beq_iff_eq.1 hp)
   rw [← hw2] at ho
   refine zCa hv1 <| zO (tF) <| zG ?_
   obtain ⟨H3,hz,hO3,_⟩:=(ho.weaken (H0:=H) (by simp)).frz hO0
   exact zJX rfl rfl hz (by generalize (zCD l c r t).map zi = xs; cases xs <;> rfl) hO3
  | false=>
   rw [Bool.or_eq_false_iff] at hp
   have hw2 : zCD l c r t = zD0 l c r t ++ [⟨c,r,t⟩]:=by rw [hw,if_pos ⟨fun h=>by rw [h] at hp; exact absurd hp.1 (by decide),hp.2⟩]
   refine zCa hv1 <| zO (tF) <| zH <| zB (zx c r) hb4 rfl <| zR (v:=[zK c,zK r,AV.str t]) rfl <| zAL (vs':=[AV.agg [zK c,zK r,AV.str t]]) rfl rfl ?_; refine zAs (H0:=H ++ [ABlk.box (zx c r).cells]) (ys:=[AV.agg [zK c,zK r,.str t]]) (ho.push _) (hO.push _) zAW (by decide) (by simp only [List.length_map,List.length_cons,List.length_nil]; omega) (by simp) (fun v' H' ho' hO' _ _=>?_)
   have ho' : Owns (H ++ [ABlk.box (zx c r).cells]) H' v' 3 ((zCD l c r t).map zi):=by rw [hw2,List.map_append]; exact ho'
   have hO0' : Old H H':=((Old.refl H).push _).trans hO'
   obtain ⟨H3,hz,hO3,_⟩:=(ho'.weaken (H0:=H) (by simp)).frz hO0'
   exact zJX rfl rfl hz (by generalize (zCD l c r t).map zi = xs; cases xs <;> rfl) hO3
 obtain ⟨f,hf⟩ : ∃ f,l[i]? = some f:=⟨_,List.getElem?_eq_getElem hlt⟩
 have hfm : (l.map zi)[i]? = some (zi f):=by rw [List.getElem?_map,hf]; rfl
 have htk : l.take (i + 1) = l.take i ++ [f]:=by rw [List.take_succ,hf]; rfl
 obtain ⟨q1,q2,q3,q4,q5⟩:=outW_snoc (l.take i) f c r t
 have qa:=anyN_snoc (l.take i) f c r
 rw [← htk] at q1 q2 q3 q4 q5 qa
 have hab:=fun h=>ahead_before hs hf (c:=c) (r:=r) h
 have hfa:=hah f
 clear hah
 have three : (aheadC c r f = true ∧ (f.col == c && (f.row == r && true)) = false) ∨ (aheadC c r f = false ∧ isC c r f = true ∧ f.col = c ∧ f.row = r) ∨ (aheadC c r f = false ∧ zA9 c r f = true ∧ (f.col == c && (f.row == r && true)) = false):=by
  simp only [aheadC,isC,zA9,decide_eq_true_eq,decide_eq_false_iff_not,Bool.and_true,Bool.and_eq_false_iff,beq_eq_false_iff_ne]
  omega
 generalize hps : ((t == ([] : Bs)) || zIR (l.take i) c r) = ps at *
 rcases zL4 hv1 with hx | hx
 ·rcases three with ⟨ta,tc⟩ | ⟨ta,ti,tc,tr⟩ | ⟨ta,tb,tc⟩
  ·have hno:=hab ta
   rw [ta] at qa hfa
   rw [hno,Bool.or_false] at hps
   have hpn : ps = ((t == ([] : Bs)) || zIR (l.take (i + 1)) c r):=by rw [qa,hno,hps]; simp
   have hoo : zD0 (l.take (i + 1)) c r t = zD0 (l.take i) c r t ++ [f]:=q1 ta hno
   cases ps with
   | true=>
    refine zCa hv1 <| zT (tT) <| zG <| zG <| zG ?_; refine hx _ i (zi f) _ rfl hfm ?_; refine zp (zx f.col f.row) rfl <| zB (zx c r) hb4 rfl <| zR rfl <| zT (show negB true (f.col == c && (f.row == r && true)) = true from by rw [tc]; rfl) ?_; refine hx _ i (zi f) _ rfl hfm ?_; refine zp (zi f) rfl <| zAL (vs':=[zi f]) rfl rfl ?_; refine zAs (H0:=H ++ [ABlk.box (zx c r).cells]) (ys:=[zi f]) (ho.push _) (hO.push _) zAW (by decide) (by simp only [List.length_map,List.length_append,List.length_cons,List.length_nil]; omega) (by simp) (fun v' H' ho' hO' _ _=>?_)
    have ho' : Owns (H ++ [ABlk.box (zx c r).cells]) H' v' 3 ((zD0 (l.take (i + 1)) c r t).map zi):=by rw [hoo,List.map_append]; exact ho'
    refine zL (r:=i + 1) rfl tO ?_; refine zAT (RwS.mk (i + 1) v') (by rw [← hpn] <;> rfl) ⟨hO',by simp only; omega,ho'⟩ (by simp only; omega)
   | false=>
    refine zCa hv1 <| zT (tT) <| zH ?_; refine hx _ i (zi f) _ rfl hfm ?_; refine zp (zx f.col f.row) rfl <| zB (zx c r) hb4 rfl <| zI (hfa _) <| zH <| zG ?_; refine hx _ i (zi f) _ rfl hfm ?_; refine zp (zx f.col f.row) rfl <| zB (zx c r) hb4 rfl <| zR rfl <| zT (show negB true (f.col == c && (f.row == r && true)) = true from by rw [tc]; rfl) ?_; refine hx _ i (zi f) _ rfl hfm ?_; refine zp (zi f) rfl <| zAL (vs':=[zi f]) rfl rfl ?_
    refine zAs (H0:=H ++ [ABlk.box (zx c r).cells]) (ys:=[zi f]) (ho.push _) (hO.push _) zAW (by decide) (by simp only [List.length_map,List.length_append,List.length_cons,List.length_nil]; omega) (by simp) (fun v' H' ho' hO' _ _=>?_)
    have ho' : Owns (H ++ [ABlk.box (zx c r).cells]) H' v' 3 ((zD0 (l.take (i + 1)) c r t).map zi):=by rw [hoo,List.map_append]; exact ho'
    refine zL (r:=i + 1) rfl tO ?_; refine zAT (RwS.mk (i + 1) v') (by rw [← hpn] <;> rfl) ⟨hO',by simp only; omega,ho'⟩ (by simp only; omega)
  ·rw [ta] at qa hfa
   have hpn : true = ((t == ([] : Bs)) || zIR (l.take (i + 1)) c r):=by rw [qa]; simp
   cases ps with
   | true=>
    have hoo : zD0 (l.take (i + 1)) c r t = zD0 (l.take i) c r t:=by
     cases ha : zIR (l.take i) c r with
     | true=>exact q3 ti ha
     | false=>
      rw [ha,Bool.or_false] at hps
      rw [q2 ti ha,beq_iff_eq.1 hps]
      simp
    refine zCa hv1 <| zT (tT) <| zG <| zG <| zG ?_; refine hx _ i (zi f) _ rfl hfm ?_; refine zp (zx f.col f.row) rfl <| zB (zx c r) hb4 rfl <| zR rfl <| zO (show negB true (f.col == c && (f.row == r && true)) = false from by rw [tE tc,tE tr]; rfl) <| zL (r:=i + 1) rfl tO ?_; refine zAT (RwS.mk (i + 1) v) (by rw [← hpn] <;> rfl) ⟨hO,by simp only; omega,by rw [hoo]; exact ho⟩ (by simp only; omega)
   | false=>
    rw [Bool.or_eq_false_iff] at hps
    have hne : t ≠ []:=fun h=>by rw [h] at hps; exact absurd hps.1 (by decide)
    have hoo : zD0 (l.take (i + 1)) c r t = zD0 (l.take i) c r t ++ [⟨c,r,t⟩]:=by rw [q2 ti hps.2,if_pos hne]
    refine zCa hv1 <| zT (tT) <| zH ?_; refine hx _ i (zi f) _ rfl hfm ?_; refine zp (zx f.col f.row) rfl <| zB (zx c r) hb4 rfl <| zI (hfa _) <| zH <| zH <| zB (zx c r) hb4 rfl ?_; refine zR (v:=[zK c,zK r,AV.str t]) rfl <| zAL (vs':=[AV.agg [zK c,zK r,AV.str t]]) rfl rfl ?_; refine zAs (H0:=H ++ [ABlk.box (zx c r).cells]) (ys:=[AV.agg [zK c,zK r,.str t]]) (ho.push _) (hO.push _) zAW (by decide) (by simp only [List.length_map,List.length_append,List.length_cons,List.length_nil]; omega) (by simp) (fun v' H' ho' hO' _ _=>?_)
    have ho' : Owns (H ++ [ABlk.box (zx c r).cells]) H' v' 3 ((zD0 (l.take (i + 1)) c r t).map zi):=by rw [hoo,List.map_append]; exact ho'
    have hv2:=zEB (((Old.refl H).push _).trans hO') hv
    have hb5 : H'[H.length]? = some (.box (zx c r).cells):=by rw [hO'.2 _ (by simp)]; exact zD
    rcases zL4 hv2 with hy | hy
    ·refine hy _ i (zi f) _ rfl hfm ?_; refine zp (zx f.col f.row) rfl <| zB (zx c r) hb5 rfl <| zR rfl <| zO (show negB true (f.col == c && (f.row == r && true)) = false from by rw [tE tc,tE tr]; rfl) <| zL (r:=i + 1) rfl tO ?_; refine zAT (RwS.mk (i + 1) v') (by rw [← hpn] <;> rfl) ⟨hO',by simp only; omega,ho'⟩ (by simp only; omega)
    ·refine hy _ i (zi f) _ rfl hfm (fun b2 j2 hp2=>?_)
     refine zAd (zx f.col f.row) (hp2 _) rfl <| zB (zx c r) hb5 rfl <| zR rfl <| zO (show negB true (f.col == c && (f.row == r && true)) = false from by rw [tE tc,tE tr]; rfl) <| zL (r:=i + 1) rfl tO ?_; refine zAT (RwS.mk (i + 1) v') (by rw [← hpn] <;> rfl) ⟨hO',by simp only; omega,ho'⟩ (by simp only; omega)
  ·rw [ta] at qa hfa
   have hpn : true = ((t == ([] : Bs)) || zIR (l.take (i + 1)) c r):=by rw [qa]; simp
   cases ps with
   | true=>
    have hoo : zD0 (l.take (i + 1)) c r t = zD0 (l.take i) c r t ++ [f]:=by
     cases ha : zIR (l.take i) c r with
     | true=>exact q5 tb ha
     | false=>
      rw [ha,Bool.or_false] at hps
      rw [q4 tb ha,beq_iff_eq.1 hps]
      simp
    refine zCa hv1 <| zT (tT) <| zG <| zG <| zG ?_; refine hx _ i (zi f) _ rfl hfm ?_; refine zp (zx f.col f.row) rfl <| zB (zx c r) hb4 rfl <| zR rfl <| zT (show negB true (f.col == c && (f.row == r && true)) = true from by rw [tc]; rfl) ?_; refine hx _ i (zi f) _ rfl hfm ?_; refine zp (zi f) rfl <| zAL (vs':=[zi f]) rfl rfl ?_; refine zAs (H0:=H ++ [ABlk.box (zx c r).cells]) (ys:=[zi f]) (ho.push _) (hO.push _) zAW (by decide) (by simp only [List.length_map,List.length_append,List.length_cons,List.length_nil]; omega) (by simp) (fun v' H' ho' hO' _ _=>?_)
    have ho' : Owns (H ++ [ABlk.box (zx c r).cells]) H' v' 3 ((zD0 (l.take (i + 1)) c r t).map zi):=by rw [hoo,List.map_append]; exact ho'
    refine zL (r:=i + 1) rfl tO ?_; refine zAT (RwS.mk (i + 1) v') (by rw [← hpn] <;> rfl) ⟨hO',by simp only; omega,ho'⟩ (by simp only; omega)
   | false=>
    rw [Bool.or_eq_false_iff] at hps
    have hne : t ≠ []:=fun h=>by rw [h] at hps; exact absurd hps.1 (by decide)
    have hoo : zD0 (l.take (i + 1)) c r t = zD0 (l.take i) c r t ++ [⟨c,r,t⟩] ++ [f]:=by rw [q4 tb hps.2,if_pos hne]
    refine zCa hv1 <| zT (tT) <| zH ?_; refine hx _ i (zi f) _ rfl hfm ?_; refine zp (zx f.col f.row) rfl <| zB (zx c r) hb4 rfl <| zI (hfa _) <| zH <| zH <| zB (zx c r) hb4 rfl ?_; refine zR (v:=[zK c,zK r,AV.str t]) rfl <| zAL (vs':=[AV.agg [zK c,zK r,AV.str t]]) rfl rfl ?_; refine zAs (H0:=H ++ [ABlk.box (zx c r).cells]) (ys:=[AV.agg [zK c,zK r,.str t]]) (ho.push _) (hO.push _) zAW (by decide) (by simp only [List.length_map,List.length_append,List.length_cons,List.length_nil]; omega) (by simp) (fun v' H' ho' hO' _ _=>?_)
    have hv2:=zEB (((Old.refl H).push _).trans hO') hv
    have hb5 : H'[H.length]? = some (.box (zx c r).cells):=by rw [hO'.2 _ (by simp)]; exact zD
    rcases zL4 hv2 with hy | hy
    ·refine hy _ i (zi f) _ rfl hfm ?_; refine zp (zx f.col f.row) rfl <| zB (zx c r) hb5 rfl <| zR rfl <| zT (show negB true (f.col == c && (f.row == r && true)) = true from by rw [tc]; rfl) ?_; refine hy _ i (zi f) _ rfl hfm ?_; refine zp (zi f) rfl <| zAL (vs':=[zi f]) rfl rfl ?_; refine zAs (H0:=H ++ [ABlk.box (zx c r).cells]) (ys:=[zi f]) (ho'.push _) (hO'.push _) zAW (by decide) (by simp only [List.length_map,List.length_append,List.length_cons,List.length_nil]; omega) (by simp) (fun v'' H'' ho'' hO'' _ _=>?_)
     have ho'' : Owns (H ++ [ABlk.box (zx c r).cells]) H'' v'' 3 ((zD0 (l.take (i + 1)) c r t).map zi):=by rw [hoo,List.map_append,List.map_append]; exact ho''
     refine zL (r:=i + 1) rfl tO ?_; refine zAT (RwS.mk (i + 1) v'') (by rw [← hpn] <;> rfl) ⟨hO'',by simp only; omega,ho''⟩ (by simp only; omega)
    ·refine hy _ i (zi f) _ rfl hfm (fun b2 j2 hp2=>?_)
     refine zAd (zx f.col f.row) (hp2 _) rfl <| zB (zx c r) hb5 rfl <| zR rfl <| zT (show negB true (f.col == c && (f.row == r && true)) = true from by rw [tc]; rfl) ?_; refine hy _ i (zi f) _ rfl hfm (fun b2 j2 hp2=>?_)
     refine zAd (zi f) (hp2 _) rfl <| zAL (vs':=[zi f]) rfl rfl ?_; refine zAs (H0:=H ++ [ABlk.box (zx c r).cells]) (ys:=[zi f]) (ho'.push _) (hO'.push _) zAW (by decide) (by simp only [List.length_map,List.length_append,List.length_cons,List.length_nil]; omega) (by simp) (fun v'' H'' ho'' hO'' _ _=>?_)
     have ho'' : Owns (H ++ [ABlk.box (zx c r).cells]) H'' v'' 3 ((zD0 (l.take (i + 1)) c r t).map zi):=by rw [hoo,List.map_append,List.map_append]; exact ho''
     refine zL (r:=i + 1) rfl tO ?_; refine zAT (RwS.mk (i + 1) v'') (by rw [← hpn] <;> rfl) ⟨hO'',by simp only; omega,ho''⟩ (by simp only; omega)
 ·rcases three with ⟨ta,tc⟩ | ⟨ta,ti,tc,tr⟩ | ⟨ta,tb,tc⟩
  ·have hno:=hab ta
   rw [ta] at qa hfa
   rw [hno,Bool.or_false] at hps
   have hpn : ps = ((t == ([] : Bs)) || zIR (l.take (i + 1)) c r):=by rw [qa,hno,hps]; simp
   have hoo : zD0 (l.take (i + 1)) c r t = zD0 (l.take i) c r t ++ [f]:=q1 ta hno
   cases ps with
   | true=>
    refine zCa hv1 <| zT (tT) <| zG <| zG <| zG ?_; refine hx _ i (zi f) _ rfl hfm (fun b2 j2 hp2=>?_)
    refine zAd (zx f.col f.row) (hp2 _) rfl <| zB (zx c r) hb4 rfl <| zR rfl <| zT (show negB true (f.col == c && (f.row == r && true)) = true from by rw [tc]; rfl) ?_; refine hx _ i (zi f) _ rfl hfm (fun b2 j2 hp2=>?_)
    refine zAd (zi f) (hp2 _) rfl <| zAL (vs':=[zi f]) rfl rfl ?_; refine zAs (H0:=H ++ [ABlk.box (zx c r).cells]) (ys:=[zi f]) (ho.push _) (hO.push _) zAW (by decide) (by simp only [List.length_map,List.length_append,List.length_cons,List.length_nil]; omega) (by simp) (fun v' H' ho' hO' _ _=>?_)
    have ho' : Owns (H ++ [ABlk.box (zx c r).cells]) H' v' 3 ((zD0 (l.take (i + 1)) c r t).map zi):=by rw [hoo,List.map_append]; exact ho'
    refine zL (r:=i + 1) rfl tO ?_; refine zAT (RwS.mk (i + 1) v') (by rw [← hpn] <;> rfl) ⟨hO',by simp only; omega,ho'⟩ (by simp only; omega)
   | false=>
    refine zCa hv1 <| zT (tT) <| zH ?_; refine hx _ i (zi f) _ rfl hfm (fun b2 j2 hp2=>?_)
    refine zAd (zx f.col f.row) (hp2 _) rfl <| zB (zx c r) hb4 rfl <| zI (hfa _) <| zH <| zG ?_; refine hx _ i (zi f) _ rfl hfm (fun b2 j2 hp2=>?_)
    refine zAd (zx f.col f.row) (hp2 _) rfl <| zB (zx c r) hb4 rfl <| zR rfl <| zT (show negB true (f.col == c && (f.row == r && true)) = true from by rw [tc]; rfl) ?_; refine hx _ i (zi f) _ rfl hfm (fun b2 j2 hp2=>?_)
    refine zAd (zi f) (hp2 _) rfl <| zAL (vs':=[zi f]) rfl rfl ?_; refine zAs (H0:=H ++ [ABlk.box (zx c r).cells]) (ys:=[zi f]) (ho.push _) (hO.push _) zAW (by decide) (by simp only [List.length_map,List.length_append,List.length_cons,List.length_nil]; omega) (by simp) (fun v' H' ho' hO' _ _=>?_)
    have ho' : Owns (H ++ [ABlk.box (zx c r).cells]) H' v' 3 ((zD0 (l.take (i + 1)) c r t).map zi):=by rw [hoo,List.map_append]; exact ho'
    refine zL (r:=i + 1) rfl tO ?_; refine zAT (RwS.mk (i + 1) v') (by rw [← hpn] <;> rfl) ⟨hO',by simp only; omega,ho'⟩ (by simp only; omega)
  ·rw [ta] at qa hfa
   have hpn : true = ((t == ([] : Bs)) || zIR (l.take (i + 1)) c r):=by rw [qa]; simp
   cases ps with
   | true=>
    have hoo : zD0 (l.take (i + 1)) c r t = zD0 (l.take i) c r t:=by
     cases ha : zIR (l.take i) c r with
     | true=>exact q3 ti ha
     | false=>
      rw [ha,Bool.or_false] at hps
      rw [q2 ti ha,beq_iff_eq.1 hps]
      simp
    refine zCa hv1 <| zT (tT) <| zG <| zG <| zG ?_; refine hx _ i (zi f) _ rfl hfm (fun b2 j2 hp2=>?_)
    refine zAd (zx f.col f.row) (hp2 _) rfl <| zB (zx c r) hb4 rfl <| zR rfl <| zO (show negB true (f.col == c && (f.row == r && true)) = false from by rw [tE tc,tE tr]; rfl) <| zL (r:=i + 1) rfl tO ?_; refine zAT (RwS.mk (i + 1) v) (by rw [← hpn] <;> rfl) ⟨hO,by simp only; omega,by rw [hoo]; exact ho⟩ (by simp only; omega)
   | false=>
    rw [Bool.or_eq_false_iff] at hps
    have hne : t ≠ []:=fun h=>by rw [h] at hps; exact absurd hps.1 (by decide)
    have hoo : zD0 (l.take (i + 1)) c r t = zD0 (l.take i) c r t ++ [⟨c,r,t⟩]:=by rw [q2 ti hps.2,if_pos hne]
    refine zCa hv1 <| zT (tT) <| zH ?_; refine hx _ i (zi f) _ rfl hfm (fun b2 j2 hp2=>?_)
    refine zAd (zx f.col f.row) (hp2 _) rfl <| zB (zx c r) hb4 rfl <| zI (hfa _) <| zH <| zH <| zB (zx c r) hb4 rfl ?_; refine zR (v:=[zK c,zK r,AV.str t]) rfl <| zAL (vs':=[AV.agg [zK c,zK r,AV.str t]]) rfl rfl ?_; refine zAs (H0:=H ++ [ABlk.box (zx c r).cells]) (ys:=[AV.agg [zK c,zK r,.str t]]) (ho.push _) (hO.push _) zAW (by decide) (by simp only [List.length_map,List.length_append,List.length_cons,List.length_nil]; omega) (by simp) (fun v' H' ho' hO' _ _=>?_)
    have ho' : Owns (H ++ [ABlk.box (zx c r).cells]) H' v' 3 ((zD0 (l.take (i + 1)) c r t).map zi):=by rw [hoo,List.map_append]; exact ho'
    have hv2:=zEB (((Old.refl H).push _).trans hO') hv
    have hb5 : H'[H.length]? = some (.box (zx c r).cells):=by rw [hO'.2 _ (by simp)]; exact zD
    rcases zL4 hv2 with hy | hy
    ·refine hy _ i (zi f) _ rfl hfm ?_; refine zp (zx f.col f.row) rfl <| zB (zx c r) hb5 rfl <| zR rfl <| zO (show negB true (f.col == c && (f.row == r && true)) = false from by rw [tE tc,tE tr]; rfl) <| zL (r:=i + 1) rfl tO ?_; refine zAT (RwS.mk (i + 1) v') (by rw [← hpn] <;> rfl) ⟨hO',by simp only; omega,ho'⟩ (by simp only; omega)
    ·refine hy _ i (zi f) _ rfl hfm (fun b2 j2 hp2=>?_)
     refine zAd (zx f.col f.row) (hp2 _) rfl <| zB (zx c r) hb5 rfl <| zR rfl <| zO (show negB true (f.col == c && (f.row == r && true)) = false from by rw [tE tc,tE tr]; rfl) <| zL (r:=i + 1) rfl tO ?_; refine zAT (RwS.mk (i + 1) v') (by rw [← hpn] <;> rfl) ⟨hO',by simp only; omega,ho'⟩ (by simp only; omega)
  ·rw [ta] at qa hfa
   have hpn : true = ((t == ([] : Bs)) || zIR (l.take (i + 1)) c r):=by rw [qa]; simp
   cases ps with
   | true=>
    have hoo : zD0 (l.take (i + 1)) c r t = zD0 (l.take i) c r t ++ [f]:=by
     cases ha : zIR (l.take i) c r with
     | true=>exact q5 tb ha
     | false=>
      rw [ha,Bool.or_false] at hps
      rw [q4 tb ha,beq_iff_eq.1 hps]
      simp
    refine zCa hv1 <| zT (tT) <| zG <| zG <| zG ?_; refine hx _ i (zi f) _ rfl hfm (fun b2 j2 hp2=>?_)
    refine zAd (zx f.col f.row) (hp2 _) rfl <| zB (zx c r) hb4 rfl <| zR rfl <| zT (show negB true (f.col == c && (f.row == r && true)) = true from by rw [tc]; rfl) ?_; refine hx _ i (zi f) _ rfl hfm (fun b2 j2 hp2=>?_)
    refine zAd (zi f) (hp2 _) rfl <| zAL (vs':=[zi f]) rfl rfl ?_; refine zAs (H0:=H ++ [ABlk.box (zx c r).cells]) (ys:=[zi f]) (ho.push _) (hO.push _) zAW (by decide) (by simp only [List.length_map,List.length_append,List.length_cons,List.length_nil]; omega) (by simp) (fun v' H' ho' hO' _ _=>?_)
    have ho' : Owns (H ++ [ABlk.box (zx c r).cells]) H' v' 3 ((zD0 (l.take (i + 1)) c r t).map zi):=by rw [hoo,List.map_append]; exact ho'
    refine zL (r:=i + 1) rfl tO ?_; refine zAT (RwS.mk (i + 1) v') (by rw [← hpn] <;> rfl) ⟨hO',by simp only; omega,ho'⟩ (by simp only; omega)
   | false=>
    rw [Bool.or_eq_false_iff] at hps
    have hne : t ≠ []:=fun h=>by rw [h] at hps; exact absurd hps.1 (by decide)
    have hoo : zD0 (l.take (i + 1)) c r t = zD0 (l.take i) c r t ++ [⟨c,r,t⟩] ++ [f]:=by rw [q4 tb hps.2,if_pos hne]
    refine zCa hv1 <| zT (tT) <| zH ?_; refine hx _ i (zi f) _ rfl hfm (fun b2 j2 hp2=>?_)
    refine zAd (zx f.col f.row) (hp2 _) rfl <| zB (zx c r) hb4 rfl <| zI (hfa _) <| zH <| zH <| zB (zx c r) hb4 rfl ?_; refine zR (v:=[zK c,zK r,AV.str t]) rfl <| zAL (vs':=[AV.agg [zK c,zK r,AV.str t]]) rfl rfl ?_; refine zAs (H0:=H ++ [ABlk.box (zx c r).cells]) (ys:=[AV.agg [zK c,zK r,.str t]]) (ho.push _) (hO.push _) zAW (by decide) (by simp only [List.length_map,List.length_append,List.length_cons,List.length_nil]; omega) (by simp) (fun v' H' ho' hO' _ _=>?_)
    have hv2:=zEB (((Old.refl H).push _).trans hO') hv
    have hb5 : H'[H.length]? = some (.box (zx c r).cells):=by rw [hO'.2 _ (by simp)]; exact zD
    rcases zL4 hv2 with hy | hy
    ·refine hy _ i (zi f) _ rfl hfm ?_; refine zp (zx f.col f.row) rfl <| zB (zx c r) hb5 rfl <| zR rfl <| zT (show negB true (f.col == c && (f.row == r && true)) = true from by rw [tc]; rfl) ?_; refine hy _ i (zi f) _ rfl hfm ?_; refine zp (zi f) rfl <| zAL (vs':=[zi f]) rfl rfl ?_; refine zAs (H0:=H ++ [ABlk.box (zx c r).cells]) (ys:=[zi f]) (ho'.push _) (hO'.push _) zAW (by decide) (by simp only [List.length_map,List.length_append,List.length_cons,List.length_nil]; omega) (by simp) (fun v'' H'' ho'' hO'' _ _=>?_)
     have ho'' : Owns (H ++ [ABlk.box (zx c r).cells]) H'' v'' 3 ((zD0 (l.take (i + 1)) c r t).map zi):=by rw [hoo,List.map_append,List.map_append]; exact ho''
     refine zL (r:=i + 1) rfl tO ?_; refine zAT (RwS.mk (i + 1) v'') (by rw [← hpn] <;> rfl) ⟨hO'',by simp only; omega,ho''⟩ (by simp only; omega)
    ·refine hy _ i (zi f) _ rfl hfm (fun b2 j2 hp2=>?_)
     refine zAd (zx f.col f.row) (hp2 _) rfl <| zB (zx c r) hb5 rfl <| zR rfl <| zT (show negB true (f.col == c && (f.row == r && true)) = true from by rw [tc]; rfl) ?_; refine hy _ i (zi f) _ rfl hfm (fun b2 j2 hp2=>?_)
     refine zAd (zi f) (hp2 _) rfl <| zAL (vs':=[zi f]) rfl rfl ?_; refine zAs (H0:=H ++ [ABlk.box (zx c r).cells]) (ys:=[zi f]) (ho'.push _) (hO'.push _) zAW (by decide) (by simp only [List.length_map,List.length_append,List.length_cons,List.length_nil]; omega) (by simp) (fun v'' H'' ho'' hO'' _ _=>?_)
     have ho'' : Owns (H ++ [ABlk.box (zx c r).cells]) H'' v'' 3 ((zD0 (l.take (i + 1)) c r t).map zi):=by rw [hoo,List.map_append,List.map_append]; exact ho''
     refine zL (r:=i + 1) rfl tO ?_; refine zAT (RwS.mk (i + 1) v'') (by rw [← hpn] <;> rfl) ⟨hO'',by simp only; omega,ho''⟩ (by simp only; omega)
end
end Go.AM
set_option maxRecDepth 20000
namespace Go.AM
section
variable {C : CSpec} {GT : Nat → Option AV}
def okB (f : Fil) : Prop:=(0 ≤ f.col ∧ f.col ≤ 255) ∧ (0 ≤ f.row ∧ f.row ≤ 255) ∧ f.text.length ≤ 255
theorem okB_of {f : Fil} (h : okF f) : okB f:=by
 obtain ⟨⟨_,_⟩,⟨_,_⟩,_⟩:=h
 exact ⟨⟨by omega,by omega⟩,⟨by omega,by omega⟩,by omega⟩
theorem mentry_ev (f : Fil) (hf : okB f) (H : Heap) : EFun C GT zG1 [zi f] H (bsV (zKE f)) H:=by
 obtain ⟨⟨hc1,hc2⟩,⟨hr1,hr2⟩,hl⟩:=hf
 obtain ⟨sn,hsn⟩ : ∃ sn,sumN 1 (zKs f) = sn:=⟨_,rfl⟩
 have hsl : sn < 65521:=by rw [← hsn]; exact sumN_lt _ _ (by decide)
 have hel : (zKs f).length = f.text.length + 3:=by simp [zKs]
 have hen : zKE f = zKs f ++ [u8N (sn % 256),u8N (sn / 256)]:=by rw [← hsn]; rfl
 refine zc ?_
 have e0 : [AV.int .u8 f.col,.int .u8 f.row,.int .u8 (f.text.length : Nat)] = [u8N f.col.toNat,u8N f.row.toNat,u8N f.text.length].map zP:=by
  simp only [List.map_cons,List.map_nil]
  rw [zFO _ tO,zFO _ tO,zFO _ tO]
  have h1 : ((f.col.toNat : Nat) : Int) = f.col:=by omega
  have h2 : ((f.row.toNat : Nat) : Int) = f.row:=by omega
  rw [h1,h2]
 refine zDM (x:=zi f) rfl <| zB (zK f.col) zD rfl <| sWu8 tO <| zB (zK f.row) zD rfl <| sWu8 tO <| zB (AV.str f.text) zD rfl ?_; refine sWu8 tO <| zAL (vs':=[AV.int IntKind.u8 f.col,AV.int IntKind.u8 f.row,AV.int IntKind.u8 ↑(List.length f.text)]) rfl rfl <| zB (AV.str f.text) (zC zD) rfl ?_; refine sAppStrF (H0:=H) (xs:=[u8N f.col.toNat,u8N f.row.toNat,u8N f.text.length].map zP) ⟨_,rfl,by simp,by rw [← e0]; exact zD,by simp⟩ (((Old.refl H).push _).push _) (by simp; omega) (fun v1 H1 ho1 hO1 _=>?_)
 rw [← List.map_append] at ho1
 have ho1 : OwnF H H1 v1 1 ((zKs f).map zP):=ho1
 have hv1:=ho1.view
 have hlm : ((zKs f).map zP).length = (zKs f).length:=List.length_map _
 generalize zKs f = l at *
 refine zBn (fun x : SumS=>[(5,zJ x.i),(3,v1),(4,zJ x.s)]) (fun x H'=>H' = H1 ∧ x.i ≤ l.length ∧ x.s < 65521 ∧ sumN x.s (l.drop x.i) = sn) (fun x=>l.length - x.i) ⟨0,1⟩ rfl ⟨rfl,by simp,by simp,hsn⟩ (fun ⟨i,s⟩ H2 ⟨hH,hi,hs,hq⟩=>?_)
 subst hH
 dsimp only at hi hs hq ⊢
 by_cases hlt : i < l.length
 ·obtain ⟨c,hc⟩ : ∃ c,l[i]? = some c:=⟨_,List.getElem?_eq_getElem hlt⟩
  have hcm : (l.map zP)[i]? = some (zP c):=by rw [List.getElem?_map,hc]; rfl
  have hc2:=c.toNat_lt
  rw [sumN_drop l i c hc] at hq
  refine zCa hv1 <| zT tT <| zL (r:=s * 257) tO tO ?_; refine zF4 i (zP c) hv1 rfl hcm (fun p hp=>?_)
  refine zAd (zP c) hp rfl <| zL (r:=c.toNat) tO tO <| zL (r:=s * 257 + c.toNat) tO tO <| zEK (by decide) <| zKl (r:=((s * 257 + c.toNat) % 65521 : Nat)) (Int.ofNat_tmod (s * 257 + c.toNat) 65521).symm <| zL (r:=i + 1) rfl tO ?_; refine zAT (SumS.mk (i + 1) ((s * 257 + c.toNat) % 65521)) rfl ⟨rfl,by simp only; omega,Nat.mod_lt _ (by decide),hq⟩ (by simp only; omega)
 ·have hd : l.drop i = []:=List.drop_eq_nil_of_le tO
  rw [hd] at hq
  have hq : s = sn:=hq
  subst hq
  have e1 : [AV.int .u8 (s % 256 : Nat),.int .u8 (s / 256 : Nat)] = [u8N (s % 256),u8N (s / 256)].map zP:=by
   simp only [List.map_cons,List.map_nil]
   rw [zFO _ tO,zFO _ tO]
  refine zCa hv1 <| zO tF <| zEK (by decide) <| zKl (r:=(s % 256 : Nat)) (Int.ofNat_tmod s 256).symm <| sWu8n (s % 256) tO <| zEK (by decide) ?_; refine zL (r:=s / 256) (Int.ofNat_tdiv s 256).symm tO <| sWu8n (s / 256) tO <| zAL (vs':=[AV.int IntKind.u8 ↑(s % 256),AV.int IntKind.u8 ↑(s / 256)]) rfl rfl ?_; refine sAppendF (H0:=H) (xs:=l.map zP) (ys:=[u8N (s % 256),u8N (s / 256)].map zP) (ho1.push _) (hO1.push _) (by rw [← e1]; exact zAW) (by decide) (by simp; omega) (fun v2 H2 ho2 hO2=>?_)
  rw [← List.map_append,← hen] at ho2
  obtain ⟨H3,hz,hO3⟩:=ho2.frz hO2
  exact zJX rfl rfl hz (lstF_bel _ _ _) hO3
theorem may_ev (hA : ∀ c r H,C zBe [zx c r] H (if okC c r = true then .nili else zGs 1) H) (hT : ∀ s H,C zBJ [.str s] H (eV (zDC s)) H) (f : Fil) (H : Heap) :
  EFun C GT zLW [zx f.col f.row,.str f.text] H (eV (if okC f.col f.row = true then zDC f.text else 1)) H:=by
 have ha:=hA f.col f.row
 have ht:=hT f.text
 clear hA hT
 refine zc ?_
 cases hk : okC f.col f.row with
 | true=>
  rw [hk] at ha
  rw [if_pos rfl]
  have ha : ∀ H,C zBe [zx f.col f.row] H .nili H:=ha
  generalize zDC f.text = n at *
  have hb : (eV n).bel H.length = true:=by unfold eV; split <;> rfl
  have hz : ∀ H1 : Heap,zDd H.length (eV n) H1 = some (eV n,H1):=fun H1=>by unfold eV; split <;> rfl
  refine zDM (x:=zx f.col f.row) rfl <| zB (zx f.col f.row) zD rfl <| zI (ha _) <| zR rfl <| zG <| zI (ht _) ?_
  exact zBC rfl rfl (hz _) hb ((Old.refl H).push _)
 | false=>
  rw [hk] at ha
  have ha : ∀ H,C zBe [zx f.col f.row] H (zGs 1) H:=ha
  clear ht
  refine zDM (x:=zx f.col f.row) rfl <| zB (zx f.col f.row) zD rfl <| zI (ha _) <| zR rfl <| zH ?_
  exact zBC rfl rfl rfl rfl ((Old.refl _).push _)
theorem sbytes_ev (v w : AV) (l : List UInt8) (H : Heap) (hv : view H 1 v = some (l.map zP)) (hw : view H 1 w = some (l.map zP)) (hl : l.length ≤ 1000000) : EFun C GT zG2 [v,w] H (.bool true) H:=by
 have hlm : (l.map zP).length = l.length:=List.length_map _
 refine zc ?_; refine zCa hv <| zCa hw <| zO (bne_eq_false_iff_eq.2 rfl) ?_; refine zBn (fun i : Nat=>[(5,zJ i),(1,w),(0,v)]) (fun i H'=>H' = H ∧ i ≤ l.length) (fun i=>l.length - i) 0 rfl ⟨rfl,by omega⟩ (fun i H1 ⟨hH,hi⟩=>?_)
 subst hH
 dsimp only
 by_cases hlt : i < l.length
 ·obtain ⟨c,hc⟩ : ∃ c,l[i]? = some c:=⟨_,List.getElem?_eq_getElem hlt⟩
  have hcm : (l.map zP)[i]? = some (zP c):=by rw [List.getElem?_map,hc]; rfl
  refine zCa hv <| zT tT ?_; refine zF4 i (zP c) hv rfl hcm (fun p hp=>?_)
  refine zAd (zP c) hp rfl ?_; refine zF4 i (zP c) hw rfl hcm (fun p2 hp2=>?_)
  refine zAd (zP c) hp2 rfl <| zO (bne_eq_false_iff_eq.2 rfl) <| zL (r:=i + 1) rfl tO ?_; refine zAT (i + 1) rfl ⟨rfl,by omega⟩ tO
 ·refine zCa hv <| zO tF ?_
  exact sRr
theorem frz_pair {n : Nat} {v v' y : AV} {H H' : Heap} (h : zDd n v H = some (v',H')) (hy : ∀ H,zDd n y H = some (y,H)) : zDd n (.tup [v,y]) H = some (.tup [v',y],H'):=by
 simp only [zDd,zJM,h,hy]
def wriV (l : List Fil) : AV:=if zEe l = 0 then bsV (zBY l) else .lst (some true) 0 []
theorem write_ev (hG : ∀ lv l H,view H 3 lv = some (l.map zi) → C zDO [lv] H (eV (zEe l)) H) (hE : ∀ f,okF f → ∀ H,C zEu [zi f] H (bsV (zKE f)) H) (lv : AV) (l : List Fil) (H : Heap) (hv : view H 3 lv = some (l.map zi)) :
  EFun C GT zJ5 [lv] H (.tup [wriV l,eV (zEe l)]) H:=by
 have hlm : (l.map zi).length = l.length:=List.length_map _
 have hg:=hG lv l H hv
 clear hG
 refine zc ?_
 unfold wriV
 by_cases h0 : zEe l = 0
 ·obtain ⟨hl,hok⟩:=checkN_ok h0
  rw [if_pos h0]
  rw [h0] at hg ⊢
  have hg : C zDO [lv] H .nili H:=hg
  have hle:=zKt l hok
  refine zI hg <| zR rfl <| zG <| zCa hv ?_; refine zBn (fun x : Nat × AV=>[(15,zJ x.1),(5,x.2),(13,lv),(14,.int .i64 ((l.map zi).length : Nat))]) (fun x H'=>Old H H' ∧ view H' 3 lv = some (l.map zi) ∧ x.1 ≤ l.length ∧ Owns H H' x.2 1 ((zBY (l.take x.1)).map zP)) (fun x=>l.length - x.1) (0,.lst (some true) 0 []) rfl ⟨Old.refl _,hv,by simp,.inl ⟨rfl,rfl⟩⟩ (fun ⟨i,v⟩ H1 ⟨hO,hv1,hi,ho⟩=>?_)
  dsimp only at hi ho ⊢
  by_cases hlt : i < l.length
  ·obtain ⟨f,hf⟩ : ∃ f,l[i]? = some f:=⟨_,List.getElem?_eq_getElem hlt⟩
   have hfm : (l.map zi)[i]? = some (zi f):=by rw [List.getElem?_map,hf]; rfl
   have hfo:=hok f (List.mem_of_getElem? hf)
   have he:=hE f hfo
   have hlt2:=zKt (l.take (i + 1)) fun g hg=>hok g (List.mem_of_mem_take hg)
   have hll : (l.take (i + 1)).length ≤ 200:=by rw [List.length_take]; omega
   have hvo : view ((H1 ++ [ABlk.box [.int .i64 0,.int .i64 0,AV.str []]]).set (List.length H1) (ABlk.box (zi f).cells)) 3 lv = some (l.map zi):=zEB (((Old.refl H1).push _).set (Nat.le_refl _) _) hv1
   rw [zHW l i f hf,List.length_append] at hlt2
   refine zT tT ?_; refine zF4 i (zi f) hv1 rfl hfm (fun p hp=>?_)
   refine zAd (zi f) hp rfl <| zF (v:=zi f) (AV.cells (zi f)) zD rfl rfl rfl rfl <| zB (zi f) (zE zD) rfl <| zI (he _) ?_; refine zAs (H0:=H) (ys:=(zKE f).map zP) (ho.pushSet _ _) (hO.pushSet _ _) (bsV_view (zKE f) _) (by decide) (by simp only [List.length_map]; omega) (by simp [zKE,zKs]) (fun v' H' ho' hO' _ hfr=>?_)
   refine zL (r:=i + 1) rfl tO ?_; refine zAT (i + 1,v') rfl ⟨hO', ?_,by simp only; omega, ?_⟩ (by simp only; omega)
   ·exact zEB hO' hv
   ·rw [← List.map_append,← zHW l i f hf] at ho'
    exact ho'
  ·have he : l.take i = l:=List.take_of_length_le tO
   rw [he] at ho
   refine zO tF ?_
   obtain ⟨H3,hz,hO3,_⟩:=ho.frz hO
   exact zJX rfl rfl (frz_pair hz fun _=>rfl) (by show (AV.tup [zIN 1 _,.nili]).bel _ = true; generalize (zBY l).map zP = xs; cases xs <;> rfl) hO3
 ·rw [if_neg h0]
  have he : eV (zEe l) = zGs (zEe l : Nat):=by unfold eV; rw [if_neg h0]
  rw [he] at hg ⊢
  clear hE
  refine zI hg <| zR rfl <| zH ?_
  exact sRr
end
end Go.AM
namespace Go.AM
def bAt (b : Bs) (i : Nat) : UInt8:=b.getD i 0
theorem bAt_get {b : Bs} {i : Nat} (h : i < b.length) : b[i]? = some (bAt b i):=by
 rw [List.getElem?_eq_getElem h]
 simp [bAt,List.getD,List.getElem?_eq_getElem h]
theorem zFP {b : Bs} {i : Nat} (h : i < b.length) : (b.map zP)[i]? = some (zP (bAt b i)):=by rw [List.getElem?_map,bAt_get h]; rfl
def zo (b : Bs) (a : Nat) : Nat:=(bAt b (a + 2)).toNat
theorem lenAt_lt (b : Bs) (a : Nat) : zo b a < 256:=UInt8.toNat_lt _
def zk (b : Bs) (a : Nat) : Fil:=⟨((bAt b a).toNat : Int),((bAt b (a + 1)).toNat : Int),(b.take (a + 3 + zo b a)).drop (a + 3)⟩
def zHz (b : Bs) (a : Nat) : Bs:=(b.take (a + 3 + zo b a)).drop a
def zDJ (b : Bs) (a : Nat) : Nat:=sumN 1 (zHz b a)
theorem sumAt_lt (b : Bs) (a : Nat) : zDJ b a < 65521:=sumN_lt _ _ (by decide)
def stepS (b : Bs) (a : Nat) (l : List Fil) : Bool:=decide (a + 5 ≤ b.length ∧ a + 5 + zo b a ≤ b.length ∧ bAt b (a + 3 + zo b a) = u8N (zDJ b a % 256) ∧ bAt b (a + 4 + zo b a) = u8N (zDJ b a / 256) ∧ mayN (zk b a) = 0 ∧ (zCD l (zk b a).col (zk b a).row (zk b a).text).length ≤ 200)
def zHm (b : Bs) : Nat → Nat → List Fil → Bool → List Fil × Nat × Bool
 | 0,a,l,q=>(l,a,q)
 | k + 1,a,l,q=>if stepS b a l = true then zHm b k (a + 5 + zo b a) (zCD l (zk b a).col (zk b a).row (zk b a).text) (q && decide ((zk b a).text = [])) else (l,a,q)
def zCi (b : Bs) : List Fil × Nat × Bool:=zHm b b.length 0 [] true
theorem openG_no {b : Bs} {a : Nat} {l : List Fil} (h : stepS b a l = false) (q : Bool) (k : Nat) : zHm b k a l q = (l,a,q):=by
 cases k with
 | zero=>rfl
 | succ k=>rw [zHm,if_neg (by rw [h]; decide)]
theorem openG_go {b : Bs} {a : Nat} {l : List Fil} (h : stepS b a l = true) {q : Bool} {R : List Fil × Nat × Bool} (hk : ∃ k,b.length - a ≤ k ∧ zHm b k a l q = R) :
  ∃ k,b.length - (a + 5 + zo b a) ≤ k ∧ zHm b k (a + 5 + zo b a) (zCD l (zk b a).col (zk b a).row (zk b a).text) (q && decide ((zk b a).text = [])) = R:=by
 obtain ⟨k,h1,h2⟩:=hk
 have h':=h
 simp only [stepS,decide_eq_true_eq] at h'
 match k,h1,h2 with
 | 0,h1,_=>omega
 | k + 1,h1,h2=>
  rw [zHm,if_pos h] at h2
  exact ⟨k,by omega,h2⟩
theorem withS_nil (c r : Int) : zCD [] c r [] = []:=by simp [zCD]
def opV (q : Bool) (l : List Fil) : AV:=.lst (some q) (if q = true then 0 else 3) (l.map zi)
theorem withV_op (q : Bool) (l : List Fil) (hq : q = true → l = []) (c r : Int) (t : Bs) : (if q = true ∧ t = [] then AV.lst (some true) 0 [] else .lst (some false) 3 ((zCD l c r t).map zi)) = opV (q && decide (t = [])) (zCD l c r t):=by
 by_cases h : q = true ∧ t = []
 ·obtain ⟨rfl,rfl⟩:=h
  rw [hq rfl,withS_nil]
  rfl
 ·rw [if_neg h]
  have : (q && decide (t = [])) = false:=by
   cases q
   ·rfl
   ·simp only [true_and] at h
    simp [h]
  rw [this]
  rfl
theorem with_q {q : Bool} {l : List Fil} (hq : q = true → l = []) (c r : Int) (t : Bs) : (q && decide (t = [])) = true → zCD l c r t = []:=by
 intro h
 simp only [Bool.and_eq_true,decide_eq_true_eq] at h
 rw [hq h.1,h.2,withS_nil]
theorem zKu (q : Bool) (l : List Fil) (hq : q = true → l = []) (H : Heap) : view H 3 (opV q l) = some (l.map zi):=by
 cases q with
 | true=>rw [hq rfl]; simp [opV,view]
 | false=>simp [opV,view]
theorem entH_at {b : Bs} {a : Nat} (h : a + 3 + zo b a ≤ b.length) : zKs (zk b a) = zHz b a:=by
 have hl : (b.take (a + 3 + zo b a)).length = a + 3 + zo b a:=by rw [List.length_take]; omega
 have hg : ∀ i (hi : i < (b.take (a + 3 + zo b a)).length),(b.take (a + 3 + zo b a))[i] = bAt b i:=fun i hi=>by
  rw [List.getElem_take]
  have:=bAt_get (b:=b) (i:=i) tO
  rw [List.getElem?_eq_getElem tO] at this
  exact Option.some.inj this
 have e3 : (b.take (a + 3 + zo b a)).drop a = bAt b a :: bAt b (a + 1) :: bAt b (a + 2) :: (b.take (a + 3 + zo b a)).drop (a + 3):=by
  rw [List.drop_eq_getElem_cons tO,List.drop_eq_getElem_cons tO,List.drop_eq_getElem_cons tO,hg,hg,hg]
 have e4 : ((b.take (a + 3 + zo b a)).drop (a + 3)).length = zo b a:=by rw [List.length_drop]; omega
 unfold zKs zHz zk
 rw [e3]
 simp only [e4]
 simp [u8N,zo]
theorem okB_at (b : Bs) (a : Nat) : okB (zk b a):=by
 have h1:=UInt8.toNat_lt (bAt b a)
 have h2:=UInt8.toNat_lt (bAt b (a + 1))
 have h3:=lenAt_lt b a
 refine ⟨⟨?_, ?_⟩,⟨?_, ?_⟩, ?_⟩ <;> simp only [zk,List.length_drop,List.length_take] <;> omega
theorem headAt_len (b : Bs) (a : Nat) : (zHz b a).length ≤ 3 + zo b a:=by unfold zHz; rw [List.length_drop,List.length_take]; omega
end Go.AM
set_option maxRecDepth 20000
namespace Go.AM
theorem zIL {q : Option Bool} {k : Nat} {b : Bs} (hk : k = 1 ∨ b = []) {lo hi : Nat} (h1 : lo ≤ hi) (h2 : hi ≤ b.length) :
  zA1 (some 1) (.lst q k (b.map zP)) (some (zJ lo)) (some (zJ hi)) = some (.lst (zJL q lo hi) k (((b.take hi).drop lo).map zP)):=by
 have hc : k = 1 ∨ (b.map zP).isEmpty = true:=by
  rcases hk with h | h
  ·exact .inl h
  ·exact .inr (by rw [h]; rfl)
 have hb : zC4 (b.map zP).length (some (zJ lo)) (some (zJ hi)) = some (lo,hi):=by
  simp [zC4,aHi,aLo,zJ,h1,h2]
 simp only [zA1]
 rw [if_pos hc,hb]
 simp [List.map_drop,List.map_take]
theorem bytes_view {q : Option Bool} {k : Nat} {b : Bs} (hk : k = 1 ∨ b = []) (H : Heap) : view H 1 (.lst q k (b.map zP)) = some (b.map zP):=by
 rcases hk with rfl | rfl
 ·simp [view]
 ·simp [view]
theorem cut_k {k : Nat} {b : Bs} (hk : k = 1 ∨ b = []) (lo hi : Nat) : k = 1 ∨ (b.take hi).drop lo = []:=by
 rcases hk with h | h
 ·exact .inl h
 ·exact .inr (by rw [h]; simp)
theorem u8_nat {x : UInt8} {n : Nat} (h : n < 256) : x = u8N n ↔ x.toNat = n:=by
 constructor
 ·rintro rfl
  simp [u8N,Nat.mod_eq_of_lt h]
 ·intro h2
  rw [← h2]
  simp [u8N]
theorem zFw {q : Option Bool} {k : Nat} {b : Bs} {K : Int → Prop} (h : K (b.length : Int)) : lenP (.lst q k (b.map zP)) K:=zLK (by rw [List.length_map]; exact h)
theorem zEf {q : Option Bool} {k : Nat} {u : Bs} {H : Heap} {K : AV → Heap → Prop} (hk : k = 1 ∨ u = []) (h : K (.str u) H) : actP .bytesToStr [.lst q k (u.map zP)] H K:=sAct (by simp only [astep,bytes_view hk,zH8,Option.map_some]) h
theorem bne_no {m n : Nat} (h : m = n) : ((m : Int) != (n : Int)) = false:=by rw [h]; simp
theorem bne_yes {m n : Nat} (h : ¬ m = n) : ((m : Int) != (n : Int)) = true:=bne_iff_ne.2 tO
section
variable {C : CSpec} {GT : Nat → Option AV}
set_option maxHeartbeats 4000000 in
theorem bopen_ev (hS : ∀ v l H,view H 1 v = some (l.map zP) → l.length ≤ 1000 → C zDj [v] H (.int .u16 (sumN 1 l : Nat)) H) (hM : ∀ (f : Fil) H,C zDk [zx f.col f.row,.str f.text] H (eV (mayN f)) H)
  (hW : ∀ q l c r t H,(q = true → l = []) → l.length ≤ 1000 → Srtd l → C zEt [opV q l,zx c r,.str t] H (opV (q && decide (t = [])) (zCD l c r t)) H)
  (q0 : Option Bool) (k0 : Nat) (b : Bs) (hk : k0 = 1 ∨ b = []) (hbl : b.length ≤ 140737488355328) (H : Heap) :
  EFun C GT zLQ [.lst q0 k0 (b.map zP)] H (.tup [opV (zCi b).2.2 (zCi b).1,zJ (zCi b).2.1]) H:=by
 obtain ⟨R,hR⟩ : ∃ R,zCi b = R:=⟨_,rfl⟩
 have hlm : (b.map zP).length = b.length:=List.length_map _
 have hv : zFX (.lst q0 k0 (b.map zP)) 1 (b.map zP):=⟨q0,k0,rfl,hk.elim .inl fun h=>.inr (by rw [h]; rfl)⟩
 rw [hR]
 refine zc ?_; refine zBn (fun x : List Fil × Nat × Bool=>[(5,zJ x.2.1),(4,opV x.2.2 x.1),(0,.lst q0 k0 (b.map zP))]) (fun x H'=>Old H H' ∧ (x.2.2 = true → x.1 = []) ∧ Srtd x.1 ∧ x.1.length ≤ 200 ∧ x.2.1 ≤ b.length ∧ ∃ k,b.length - x.2.1 ≤ k ∧ zHm b k x.2.1 x.1 x.2.2 = R) (fun x=>b.length - x.2.1) ([],0,true) rfl ⟨Old.refl H,fun _=>rfl,Srtd.nil,by simp,by simp,_,Nat.le_refl _,hR⟩ (fun x H1 hi=>?_)
 obtain ⟨l,a,q⟩:=x
 dsimp only at hi ⊢
 obtain ⟨hO,hq,hs,hl,ha,hk2⟩:=hi
 have hn:=lenAt_lt b a
 have u0:=UInt8.toNat_lt (bAt b a)
 have u1:=UInt8.toNat_lt (bAt b (a + 1))
 have hsl:=sumAt_lt b a
 have hsum:=hS (.lst (zJL q0 a (a + 3 + zo b a)) k0 ((zHz b a).map zP)) (zHz b a)
 have hsum:=fun H=>hsum H (bytes_view (cut_k hk _ _) H) (Nat.le_trans (headAt_len b a) tO)
 have hsum : ∀ H,C zDj [.lst (zJL q0 a (a + 3 + zo b a)) k0 (((b.take (a + 3 + zo b a)).drop a).map zP)] H (.int .u16 (zDJ b a : Nat)) H:=hsum
 have hmay:=hM (zk b a)
 have hwith:=hW q l (zk b a).col (zk b a).row (zk b a).text
 clear hS hM hW
 have hno : stepS b a l = false → AV.tup [opV R.2.2 R.1,zJ R.2.1] = .tup [opV q l,zJ a]:=fun h=>by
  obtain ⟨k,_,h2⟩:=hk2
  rw [openG_no h] at h2
  rw [← h2]
 have hmay0 : mayN (zk b a) = 0 → ∀ H,C zDk [zx (zk b a).col (zk b a).row,.str (zk b a).text] H .nili H:=fun c5 H=>by
  have:=hmay H
  rwa [c5] at this
 have hmay1 : ¬ mayN (zk b a) = 0 → ∀ H,C zDk [zx (zk b a).col (zk b a).row,.str (zk b a).text] H (zGs (mayN (zk b a) : Nat)) H:=fun c5 H=>by
  have:=hmay H
  rwa [show eV (mayN (zk b a)) = zGs (mayN (zk b a) : Nat) from by unfold eV; rw [if_neg c5]] at this
 clear hmay
 have hw:=fun H=>hwith H hq tO hs
 clear hwith
 have hs2:=zJu hs (zk b a).col (zk b a).row (zk b a).text
 have hq2:=with_q hq (zk b a).col (zk b a).row (zk b a).text
 have hgo:=fun (c1 : a + 5 ≤ b.length) (c2 : a + 5 + zo b a ≤ b.length) (c3 : bAt b (a + 3 + zo b a) = u8N (zDJ b a % 256)) (c4 : bAt b (a + 4 + zo b a) = u8N (zDJ b a / 256)) (c5 : mayN (zk b a) = 0) (c6 : (zCD l (zk b a).col (zk b a).row (zk b a).text).length ≤ 200)=>openG_go (b:=b) (a:=a) (l:=l) (q:=q) (R:=R) (decide_eq_true ⟨c1,c2,c3,c4,c5,c6⟩) hk2
 have hno6:=fun (c6 : ¬ (zCD l (zk b a).col (zk b a).row (zk b a).text).length ≤ 200)=>hno (decide_eq_false fun h=>c6 h.2.2.2.2.2)
 obtain ⟨q',hq'⟩ : ∃ q',(q && decide ((zk b a).text = [])) = q':=⟨_,rfl⟩
 obtain ⟨l',hl'⟩ : ∃ l',zCD l (zk b a).col (zk b a).row (zk b a).text = l':=⟨_,rfl⟩
 rw [hq',hl'] at hw hgo
 rw [hl'] at hs2 hno6 hq2
 rw [hq'] at hq2
 clear hq' hl'
 have hlm' : (l'.map zi).length = l'.length:=List.length_map _
 have hS1 : ∀ n,n = zo b a → a + 3 + n ≤ b.length → zA1 (some 1) (.lst q0 k0 (b.map zP)) (some (zJ a)) (some (zJ (a + 3 + n))) = some (.lst (zJL q0 a (a + 3 + n)) k0 (((b.take (a + 3 + n)).drop a).map zP)):=fun n _ h=>zIL hk tO h
 have hS2 : ∀ n,n = zo b a → a + 3 + n ≤ b.length → zA1 (some 1) (.lst q0 k0 (b.map zP)) (some (zJ (a + 3))) (some (zJ (a + 3 + n))) = some (.lst (zJL q0 (a + 3) (a + 3 + n)) k0 (((b.take (a + 3 + n)).drop (a + 3)).map zP)):=fun n _ h=>zIL hk tO h
 by_cases c1 : a + 5 ≤ b.length
 ·have g0:=zFP (b:=b) (i:=a) tO
  have g1:=zFP (b:=b) (i:=a + 1) tO
  have g2:=zFP (b:=b) (i:=a + 2) tO
  by_cases c2 : a + 5 + zo b a ≤ b.length
  ·have g3:=zFP (b:=b) (i:=a + 3 + zo b a) tO
   have g4:=zFP (b:=b) (i:=a + 4 + zo b a) tO
   have hS1:=hS1 _ rfl tO
   have hS2:=hS2 _ rfl tO
   refine zFw <| zL (r:=b.length - a) tO tO <| zT tT <| zL (r:=a + 3) rfl tO <| zL (r:=a + 2) rfl tO <| zA4 (a + 2) _ hv rfl g2 ?_; refine zp (zP (bAt b (a + 2))) rfl <| zL (r:=zo b a) rfl tO <| zL (r:=a + 3 + zo b a) rfl tO <| zL (r:=a + 3 + zo b a + 2) rfl tO <| zFw <| zO tF ?_; refine zR hS1 <| zI (hsum _) <| zA4 a _ hv rfl g0 <| zp (zP (bAt b a)) rfl <| zL (r:=(bAt b a).toNat) rfl tO <| zL (r:=a + 1) rfl tO ?_
   refine zA4 (a + 1) _ hv rfl g1 <| zp (zP (bAt b (a + 1))) rfl <| zL (r:=(bAt b (a + 1)).toNat) rfl tO <| zR (v:=[.int .i64 ↑(bAt b a).toNat,.int .i64 ↑(bAt b (a + 1)).toNat]) rfl <| zL (r:=a + 3) rfl tO <| zR hS2 ?_; refine zEf (cut_k hk _ _) <| zR (v:=[.int .i64 ↑(bAt b a).toNat,.int .i64 ↑(bAt b (a + 1)).toNat,AV.str (List.drop (a + 3) (List.take (a + 3 + zo b a) b))]) rfl <| zF (v:=zi (zk b a)) (AV.cells (zi (zk b a))) zD rfl rfl rfl rfl <| zA4 (a + 3 + zo b a) _ hv rfl g3 <| zp (zP (bAt b (a + 3 + zo b a))) rfl <| sWu8n (zDJ b a % 256) tO ?_
   by_cases c3 : bAt b (a + 3 + zo b a) = u8N (zDJ b a % 256)
   ·have e3:=bne_no ((u8_nat tO).1 c3)
    refine zO e3 <| zL (r:=a + 4 + zo b a) tO tO <| zA4 (a + 4 + zo b a) _ hv tO g4 <| zp (zP (bAt b (a + 4 + zo b a))) rfl <| zR rfl <| sWu8n (zDJ b a / 256) (shr8 (zDJ b a) tO) ?_; refine zG ?_
    by_cases c4 : bAt b (a + 4 + zo b a) = u8N (zDJ b a / 256)
    ·have e4:=bne_no ((u8_nat tO).1 c4)
     by_cases c5 : mayN (zk b a) = 0
     ·have hmay:=hmay0 c5
      clear hmay1 hmay0 hno
      by_cases c6 : l'.length ≤ 200
      ·have hgo:=hgo c1 c2 c3 c4 c5 c6
       clear hno6
       refine zO e4 <| zB (zx (zk b a).col (zk b a).row) (zE zD) rfl <| zB (AV.str (zk b a).text) (zE zD) rfl <| zI (hmay _) <| zR rfl <| zG ?_; refine zG <| zB (zx (zk b a).col (zk b a).row) (zE zD) rfl <| zB (AV.str (zk b a).text) (zE zD) rfl <| zI (hw _) <| zCa (zKu _ _ hq2 H1) <| zO tF ?_; refine zL (r:=a + 5 + zo b a) tO tO ?_; refine zAT (l',a + 5 + zo b a,q') rfl ⟨(hO.push _).set hO.1 _,hq2,hs2,c6,c2,hgo⟩ (by simp only; omega)
      ·clear hgo
       refine zO e4 <| zB (zx (zk b a).col (zk b a).row) (zE zD) rfl <| zB (AV.str (zk b a).text) (zE zD) rfl <| zI (hmay _) <| zR rfl <| zG ?_; refine zG <| zB (zx (zk b a).col (zk b a).row) (zE zD) rfl <| zB (AV.str (zk b a).text) (zE zD) rfl <| zI (hw _) <| zCa (zKu _ _ hq2 H1) <| zT tT ?_
       exact zEM (hno6 c6) rfl rfl rfl rfl ((hO.push _).set hO.1 _)
     ·have hmay:=hmay1 c5
      clear hmay1 hmay0 hw
      refine zO e4 <| zB (zx (zk b a).col (zk b a).row) (zE zD) rfl <| zB (AV.str (zk b a).text) (zE zD) rfl <| zI (hmay _) <| zR rfl <| zG ?_; refine zH ?_
      exact zEM (hno (decide_eq_false fun h=>c5 h.2.2.2.2.1)) rfl rfl rfl rfl ((hO.push _).set hO.1 _)
    ·have e4:=bne_yes fun h=>c4 ((u8_nat tO).2 h)
     refine zT e4 <| zH <| zH ?_
     exact zEM (hno (decide_eq_false fun h=>c4 h.2.2.2.1)) rfl rfl rfl rfl ((hO.push _).set hO.1 _)
   ·have e3:=bne_yes fun h=>c3 ((u8_nat tO).2 h)
    refine zT e3 <| zH <| zH <| zH <| zH ?_
    exact zEM (hno (decide_eq_false fun h=>c3 h.2.2.1)) rfl rfl rfl rfl ((hO.push _).set hO.1 _)
  ·refine zFw <| zL (r:=b.length - a) tO tO <| zT tT <| zL (r:=a + 3) rfl tO <| zL (r:=a + 2) rfl tO <| zA4 (a + 2) _ hv rfl g2 ?_; refine zp (zP (bAt b (a + 2))) rfl <| zL (r:=zo b a) rfl tO <| zL (r:=a + 3 + zo b a) rfl tO <| zL (r:=a + 3 + zo b a + 2) rfl tO <| zFw <| zT tT ?_
   exact zEM (hno (decide_eq_false fun h=>c2 h.2.1)) rfl rfl rfl rfl hO
 ·refine zFw <| zL (r:=b.length - a) tO tO <| zO tF ?_
  exact zEM (hno (decide_eq_false fun h=>c1 h.1)) rfl rfl rfl rfl hO
end
end Go.AM
set_option maxRecDepth 20000
namespace Go.AM
section
variable {C : CSpec} {GT : Nat → Option AV}
set_option maxHeartbeats 4000000 in
theorem mopen_ev (hE : ∀ f,okB f → ∀ H,C zBy [zi f] H (bsV (zKE f)) H) (hI : ∀ c r H,C zDD [zx c r] H (.bool (okC c r)) H) (hT : ∀ s H,C zBo [.str s] H (zJ (zDC s)) H)
  (hW : ∀ (l : List Fil) c r t H,l.length ≤ 1000 → Srtd l → C zDo [zIN 3 (l.map zi),zx c r,.str t] H (zIN 3 ((zCD l c r t).map zi)) H)
  (q0 : Option Bool) (k0 : Nat) (b : Bs) (hk : k0 = 1 ∨ b = []) (hbl : b.length ≤ 140737488355328) (H : Heap) :
  EFun C GT zHs [.lst q0 k0 (b.map zP)] H (.tup [zIN 3 ((zCi b).1.map zi),zJ (zCi b).2.1]) H:=by
 obtain ⟨R,hR⟩ : ∃ R,zCi b = R:=⟨_,rfl⟩
 have hlm : (b.map zP).length = b.length:=List.length_map _
 have hv : zFX (.lst q0 k0 (b.map zP)) 1 (b.map zP):=⟨q0,k0,rfl,hk.elim .inl fun h=>.inr (by rw [h]; rfl)⟩
 rw [hR]
 refine zc ?_; refine zBn (fun x : List Fil × Nat × Bool=>[(5,zJ x.2.1),(4,zIN 3 (x.1.map zi)),(0,.lst q0 k0 (b.map zP))]) (fun x H'=>Old H H' ∧ Srtd x.1 ∧ x.1.length ≤ 200 ∧ x.2.1 ≤ b.length ∧ ∃ k,b.length - x.2.1 ≤ k ∧ zHm b k x.2.1 x.1 x.2.2 = R) (fun x=>b.length - x.2.1) ([],0,true) rfl ⟨Old.refl H,Srtd.nil,by simp,by simp,_,Nat.le_refl _,hR⟩ (fun x H1 hi=>?_)
 obtain ⟨l,a,q⟩:=x
 dsimp only at hi ⊢
 obtain ⟨hO,hs,hl,ha,hk2⟩:=hi
 have hn:=lenAt_lt b a
 have u0:=UInt8.toNat_lt (bAt b a)
 have u1:=UInt8.toNat_lt (bAt b (a + 1))
 have hsl:=sumAt_lt b a
 have hent:=hE (zk b a) (okB_at b a)
 have hin:=hI (zk b a).col (zk b a).row
 have htx:=hT (zk b a).text
 have hw:=fun H=>hW l (zk b a).col (zk b a).row (zk b a).text H tO hs
 clear hE hI hT hW
 have hno : stepS b a l = false → AV.tup [zIN 3 (R.1.map zi),zJ R.2.1] = .tup [zIN 3 (l.map zi),zJ a]:=fun h=>by
  obtain ⟨k,_,h2⟩:=hk2
  rw [openG_no h] at h2
  rw [← h2]
 have hs2:=zJu hs (zk b a).col (zk b a).row (zk b a).text
 have hgo:=fun (c1 : a + 5 ≤ b.length) (c2 : a + 5 + zo b a ≤ b.length) (c3 : bAt b (a + 3 + zo b a) = u8N (zDJ b a % 256)) (c4 : bAt b (a + 4 + zo b a) = u8N (zDJ b a / 256)) (c5 : mayN (zk b a) = 0) (c6 : (zCD l (zk b a).col (zk b a).row (zk b a).text).length ≤ 200)=>openG_go (b:=b) (a:=a) (l:=l) (q:=q) (R:=R) (decide_eq_true ⟨c1,c2,c3,c4,c5,c6⟩) hk2
 have hno6:=fun (c6 : ¬ (zCD l (zk b a).col (zk b a).row (zk b a).text).length ≤ 200)=>hno (decide_eq_false fun h=>c6 h.2.2.2.2.2)
 obtain ⟨q',hq'⟩ : ∃ q',(q && decide ((zk b a).text = [])) = q':=⟨_,rfl⟩
 obtain ⟨l',hl'⟩ : ∃ l',zCD l (zk b a).col (zk b a).row (zk b a).text = l':=⟨_,rfl⟩
 rw [hq',hl'] at hgo
 rw [hl'] at hs2 hno6 hw
 clear hq' hl'
 have hlo' : zFX (zIN 3 (l'.map zi)) 3 (l'.map zi):=zLM _ _
 have hlm' : (l'.map zi).length = l'.length:=List.length_map _
 obtain ⟨ev,hev⟩ : ∃ ev,bsV (zKE (zk b a)) = ev:=⟨_,rfl⟩
 have hel : zFX ev 1 ((zKE (zk b a)).map zP):=by rw [← hev]; exact zLM _ _
 rw [hev] at hent
 clear hev
 have hS2 : ∀ n,n = zo b a → a + 3 + n ≤ b.length → zA1 (some 1) (.lst q0 k0 (b.map zP)) (some (zJ (a + 3))) (some (zJ (a + 3 + n))) = some (.lst (zJL q0 (a + 3) (a + 3 + n)) k0 (((b.take (a + 3 + n)).drop (a + 3)).map zP)):=fun n _ h=>zIL hk tO h
 have hell : a + 3 + zo b a ≤ b.length → ((zKE (zk b a)).map zP).length = zo b a + 5:=fun h=>by
  rw [List.length_map,zHV]
  simp only [zk,List.length_drop,List.length_take]
  omega
 have hee : a + 3 + zo b a ≤ b.length → zKE (zk b a) = zHz b a ++ [u8N (zDJ b a % 256),u8N (zDJ b a / 256)] ∧ (zHz b a).length = zo b a + 3:=fun h=>by
  refine ⟨by unfold zKE; rw [entH_at h]; rfl, ?_⟩
  simp only [zHz,List.length_drop,List.length_take]
  omega
 by_cases c1 : a + 5 ≤ b.length
 ·have g0:=zFP (b:=b) (i:=a) tO
  have g1:=zFP (b:=b) (i:=a + 1) tO
  have g2:=zFP (b:=b) (i:=a + 2) tO
  by_cases c2 : a + 5 + zo b a ≤ b.length
  ·have g3:=zFP (b:=b) (i:=a + 3 + zo b a) tO
   have g4:=zFP (b:=b) (i:=a + 4 + zo b a) tO
   have hS2:=hS2 _ rfl tO
   have hell:=hell tO
   obtain ⟨hee,hhl⟩:=hee tO
   have x3 : ((zKE (zk b a)).map zP)[zo b a + 3]? = some (zP (u8N (zDJ b a % 256))):=by
    rw [List.getElem?_map,hee,List.getElem?_append_right tO,hhl]; simp
   have x4 : ((zKE (zk b a)).map zP)[zo b a + 4]? = some (zP (u8N (zDJ b a / 256))):=by
    rw [List.getElem?_map,hee,List.getElem?_append_right tO,hhl]; simp
   by_cases k1 : okC (zk b a).col (zk b a).row = true
   ·rw [k1] at hin
    obtain ⟨tn,htn⟩ : ∃ tn,zDC (zk b a).text = tn:=⟨_,rfl⟩
    rw [htn] at htx
    by_cases k2 : tn = 0
    ·have c5 : mayN (zk b a) = 0:=by unfold mayN; rw [if_pos k1,htn]; exact k2
     have e5 : ((tn : Int) != 0) = false:=by rw [k2]; rfl
     by_cases c3 : bAt b (a + 3 + zo b a) = u8N (zDJ b a % 256)
     ·have e3 : (((u8N (zDJ b a % 256)).toNat : Int) != ((bAt b (a + 3 + zo b a)).toNat : Int)) = false:=bne_no (by rw [c3])
      by_cases c4 : bAt b (a + 4 + zo b a) = u8N (zDJ b a / 256)
      ·have e4 : (((u8N (zDJ b a / 256)).toNat : Int) != ((bAt b (a + 4 + zo b a)).toNat : Int)) = false:=bne_no (by rw [c4])
       by_cases c6 : l'.length ≤ 200
       ·have hgo:=hgo c1 c2 c3 c4 c5 c6
        refine zL (r:=a + 5) rfl tO <| zFw <| zT tT <| zL (r:=a + 2) rfl tO <| zA4 (a + 2) _ hv rfl g2 <| zp (zP (bAt b (a + 2))) rfl ?_; refine zL (r:=zo b a) rfl tO <| zL (r:=a + 5) rfl tO <| zL (r:=a + 5 + zo b a) rfl tO <| zFw <| zO tF <| zA4 a _ hv rfl g0 ?_; refine zp (zP (bAt b a)) rfl <| zL (r:=(bAt b a).toNat) rfl tO <| zL (r:=a + 1) rfl tO <| zA4 (a + 1) _ hv rfl g1 <| zp (zP (bAt b (a + 1))) rfl <| zL (r:=(bAt b (a + 1)).toNat) rfl tO ?_
        refine zR (v:=[.int .i64 ↑(bAt b a).toNat,.int .i64 ↑(bAt b (a + 1)).toNat]) rfl <| zL (r:=a + 3) rfl tO <| zL (r:=a + 3) rfl tO <| zL (r:=a + 3 + zo b a) rfl tO <| zR hS2 <| zEf (cut_k hk _ _) ?_; refine zR (v:=[.int .i64 ↑(bAt b a).toNat,.int .i64 ↑(bAt b (a + 1)).toNat,AV.str (List.drop (a + 3) (List.take (a + 3 + zo b a) b))]) rfl <| zF (v:=zi (zk b a)) (AV.cells (zi (zk b a))) zD rfl rfl rfl rfl <| zB (zi (zk b a)) (zE zD) rfl <| zI (hent _) <| zB (zx (zk b a).col (zk b a).row) (zE zD) rfl <| zI (hin _) ?_
        refine zB (AV.str (zk b a).text) (zE zD) rfl <| zI (htx _) <| zG <| zG <| zO e5 <| zBd (zo b a + 5) hel hell ?_; refine zL (r:=zo b a + 3) tO tO <| zA4 (zo b a + 3) _ hel rfl x3 <| zp (zP (u8N (zDJ b a % 256))) rfl <| zL (r:=a + 3) rfl tO <| zL (r:=a + 3 + zo b a) rfl tO <| zA4 (a + 3 + zo b a) _ hv tO g3 ?_; refine zp (zP (bAt b (a + 3 + zo b a))) rfl <| zG <| zO e3 <| zBd (zo b a + 5) hel hell <| zL (r:=zo b a + 4) tO tO <| zA4 (zo b a + 4) _ hel rfl x4 ?_
        refine zp (zP (u8N (zDJ b a / 256))) rfl <| zL (r:=a + 4) rfl tO <| zL (r:=a + 4 + zo b a) rfl tO <| zA4 (a + 4 + zo b a) _ hv tO g4 <| zp (zP (bAt b (a + 4 + zo b a))) rfl <| zG ?_; refine zO e4 <| zB (zx (zk b a).col (zk b a).row) (zE zD) rfl <| zB (AV.str (zk b a).text) (zE zD) rfl <| zI (hw _) <| zBd l'.length hlo' hlm' <| zO tF ?_; refine zL (r:=a + 5) rfl tO <| zL (r:=a + 5 + zo b a) rfl tO ?_
        refine zAT (l',a + 5 + zo b a,q') rfl ⟨(hO.push _).set hO.1 _,hs2,c6,c2,hgo⟩ (by simp only; omega)
       ·refine zL (r:=a + 5) rfl tO <| zFw <| zT tT <| zL (r:=a + 2) rfl tO <| zA4 (a + 2) _ hv rfl g2 <| zp (zP (bAt b (a + 2))) rfl ?_; refine zL (r:=zo b a) rfl tO <| zL (r:=a + 5) rfl tO <| zL (r:=a + 5 + zo b a) rfl tO <| zFw <| zO tF <| zA4 a _ hv rfl g0 ?_; refine zp (zP (bAt b a)) rfl <| zL (r:=(bAt b a).toNat) rfl tO <| zL (r:=a + 1) rfl tO <| zA4 (a + 1) _ hv rfl g1 <| zp (zP (bAt b (a + 1))) rfl <| zL (r:=(bAt b (a + 1)).toNat) rfl tO ?_
        refine zR (v:=[.int .i64 ↑(bAt b a).toNat,.int .i64 ↑(bAt b (a + 1)).toNat]) rfl <| zL (r:=a + 3) rfl tO <| zL (r:=a + 3) rfl tO <| zL (r:=a + 3 + zo b a) rfl tO <| zR hS2 <| zEf (cut_k hk _ _) ?_; refine zR (v:=[.int .i64 ↑(bAt b a).toNat,.int .i64 ↑(bAt b (a + 1)).toNat,AV.str (List.drop (a + 3) (List.take (a + 3 + zo b a) b))]) rfl <| zF (v:=zi (zk b a)) (AV.cells (zi (zk b a))) zD rfl rfl rfl rfl <| zB (zi (zk b a)) (zE zD) rfl <| zI (hent _) <| zB (zx (zk b a).col (zk b a).row) (zE zD) rfl <| zI (hin _) ?_
        refine zB (AV.str (zk b a).text) (zE zD) rfl <| zI (htx _) <| zG <| zG <| zO e5 <| zBd (zo b a + 5) hel hell ?_; refine zL (r:=zo b a + 3) tO tO <| zA4 (zo b a + 3) _ hel rfl x3 <| zp (zP (u8N (zDJ b a % 256))) rfl <| zL (r:=a + 3) rfl tO <| zL (r:=a + 3 + zo b a) rfl tO <| zA4 (a + 3 + zo b a) _ hv tO g3 ?_; refine zp (zP (bAt b (a + 3 + zo b a))) rfl <| zG <| zO e3 <| zBd (zo b a + 5) hel hell <| zL (r:=zo b a + 4) tO tO <| zA4 (zo b a + 4) _ hel rfl x4 ?_
        refine zp (zP (u8N (zDJ b a / 256))) rfl <| zL (r:=a + 4) rfl tO <| zL (r:=a + 4 + zo b a) rfl tO <| zA4 (a + 4 + zo b a) _ hv tO g4 <| zp (zP (bAt b (a + 4 + zo b a))) rfl <| zG ?_; refine zO e4 <| zB (zx (zk b a).col (zk b a).row) (zE zD) rfl <| zB (AV.str (zk b a).text) (zE zD) rfl <| zI (hw _) <| zBd l'.length hlo' hlm' <| zT tT ?_
        exact zEM (hno6 c6) rfl rfl (by generalize l.map zi = xs; cases xs <;> rfl) (by generalize l.map zi = xs; cases xs <;> rfl) ((hO.push _).set hO.1 _)
      ·have e4 : (((u8N (zDJ b a / 256)).toNat : Int) != ((bAt b (a + 4 + zo b a)).toNat : Int)) = true:=bne_yes fun h=>c4 (UInt8.toNat_inj.1 h).symm
       refine zL (r:=a + 5) rfl tO <| zFw <| zT tT <| zL (r:=a + 2) rfl tO <| zA4 (a + 2) _ hv rfl g2 <| zp (zP (bAt b (a + 2))) rfl ?_; refine zL (r:=zo b a) rfl tO <| zL (r:=a + 5) rfl tO <| zL (r:=a + 5 + zo b a) rfl tO <| zFw <| zO tF <| zA4 a _ hv rfl g0 ?_; refine zp (zP (bAt b a)) rfl <| zL (r:=(bAt b a).toNat) rfl tO <| zL (r:=a + 1) rfl tO <| zA4 (a + 1) _ hv rfl g1 <| zp (zP (bAt b (a + 1))) rfl <| zL (r:=(bAt b (a + 1)).toNat) rfl tO ?_
       refine zR (v:=[.int .i64 ↑(bAt b a).toNat,.int .i64 ↑(bAt b (a + 1)).toNat]) rfl <| zL (r:=a + 3) rfl tO <| zL (r:=a + 3) rfl tO <| zL (r:=a + 3 + zo b a) rfl tO <| zR hS2 <| zEf (cut_k hk _ _) ?_; refine zR (v:=[.int .i64 ↑(bAt b a).toNat,.int .i64 ↑(bAt b (a + 1)).toNat,AV.str (List.drop (a + 3) (List.take (a + 3 + zo b a) b))]) rfl <| zF (v:=zi (zk b a)) (AV.cells (zi (zk b a))) zD rfl rfl rfl rfl <| zB (zi (zk b a)) (zE zD) rfl <| zI (hent _) <| zB (zx (zk b a).col (zk b a).row) (zE zD) rfl <| zI (hin _) ?_
       refine zB (AV.str (zk b a).text) (zE zD) rfl <| zI (htx _) <| zG <| zG <| zO e5 <| zBd (zo b a + 5) hel hell ?_; refine zL (r:=zo b a + 3) tO tO <| zA4 (zo b a + 3) _ hel rfl x3 <| zp (zP (u8N (zDJ b a % 256))) rfl <| zL (r:=a + 3) rfl tO <| zL (r:=a + 3 + zo b a) rfl tO <| zA4 (a + 3 + zo b a) _ hv tO g3 ?_; refine zp (zP (bAt b (a + 3 + zo b a))) rfl <| zG <| zO e3 <| zBd (zo b a + 5) hel hell <| zL (r:=zo b a + 4) tO tO <| zA4 (zo b a + 4) _ hel rfl x4 ?_
       refine zp (zP (u8N (zDJ b a / 256))) rfl <| zL (r:=a + 4) rfl tO <| zL (r:=a + 4 + zo b a) rfl tO <| zA4 (a + 4 + zo b a) _ hv tO g4 <| zp (zP (bAt b (a + 4 + zo b a))) rfl <| zG ?_; refine zT e4 ?_
       exact zEM (hno (decide_eq_false fun h=>c4 h.2.2.2.1)) rfl rfl (by generalize l.map zi = xs; cases xs <;> rfl) (by generalize l.map zi = xs; cases xs <;> rfl) ((hO.push _).set hO.1 _)
     ·have e3 : (((u8N (zDJ b a % 256)).toNat : Int) != ((bAt b (a + 3 + zo b a)).toNat : Int)) = true:=bne_yes fun h=>c3 (UInt8.toNat_inj.1 h).symm
      refine zL (r:=a + 5) rfl tO <| zFw <| zT tT <| zL (r:=a + 2) rfl tO <| zA4 (a + 2) _ hv rfl g2 <| zp (zP (bAt b (a + 2))) rfl ?_; refine zL (r:=zo b a) rfl tO <| zL (r:=a + 5) rfl tO <| zL (r:=a + 5 + zo b a) rfl tO <| zFw <| zO tF <| zA4 a _ hv rfl g0 ?_; refine zp (zP (bAt b a)) rfl <| zL (r:=(bAt b a).toNat) rfl tO <| zL (r:=a + 1) rfl tO <| zA4 (a + 1) _ hv rfl g1 <| zp (zP (bAt b (a + 1))) rfl <| zL (r:=(bAt b (a + 1)).toNat) rfl tO ?_
      refine zR (v:=[.int .i64 ↑(bAt b a).toNat,.int .i64 ↑(bAt b (a + 1)).toNat]) rfl <| zL (r:=a + 3) rfl tO <| zL (r:=a + 3) rfl tO <| zL (r:=a + 3 + zo b a) rfl tO <| zR hS2 <| zEf (cut_k hk _ _) ?_; refine zR (v:=[.int .i64 ↑(bAt b a).toNat,.int .i64 ↑(bAt b (a + 1)).toNat,AV.str (List.drop (a + 3) (List.take (a + 3 + zo b a) b))]) rfl <| zF (v:=zi (zk b a)) (AV.cells (zi (zk b a))) zD rfl rfl rfl rfl <| zB (zi (zk b a)) (zE zD) rfl <| zI (hent _) <| zB (zx (zk b a).col (zk b a).row) (zE zD) rfl <| zI (hin _) ?_
      refine zB (AV.str (zk b a).text) (zE zD) rfl <| zI (htx _) <| zG <| zG <| zO e5 <| zBd (zo b a + 5) hel hell ?_; refine zL (r:=zo b a + 3) tO tO <| zA4 (zo b a + 3) _ hel rfl x3 <| zp (zP (u8N (zDJ b a % 256))) rfl <| zL (r:=a + 3) rfl tO <| zL (r:=a + 3 + zo b a) rfl tO <| zA4 (a + 3 + zo b a) _ hv tO g3 ?_; refine zp (zP (bAt b (a + 3 + zo b a))) rfl <| zG <| zT e3 <| zH <| zH ?_
      exact zEM (hno (decide_eq_false fun h=>c3 h.2.2.1)) rfl rfl (by generalize l.map zi = xs; cases xs <;> rfl) (by generalize l.map zi = xs; cases xs <;> rfl) ((hO.push _).set hO.1 _)
    ·have e5 : ((tn : Int) != 0) = true:=bne_iff_ne.2 tO
     refine zL (r:=a + 5) rfl tO <| zFw <| zT tT <| zL (r:=a + 2) rfl tO <| zA4 (a + 2) _ hv rfl g2 <| zp (zP (bAt b (a + 2))) rfl ?_; refine zL (r:=zo b a) rfl tO <| zL (r:=a + 5) rfl tO <| zL (r:=a + 5 + zo b a) rfl tO <| zFw <| zO tF <| zA4 a _ hv rfl g0 ?_; refine zp (zP (bAt b a)) rfl <| zL (r:=(bAt b a).toNat) rfl tO <| zL (r:=a + 1) rfl tO <| zA4 (a + 1) _ hv rfl g1 <| zp (zP (bAt b (a + 1))) rfl <| zL (r:=(bAt b (a + 1)).toNat) rfl tO ?_
     refine zR (v:=[.int .i64 ↑(bAt b a).toNat,.int .i64 ↑(bAt b (a + 1)).toNat]) rfl <| zL (r:=a + 3) rfl tO <| zL (r:=a + 3) rfl tO <| zL (r:=a + 3 + zo b a) rfl tO <| zR hS2 <| zEf (cut_k hk _ _) ?_; refine zR (v:=[.int .i64 ↑(bAt b a).toNat,.int .i64 ↑(bAt b (a + 1)).toNat,AV.str (List.drop (a + 3) (List.take (a + 3 + zo b a) b))]) rfl <| zF (v:=zi (zk b a)) (AV.cells (zi (zk b a))) zD rfl rfl rfl rfl <| zB (zi (zk b a)) (zE zD) rfl <| zI (hent _) <| zB (zx (zk b a).col (zk b a).row) (zE zD) rfl <| zI (hin _) ?_
     refine zB (AV.str (zk b a).text) (zE zD) rfl <| zI (htx _) <| zG <| zG <| zT e5 ?_; refine zH <| zH <| zH <| zH ?_
     exact zEM (hno (decide_eq_false fun h=>k2 (by have:=h.2.2.2.2.1; unfold mayN at this; rwa [if_pos k1,htn] at this))) rfl rfl (by generalize l.map zi = xs; cases xs <;> rfl) (by generalize l.map zi = xs; cases xs <;> rfl) ((hO.push _).set hO.1 _)
   ·have k1 : okC (zk b a).col (zk b a).row = false:=by simpa using k1
    rw [k1] at hin
    clear hw
    refine zL (r:=a + 5) rfl tO <| zFw <| zT tT <| zL (r:=a + 2) rfl tO <| zA4 (a + 2) _ hv rfl g2 <| zp (zP (bAt b (a + 2))) rfl ?_; refine zL (r:=zo b a) rfl tO <| zL (r:=a + 5) rfl tO <| zL (r:=a + 5 + zo b a) rfl tO <| zFw <| zO tF <| zA4 a _ hv rfl g0 ?_; refine zp (zP (bAt b a)) rfl <| zL (r:=(bAt b a).toNat) rfl tO <| zL (r:=a + 1) rfl tO <| zA4 (a + 1) _ hv rfl g1 <| zp (zP (bAt b (a + 1))) rfl <| zL (r:=(bAt b (a + 1)).toNat) rfl tO ?_
    refine zR (v:=[.int .i64 ↑(bAt b a).toNat,.int .i64 ↑(bAt b (a + 1)).toNat]) rfl <| zL (r:=a + 3) rfl tO <| zL (r:=a + 3) rfl tO <| zL (r:=a + 3 + zo b a) rfl tO <| zR hS2 <| zEf (cut_k hk _ _) ?_; refine zR (v:=[.int .i64 ↑(bAt b a).toNat,.int .i64 ↑(bAt b (a + 1)).toNat,AV.str (List.drop (a + 3) (List.take (a + 3 + zo b a) b))]) rfl <| zF (v:=zi (zk b a)) (AV.cells (zi (zk b a))) zD rfl rfl rfl rfl <| zB (zi (zk b a)) (zE zD) rfl <| zI (hent _) <| zB (zx (zk b a).col (zk b a).row) (zE zD) rfl <| zI (hin _) ?_
    refine zB (AV.str (zk b a).text) (zE zD) rfl <| zI (htx _) ?_; refine zH <| zH <| zH <| zH <| zH <| zH <| zH ?_
    exact zEM (hno (decide_eq_false fun h=>by have:=h.2.2.2.2.1; unfold mayN at this; rw [k1] at this; cases this)) rfl rfl (by generalize l.map zi = xs; cases xs <;> rfl) (by generalize l.map zi = xs; cases xs <;> rfl) ((hO.push _).set hO.1 _)
  ·refine zL (r:=a + 5) rfl tO <| zFw <| zT tT <| zL (r:=a + 2) rfl tO <| zA4 (a + 2) _ hv rfl g2 <| zp (zP (bAt b (a + 2))) rfl ?_; refine zL (r:=zo b a) rfl tO <| zL (r:=a + 5) rfl tO <| zL (r:=a + 5 + zo b a) rfl tO <| zFw <| zT tT ?_
   exact zEM (hno (decide_eq_false fun h=>c2 h.2.1)) rfl rfl (by generalize l.map zi = xs; cases xs <;> rfl) (by generalize l.map zi = xs; cases xs <;> rfl) hO
 ·refine zL (r:=a + 5) rfl tO <| zFw <| zO tF ?_
  exact zEM (hno (decide_eq_false fun h=>c1 h.1)) rfl rfl (by generalize l.map zi = xs; cases xs <;> rfl) (by generalize l.map zi = xs; cases xs <;> rfl) hO
end
end Go.AM
