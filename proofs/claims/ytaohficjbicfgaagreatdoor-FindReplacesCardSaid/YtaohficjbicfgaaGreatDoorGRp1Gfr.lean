/- Several texts of mine in one (Rp1, Rp2, Rp3, Rp4, Gfr). Own work. -/
import Derived.Test.YtaohficjbicfgaaGreatDoorGBe2Rp0
set_option linter.all false
set_option maxRecDepth 20000
namespace Go.AM
section
variable {C : CSpec} {GT : Nat → Option AV}
theorem ssheets_ev (v w : AV) (l : List Fil) (H : Heap) (hv : view H 3 v = some (l.map zk)) (hw : view H 3 w = some (l.map zk)) (hl : l.length ≤ 1000000) : EFun C GT zF4 [v,w] H (.bool true) H:=by
 have hlm : (l.map zk).length = l.length:=List.length_map _
 refine zf ?_; refine zBp hv ?_; refine zBp hw ?_; refine zN (bne_eq_false_iff_eq.2 rfl) ?_; refine zBu (fun i : Nat=>[(5,zJ i),(1,w),(0,v)]) (fun i H'=>H' = H ∧ i ≤ l.length) (fun i=>l.length - i) 0 rfl ⟨rfl,by omega⟩ (fun i H1 ⟨hH,hi⟩=>?_)
 subst hH
 dsimp only
 by_cases hlt : i < l.length
 ·obtain ⟨c,hc⟩ : ∃ c,l[i]? = some c:=⟨_,List.getElem?_eq_getElem hlt⟩
  have hcm : (l.map zk)[i]? = some (zk c):=by rw [List.getElem?_map,hc]; rfl
  refine zBp hv ?_; refine zP tT ?_; refine zCy i (zk c) hv rfl hcm (fun p hp=>?_)
  refine zw (zk c) hp rfl ?_; refine zCy i (zk c) hw rfl hcm (fun p2 hp2=>?_)
  refine zw (zk c) hp2 rfl ?_; refine zU rfl ?_; refine zN (show negB true (c.col == c.col && (c.row == c.row && (c.text == c.text && true))) = false from by simp [negB]) ?_; refine zM (r:=i + 1) rfl tO ?_; refine zAM (i + 1) rfl ⟨rfl,by omega⟩ tO
 ·refine zBp hv ?_; refine zN tF ?_
  exact zc rfl rfl rfl rfl (Old.refl _)
theorem made_ev (hR : ∀ n H,C zC2 [eV n,zJ n] H (.bool true) H) (hS : ∀ v w (l : List Fil) H,view H 3 v = some (l.map zk) → view H 3 w = some (l.map zk) → l.length ≤ 1000000 → C zCi [v,w] H (.bool true) H)
  (v w : AV) (l : List Fil) (n : Nat) (H : Heap) (hv : view H 3 v = some (l.map zk)) (hw : view H 3 w = some (l.map zk)) (hl : l.length ≤ 1000000) : EFun C GT zHQ [v,eV n,w,zJ n] H (.bool true) H:=by
 have hr:=hR n H
 have hs:=hS v w l H hv hw hl
 clear hR hS
 refine zf ?_; refine zI hr ?_; refine zI hs ?_; refine zH <| zH ?_
 exact zc rfl rfl rfl rfl (Old.refl _)
end
end Go.AM
set_option maxRecDepth 20000
namespace Go.AM
structure RpS where
 i : Nat
 v : AV
 n : Nat
section
variable {C : CSpec} {GT : Nat → Option AV}
set_option maxHeartbeats 4000000 in
theorem krep_ev (hG : ∀ lv l H,view H 3 lv = some (l.map zk) → C zC4 [lv] H (eV (zCW l)) H) (hS : ∀ s part new H,1 ≤ part.length → s.length ≤ 1000 → C zC5 [.str s,.str part] H (zJ (zDJ part new s).1) H)
  (hA : ∀ s part new H,1 ≤ part.length → s.length ≤ 1000 → new.length ≤ 1000 → C zBZ [.str s,.str part,.str new] H (.str (zDJ part new s).2) H) (hT : ∀ s H,C zAr [.str s] H (eV (zBE s)) H)
  (lv : AV) (l : List Fil) (part new : Bs) (whole : Bool) (H : Heap) (hv : view H 3 lv = some (l.map zk)) : EFun C GT zHP [lv,.str part,.str new,.bool whole] H (.tup [zLE l part new whole,zJ (replM l part new whole),eV (zCh l part new whole)]) H:=by
 have hlm : (l.map zk).length = l.length:=List.length_map _
 have hg:=hG lv l H hv
 clear hG
 refine zf ?_
 unfold zLE replM
 by_cases c0 : zCW l = 0
 case neg=>
  have hn : zCh l part new whole = zCW l:=if_pos c0
  rw [hn,if_neg c0,if_neg c0]
  have he : eV (zCW l) = zF7 (zCW l : Nat):=by unfold eV; rw [if_neg c0]
  rw [he] at hg ⊢
  clear hS hA hT
  refine zI hg ?_; refine zU rfl ?_; refine zH ?_
  exact zc rfl rfl rfl rfl (Old.refl _)
 obtain ⟨hl,hok⟩:=zLD c0
 rw [c0] at hg
 have hg : C zC4 [lv] H .nili H:=hg
 by_cases c1 : 200 < part.length
 ·have hn : zCh l part new whole = 4:=by unfold zCh; rw [if_neg tO,if_pos (.inl c1)]
  rw [hn,if_neg (by decide),if_neg (by decide)]
  clear hS hA hT
  refine zI hg ?_; refine zU rfl ?_; refine zG <| zP tT <| zH <| zH ?_
  exact zc rfl rfl rfl rfl (Old.refl _)
 by_cases c2 : 200 < new.length
 ·have hn : zCh l part new whole = 4:=by unfold zCh; rw [if_neg tO,if_pos (.inr c2)]
  rw [hn,if_neg (by decide),if_neg (by decide)]
  clear hS hA hT
  refine zI hg ?_; refine zU rfl ?_; refine zG <| zN tF <| zG <| zP tT ?_
  exact zc rfl rfl rfl rfl (Old.refl _)
 by_cases hp0 : part = []
 ·have hn : zCh l part new whole = 2:=by unfold zCh; rw [if_neg tO,if_neg tO,if_pos hp0]
  rw [hn,if_neg (by decide),if_neg (by decide)]
  clear hS hA hT
  refine zI hg ?_; refine zU rfl ?_; refine zG <| zN tF <| zG <| zN tF <| zP (tE hp0) ?_
  exact zc rfl rfl rfl rfl (Old.refl _)
 have hp : 1 ≤ part.length:=by
  cases part with
  | nil=>exact absurd rfl hp0
  | cons a t=>simp
 have hn : zCh l part new whole = repE part new whole l:=by unfold zCh; rw [if_neg tO,if_neg tO,if_neg hp0]
 rw [hn]
 obtain ⟨e,he⟩ : ∃ e,repE part new whole l = e:=⟨_,rfl⟩
 rw [he]
 refine zI hg ?_; refine zU rfl ?_; refine zG <| zN tF <| zG <| zN tF <| zN (tN hp0) ?_; refine zBp hv ?_; refine zBu (fun x : RpS=>[(39,zJ x.i),(12,x.v),(2,.str new),(1,.str part),(13,zJ x.n),(3,.bool whole),(37,lv),(38,.int .i64 ((l.map zk).length : Nat))]) (fun x H'=>Old H H' ∧ x.i ≤ l.length ∧ Owns H H' x.v 3 ((repO part new whole (l.take x.i)).map zk) ∧ x.n = repM part new whole (l.take x.i) ∧ repE part new whole (l.drop x.i) = e) (fun x=>l.length - x.i) ⟨0,.lst (some true) 0 [],0⟩ rfl ⟨Old.refl _,by simp,.inl ⟨rfl,rfl⟩,rfl,he⟩ (fun ⟨i,v,n⟩ H1 ⟨hO,hi,ho,hnm,hde⟩=>?_)
 dsimp only at hi ho hnm hde ⊢
 have hv1:=view_old hO hv
 by_cases hlt : i < l.length
 case neg=>
  have ht : l.take i = l:=List.take_of_length_le tO
  have hd : l.drop i = []:=List.drop_eq_nil_of_le tO
  rw [ht] at ho hnm
  rw [hd] at hde
  subst hnm
  obtain rfl : e = 0:=hde.symm
  rw [if_pos rfl,if_pos rfl]
  refine zN tF ?_
  obtain ⟨H3,hz,hO3,_⟩:=ho.frz hO
  exact sRetF rfl rfl (show zDo H.length (.tup [v,zJ (repM part new whole l),.nili]) H1 = some (.tup [_,zJ (repM part new whole l),.nili],H3) from by simp only [zDo,zIp,hz,zJ]) (by show (AV.tup [lstF 3 _,zJ _,.nili]).bel _ = true; generalize (repO part new whole l).map zk = xs; cases xs <;> rfl) hO3
 obtain ⟨f,hf⟩ : ∃ f,l[i]? = some f:=⟨_,List.getElem?_eq_getElem hlt⟩
 have hfm : (l.map zk)[i]? = some (zk f):=by rw [List.getElem?_map,hf]; rfl
 have hfo:=hok f (List.mem_of_getElem? hf)
 have hft : f.text.length ≤ 200:=hfo.2.2
 have hs:=fun H=>hS f.text part new H hp tO
 have ha:=fun H=>hA f.text part new H hp tO tO
 have hot:=repO_take (part:=part) (new:=new) (whole:=whole) l i f hf
 have hmt:=repM_take (part:=part) (new:=new) (whole:=whole) l i f hf
 have hed:=repE_drop (part:=part) (new:=new) (whole:=whole) l i f hf
 have hfl : (repO part new whole (l.take i)).length ≤ 200:=by
  have:=repO_len (part:=part) (new:=new) (whole:=whole) (l.take i)
  rw [List.length_take] at this
  omega
 have hml : n ≤ 40000:=by
  have h1:=repM_le (part:=part) (new:=new) (whole:=whole) hp (l.take i) fun g hg=>(hok g (List.mem_of_mem_take hg)).2.2
  have h2 : (l.take i).length ≤ 200:=by rw [List.length_take]; omega
  have : 200 * (l.take i).length ≤ 200 * 200:=Nat.mul_le_mul_left _ h2
  omega
 have hcl:=(cnt_le part new hp _ f.text (Nat.le_refl _)).1
 rw [hed] at hde
 rw [← hnm] at hmt
 clear hS hA
 have stays : (repC part new whole f) = (0,f.text) → ∀ (H4 : Heap) (bx : Nat),Old H H4 → Owns H H4 v 3 ((repO part new whole (l.take i)).map zk) → H4[bx]? = some (.box (zk f).cells) → bx < H4.length → True:=fun _ _ _ _ _ _ _=>trivial
 by_cases cA : whole = true ∧ f.text ≠ part
 ·obtain ⟨rfl,hne⟩:=cA
  have hrc : repC part new true f = (0,f.text):=if_pos ⟨rfl,hne⟩
  have hre : zHL part new true f = 0:=by unfold zHL; rw [hrc]; rfl
  rw [hre,if_pos rfl] at hde
  rw [hrc] at hmt hot
  have hrf : repF part new true f = f:=by unfold repF; rw [hrc]
  rw [hrf] at hot
  by_cases ht : f.text = []
  ·rw [if_pos ht,List.append_nil] at hot
   refine zP tT ?_; refine zCy i (zk f) hv1 rfl hfm (fun p hp=>?_)
   refine zw (zk f) hp rfl ?_; refine zF (v:=zk f) (AV.cells (zk f)) zC rfl rfl rfl rfl ?_; refine zB (AV.str f.text) (zE zC) rfl ?_; refine zI (hs _) ?_; refine zH ?_; refine zB (AV.str f.text) (zE zC) rfl ?_; refine zN (tN hne) <| zG ?_; refine zB (AV.str f.text) (zE zC) rfl ?_; refine zN (bne_eq_false_iff_eq.2 ht) ?_; refine zM (r:=i + 1) rfl tO ?_; refine zAM (RpS.mk (i + 1) v n) rfl ⟨hO.pushSet _ _,by simp only; omega,by rw [hot]; exact ho.pushSet _ _,hmt.symm,hde⟩ (by simp only; omega)
  ·rw [if_neg ht] at hot
   refine zP tT ?_; refine zCy i (zk f) hv1 rfl hfm (fun p hp=>?_)
   refine zw (zk f) hp rfl ?_; refine zF (v:=zk f) (AV.cells (zk f)) zC rfl rfl rfl rfl ?_; refine zB (AV.str f.text) (zE zC) rfl ?_; refine zI (hs _) ?_; refine zH ?_; refine zB (AV.str f.text) (zE zC) rfl ?_; refine zN (tN hne) <| zG ?_; refine zB (AV.str f.text) (zE zC) rfl ?_; refine zP (bne_iff_ne.2 ht) ?_; refine zB (zk f) (zE zC) rfl ?_; refine zAi (vs':=[zk f]) rfl rfl ?_; refine zBT (H0:=H) (ys:=[zk f]) ((ho.pushSet _ _).push _) ((hO.pushSet _ _).push _) zAp (by decide) (by simp only [List.length_map,List.length_cons,List.length_nil]; omega) (by simp) (fun v' H' ho' hO' _ _=>?_)
   have ho' : Owns H H' v' 3 ((repO part new true (l.take (i + 1))).map zk):=by rw [hot,List.map_append]; exact ho'
   refine zM (r:=i + 1) rfl tO ?_; refine zAM (RpS.mk (i + 1) v' n) rfl ⟨hO',by simp only; omega,ho',hmt.symm,hde⟩ (by simp only; omega)
 have hself : whole = true → f.text = part:=fun h=>Classical.byContradiction fun h2=>cA ⟨h,h2⟩
 by_cases cB : 0 < (zDJ part new f.text).1
 case neg=>
  have hw : whole = false:=by
   cases hw : whole with
   | false=>rfl
   | true=>
    rw [hself hw,zKC part new hp] at cB
    exact absurd (by decide : 0 < 1) cB
  subst hw
  have hrc : repC part new false f = (0,f.text):=by unfold repC; rw [if_neg cA,if_neg cB]
  have hre : zHL part new false f = 0:=by unfold zHL; rw [hrc]; rfl
  rw [hre,if_pos rfl] at hde
  rw [hrc] at hmt hot
  have hrf : repF part new false f = f:=by unfold repF; rw [hrc]
  rw [hrf] at hot
  generalize (zDJ part new f.text).1 = cn at *
  by_cases ht : f.text = []
  ·rw [if_pos ht,List.append_nil] at hot
   refine zP tT ?_; refine zCy i (zk f) hv1 rfl hfm (fun p hp=>?_)
   refine zw (zk f) hp rfl ?_; refine zF (v:=zk f) (AV.cells (zk f)) zC rfl rfl rfl rfl ?_; refine zB (AV.str f.text) (zE zC) rfl ?_; refine zI (hs _) ?_; refine zG <| zN tF ?_; refine zB (AV.str f.text) (zE zC) rfl ?_; refine zN (bne_eq_false_iff_eq.2 ht) ?_; refine zM (r:=i + 1) rfl tO ?_; refine zAM (RpS.mk (i + 1) v n) rfl ⟨hO.pushSet _ _,by simp only; omega,by rw [hot]; exact ho.pushSet _ _,hmt.symm,hde⟩ (by simp only; omega)
  ·rw [if_neg ht] at hot
   refine zP tT ?_; refine zCy i (zk f) hv1 rfl hfm (fun p hp=>?_)
   refine zw (zk f) hp rfl ?_; refine zF (v:=zk f) (AV.cells (zk f)) zC rfl rfl rfl rfl ?_; refine zB (AV.str f.text) (zE zC) rfl ?_; refine zI (hs _) ?_; refine zG <| zN tF ?_; refine zB (AV.str f.text) (zE zC) rfl ?_; refine zP (bne_iff_ne.2 ht) ?_; refine zB (zk f) (zE zC) rfl ?_; refine zAi (vs':=[zk f]) rfl rfl ?_; refine zBT (H0:=H) (ys:=[zk f]) ((ho.pushSet _ _).push _) ((hO.pushSet _ _).push _) zAp (by decide) (by simp only [List.length_map,List.length_cons,List.length_nil]; omega) (by simp) (fun v' H' ho' hO' _ _=>?_)
   have ho' : Owns H H' v' 3 ((repO part new false (l.take (i + 1))).map zk):=by rw [hot,List.map_append]; exact ho'
   refine zM (r:=i + 1) rfl tO ?_; refine zAM (RpS.mk (i + 1) v' n) rfl ⟨hO',by simp only; omega,ho',hmt.symm,hde⟩ (by simp only; omega)
 have hrc : repC part new whole f = zDJ part new f.text:=by unfold repC; rw [if_neg cA,if_pos cB]
 have hre : zHL part new whole f = zBE (zDJ part new f.text).2:=by unfold zHL; rw [hrc,if_pos cB]
 rw [hre] at hde
 have hrf : repF part new whole f = ⟨f.col,f.row,(zDJ part new f.text).2⟩:=by unfold repF; rw [hrc]
 rw [hrf,hrc] at hot
 rw [hrc] at hmt
 have h1 : whole = true → (zDJ part new f.text).1 = 1:=fun h=>by rw [hself h,zKC part new hp]
 have htx:=hT (zDJ part new f.text).2
 clear hT
 generalize (zDJ part new f.text).1 = cn at *
 generalize (zDJ part new f.text).2 = ct at *
 by_cases ce : zBE ct = 0
 ·rw [ce,if_pos rfl] at hde
  rw [ce] at htx
  have htx : ∀ H,C zAr [.str ct] H .nili H:=htx
  cases hw : whole with
  | true=>
   subst hw
   obtain rfl:=h1 rfl
   have hps:=hself rfl
   by_cases ht : ct = []
   ·rw [if_pos ht,List.append_nil] at hot
    refine zP tT ?_; refine zCy i (zk f) hv1 rfl hfm (fun p hp=>?_)
    refine zw (zk f) hp rfl ?_; refine zF (v:=zk f) (AV.cells (zk f)) zC rfl rfl rfl rfl ?_; refine zB (AV.str f.text) (zE zC) rfl ?_; refine zI (hs _) ?_; refine zH ?_; refine zB (AV.str f.text) (zE zC) rfl ?_; refine zP (tE hps) <| zP tT ?_; refine zM (r:=n + 1) rfl tO ?_; refine zB (AV.str f.text) (zE zC) rfl ?_; refine zI (ha _) ?_; refine zF (v:=AV.str ct) [zK f.col,zK f.row,AV.str ct] (zE zC) rfl rfl rfl rfl ?_
    refine zB (AV.str ct) (zE (zE zC)) rfl ?_; refine zI (htx _) ?_; refine zU rfl ?_; refine zG ?_; refine zB (AV.str ct) (zE (zE zC)) rfl ?_; refine zN (bne_eq_false_iff_eq.2 ht) ?_; refine zM (r:=i + 1) rfl tO ?_; refine zAM (RpS.mk (i + 1) v (n + 1)) rfl ⟨(hO.pushSet _ _).set hO.1 _,by simp only; omega,by rw [hot]; exact (ho.pushSet _ _).setBox (zE zC) _,hmt.symm,hde⟩ (by simp only; omega)
   ·rw [if_neg ht] at hot
    refine zP tT ?_; refine zCy i (zk f) hv1 rfl hfm (fun p hp=>?_)
    refine zw (zk f) hp rfl ?_; refine zF (v:=zk f) (AV.cells (zk f)) zC rfl rfl rfl rfl ?_; refine zB (AV.str f.text) (zE zC) rfl ?_; refine zI (hs _) ?_; refine zH ?_; refine zB (AV.str f.text) (zE zC) rfl ?_; refine zP (tE hps) <| zP tT ?_; refine zM (r:=n + 1) rfl tO ?_; refine zB (AV.str f.text) (zE zC) rfl ?_; refine zI (ha _) ?_; refine zF (v:=AV.str ct) [zK f.col,zK f.row,AV.str ct] (zE zC) rfl rfl rfl rfl ?_
    refine zB (AV.str ct) (zE (zE zC)) rfl ?_; refine zI (htx _) ?_; refine zU rfl ?_; refine zG ?_; refine zB (AV.str ct) (zE (zE zC)) rfl ?_; refine zP (bne_iff_ne.2 ht) ?_; refine zB (AV.agg [zK f.col,zK f.row,AV.str ct]) (zE (zE zC)) rfl ?_; refine zAi (vs':=[AV.agg [zK f.col,zK f.row,AV.str ct]]) rfl rfl ?_; refine zBT (H0:=H) (ys:=[AV.agg [zK f.col,zK f.row,.str ct]]) (((ho.pushSet _ _).setBox (zE zC) _).push _) (((hO.pushSet _ _).set hO.1 _).push _) zAp (by decide) (by simp only [List.length_map,List.length_cons,List.length_nil]; omega) (by simp) (fun v' H' ho' hO' _ _=>?_)
    have ho' : Owns H H' v' 3 ((repO part new true (l.take (i + 1))).map zk):=by rw [hot,List.map_append]; exact ho'
    refine zM (r:=i + 1) rfl tO ?_; refine zAM (RpS.mk (i + 1) v' (n + 1)) rfl ⟨hO',by simp only; omega,ho',hmt.symm,hde⟩ (by simp only; omega)
  | false=>
   subst hw
   by_cases ht : ct = []
   ·rw [if_pos ht,List.append_nil] at hot
    refine zP tT ?_; refine zCy i (zk f) hv1 rfl hfm (fun p hp=>?_)
    refine zw (zk f) hp rfl ?_; refine zF (v:=zk f) (AV.cells (zk f)) zC rfl rfl rfl rfl ?_; refine zB (AV.str f.text) (zE zC) rfl ?_; refine zI (hs _) ?_; refine zG <| zP tT ?_; refine zM (r:=n + cn) rfl tO ?_; refine zB (AV.str f.text) (zE zC) rfl ?_; refine zI (ha _) ?_; refine zF (v:=AV.str ct) [zK f.col,zK f.row,AV.str ct] (zE zC) rfl rfl rfl rfl ?_; refine zB (AV.str ct) (zE (zE zC)) rfl ?_
    refine zI (htx _) ?_; refine zU rfl ?_; refine zG ?_; refine zB (AV.str ct) (zE (zE zC)) rfl ?_; refine zN (bne_eq_false_iff_eq.2 ht) ?_; refine zM (r:=i + 1) rfl tO ?_; refine zAM (RpS.mk (i + 1) v (n + cn)) rfl ⟨(hO.pushSet _ _).set hO.1 _,by simp only; omega,by rw [hot]; exact (ho.pushSet _ _).setBox (zE zC) _,hmt.symm,hde⟩ (by simp only; omega)
   ·rw [if_neg ht] at hot
    refine zP tT ?_; refine zCy i (zk f) hv1 rfl hfm (fun p hp=>?_)
    refine zw (zk f) hp rfl ?_; refine zF (v:=zk f) (AV.cells (zk f)) zC rfl rfl rfl rfl ?_; refine zB (AV.str f.text) (zE zC) rfl ?_; refine zI (hs _) ?_; refine zG <| zP tT ?_; refine zM (r:=n + cn) rfl tO ?_; refine zB (AV.str f.text) (zE zC) rfl ?_; refine zI (ha _) ?_; refine zF (v:=AV.str ct) [zK f.col,zK f.row,AV.str ct] (zE zC) rfl rfl rfl rfl ?_; refine zB (AV.str ct) (zE (zE zC)) rfl ?_
    refine zI (htx _) ?_; refine zU rfl ?_; refine zG ?_; refine zB (AV.str ct) (zE (zE zC)) rfl ?_; refine zP (bne_iff_ne.2 ht) ?_; refine zB (AV.agg [zK f.col,zK f.row,AV.str ct]) (zE (zE zC)) rfl ?_; refine zAi (vs':=[AV.agg [zK f.col,zK f.row,AV.str ct]]) rfl rfl ?_; refine zBT (H0:=H) (ys:=[AV.agg [zK f.col,zK f.row,.str ct]]) (((ho.pushSet _ _).setBox (zE zC) _).push _) (((hO.pushSet _ _).set hO.1 _).push _) zAp (by decide) (by simp only [List.length_map,List.length_cons,List.length_nil]; omega) (by simp) (fun v' H' ho' hO' _ _=>?_)
    have ho' : Owns H H' v' 3 ((repO part new false (l.take (i + 1))).map zk):=by rw [hot,List.map_append]; exact ho'
    refine zM (r:=i + 1) rfl tO ?_; refine zAM (RpS.mk (i + 1) v' (n + cn)) rfl ⟨hO',by simp only; omega,ho',hmt.symm,hde⟩ (by simp only; omega)
 ·rw [if_neg ce] at hde
  have hee : eV (zBE ct) = zF7 (zBE ct : Nat):=by unfold eV; rw [if_neg ce]
  rw [hee] at htx
  rw [hde] at htx ce
  rw [if_neg ce,if_neg ce]
  have hee : eV e = zF7 (e : Nat):=by unfold eV; rw [if_neg ce]
  rw [hee]
  cases hw : whole with
  | true=>
   subst hw
   obtain rfl:=h1 rfl
   have hps:=hself rfl
   refine zP tT ?_; refine zCy i (zk f) hv1 rfl hfm (fun p hp=>?_)
   refine zw (zk f) hp rfl ?_; refine zF (v:=zk f) (AV.cells (zk f)) zC rfl rfl rfl rfl ?_; refine zB (AV.str f.text) (zE zC) rfl ?_; refine zI (hs _) ?_; refine zH ?_; refine zB (AV.str f.text) (zE zC) rfl ?_; refine zP (tE hps) <| zP tT ?_; refine zM (r:=n + 1) rfl tO ?_; refine zB (AV.str f.text) (zE zC) rfl ?_; refine zI (ha _) ?_; refine zF (v:=AV.str ct) [zK f.col,zK f.row,AV.str ct] (zE zC) rfl rfl rfl rfl ?_
   refine zB (AV.str ct) (zE (zE zC)) rfl ?_; refine zI (htx _) ?_; refine zU rfl ?_; refine zH ?_
   exact zc rfl rfl rfl rfl ((hO.pushSet _ _).set hO.1 _)
  | false=>
   subst hw
   refine zP tT ?_; refine zCy i (zk f) hv1 rfl hfm (fun p hp=>?_)
   refine zw (zk f) hp rfl ?_; refine zF (v:=zk f) (AV.cells (zk f)) zC rfl rfl rfl rfl ?_; refine zB (AV.str f.text) (zE zC) rfl ?_; refine zI (hs _) ?_; refine zG <| zP tT ?_; refine zM (r:=n + cn) rfl tO ?_; refine zB (AV.str f.text) (zE zC) rfl ?_; refine zI (ha _) ?_; refine zF (v:=AV.str ct) [zK f.col,zK f.row,AV.str ct] (zE zC) rfl rfl rfl rfl ?_; refine zB (AV.str ct) (zE (zE zC)) rfl ?_
   refine zI (htx _) ?_; refine zU rfl ?_; refine zH ?_
   exact zc rfl rfl rfl rfl ((hO.pushSet _ _).set hO.1 _)
end
end Go.AM
set_option maxRecDepth 20000
namespace Go.AM
section
variable {C : CSpec} {GT : Nat → Option AV}
set_option maxHeartbeats 4000000 in
theorem rrep_ev (hG : ∀ lv l H,view H 3 lv = some (l.map zk) → C zBd [lv] H (zJ (zCW l)) H)
  (hK : ∀ s part new,1 ≤ part.length → s.length ≤ 1000 → part.length ≤ 140737488355328 → new.length ≤ 1000 → ∀ H,C zC3 [.str s,.str part,.str new] H (.tup [zJ (zDJ part new s).1,.str (zDJ part new s).2]) H) (hT : ∀ s H,C zA0 [.str s] H (zJ (zBE s)) H)
  (lv : AV) (l : List Fil) (part new : Bs) (whole : Bool) (H : Heap) (hv : view H 3 lv = some (l.map zk)) : EFun C GT zEU [lv,.str part,.str new,.bool whole] H (.tup [zLE l part new whole,zJ (replM l part new whole),zJ (zCh l part new whole)]) H:=by
 have hlm : (l.map zk).length = l.length:=List.length_map _
 have hg:=hG lv l H hv
 clear hG
 refine zf ?_
 unfold zLE replM
 by_cases c0 : zCW l = 0
 case neg=>
  have hn : zCh l part new whole = zCW l:=if_pos c0
  rw [hn,if_neg c0,if_neg c0]
  clear hK hT
  generalize zCW l = cn at *
  refine zI hg ?_; refine zP (bne_iff_ne.2 tO) ?_
  exact zc rfl rfl rfl rfl (Old.refl _)
 obtain ⟨hl,hok⟩:=zLD c0
 rw [c0] at hg
 by_cases c1 : 200 < part.length
 ·have hn : zCh l part new whole = 4:=by unfold zCh; rw [if_neg tO,if_pos (.inl c1)]
  rw [hn,if_neg (by decide),if_neg (by decide)]
  clear hK hT
  refine zI hg ?_; refine zG <| zP tT <| zH <| zH ?_
  exact zc rfl rfl rfl rfl (Old.refl _)
 by_cases c2 : 200 < new.length
 ·have hn : zCh l part new whole = 4:=by unfold zCh; rw [if_neg tO,if_pos (.inr c2)]
  rw [hn,if_neg (by decide),if_neg (by decide)]
  clear hK hT
  refine zI hg ?_; refine zG <| zN tF <| zG <| zP tT ?_
  exact zc rfl rfl rfl rfl (Old.refl _)
 by_cases hp0 : part = []
 ·have hn : zCh l part new whole = 2:=by unfold zCh; rw [if_neg tO,if_neg tO,if_pos hp0]
  rw [hn,if_neg (by decide),if_neg (by decide)]
  clear hK hT
  refine zI hg ?_; refine zG <| zN tF <| zG <| zN tF <| zP (tE hp0) ?_
  exact zc rfl rfl rfl rfl (Old.refl _)
 have hp : 1 ≤ part.length:=by
  cases part with
  | nil=>exact absurd rfl hp0
  | cons a t=>simp
 have hn : zCh l part new whole = repE part new whole l:=by unfold zCh; rw [if_neg tO,if_neg tO,if_neg hp0]
 rw [hn]
 obtain ⟨e,he⟩ : ∃ e,repE part new whole l = e:=⟨_,rfl⟩
 rw [he]
 refine zI hg ?_; refine zG <| zN tF <| zG <| zN tF <| zN (tN hp0) ?_; refine zBu (fun x : RpS=>[(14,zJ x.i),(13,x.v),(12,zJ x.n),(2,.str new),(1,.str part),(3,.bool whole),(0,lv)]) (fun x H'=>Old H H' ∧ x.i ≤ l.length ∧ Owns H H' x.v 3 ((repO part new whole (l.take x.i)).map zk) ∧ x.n = repM part new whole (l.take x.i) ∧ repE part new whole (l.drop x.i) = e) (fun x=>l.length - x.i) ⟨0,.lst (some true) 0 [],0⟩ rfl ⟨Old.refl _,by simp,.inl ⟨rfl,rfl⟩,rfl,he⟩ (fun ⟨i,v,n⟩ H1 ⟨hO,hi,ho,hnm,hde⟩=>?_)
 dsimp only at hi ho hnm hde ⊢
 have hv1:=view_old hO hv
 by_cases hlt : i < l.length
 case neg=>
  have ht : l.take i = l:=List.take_of_length_le tO
  have hd : l.drop i = []:=List.drop_eq_nil_of_le tO
  rw [ht] at ho hnm
  rw [hd] at hde
  subst hnm
  obtain rfl : e = 0:=hde.symm
  rw [if_pos rfl,if_pos rfl]
  refine zBp hv1 ?_; refine zN tF ?_
  obtain ⟨H3,hz,hO3,_⟩:=ho.frz hO
  exact sRetF rfl rfl (show zDo H.length (.tup [v,zJ (repM part new whole l),zJ 0]) H1 = some (.tup [_,zJ (repM part new whole l),zJ 0],H3) from by simp only [zDo,zIp,hz,zJ]) (by show (AV.tup [lstF 3 _,zJ _,zJ 0]).bel _ = true; generalize (repO part new whole l).map zk = xs; cases xs <;> rfl) hO3
 obtain ⟨f,hf⟩ : ∃ f,l[i]? = some f:=⟨_,List.getElem?_eq_getElem hlt⟩
 have hfm : (l.map zk)[i]? = some (zk f):=by rw [List.getElem?_map,hf]; rfl
 have hfo:=hok f (List.mem_of_getElem? hf)
 have hft : f.text.length ≤ 200:=hfo.2.2
 have hk:=fun H=>hK f.text part new hp tO tO tO H
 have hot:=repO_take (part:=part) (new:=new) (whole:=whole) l i f hf
 have hmt:=repM_take (part:=part) (new:=new) (whole:=whole) l i f hf
 have hed:=repE_drop (part:=part) (new:=new) (whole:=whole) l i f hf
 have hfl : (repO part new whole (l.take i)).length ≤ 200:=by
  have:=repO_len (part:=part) (new:=new) (whole:=whole) (l.take i)
  rw [List.length_take] at this
  omega
 have hml : n ≤ 40000:=by
  have h1:=repM_le (part:=part) (new:=new) (whole:=whole) hp (l.take i) fun g hg=>(hok g (List.mem_of_mem_take hg)).2.2
  have h2 : (l.take i).length ≤ 200:=by rw [List.length_take]; omega
  have : 200 * (l.take i).length ≤ 200 * 200:=Nat.mul_le_mul_left _ h2
  omega
 have hcl:=(cnt_le part new hp _ f.text (Nat.le_refl _)).1
 rw [hed] at hde
 rw [← hnm] at hmt
 clear hK
 by_cases cA : whole = true ∧ f.text ≠ part
 ·obtain ⟨rfl,hne⟩:=cA
  have hrc : repC part new true f = (0,f.text):=if_pos ⟨rfl,hne⟩
  have hre : zHL part new true f = 0:=by unfold zHL; rw [hrc]; rfl
  rw [hre,if_pos rfl] at hde
  rw [hrc] at hmt hot
  have hrf : repF part new true f = f:=by unfold repF; rw [hrc]
  rw [hrf] at hot
  by_cases ht : f.text = []
  ·rw [if_pos ht,List.append_nil] at hot
   refine zBp hv1 ?_; refine zP tT ?_; refine zCy i (zk f) hv1 rfl hfm (fun p hp=>?_)
   refine zw (zk f) hp rfl ?_; refine zF (v:=zk f) (AV.cells (zk f)) zC rfl rfl rfl rfl ?_; refine zG ?_; refine zB (AV.str f.text) (zE zC) rfl ?_; refine zG <| zN (tN hne) ?_; refine zB (AV.str f.text) (zE zC) rfl ?_; refine zN (bne_eq_false_iff_eq.2 ht) ?_; refine zM (r:=i + 1) rfl tO ?_; refine zAM (RpS.mk (i + 1) v n) rfl ⟨hO.pushSet _ _,by simp only; omega,by rw [hot]; exact ho.pushSet _ _,hmt.symm,hde⟩ (by simp only; omega)
  ·rw [if_neg ht] at hot
   refine zBp hv1 ?_; refine zP tT ?_; refine zCy i (zk f) hv1 rfl hfm (fun p hp=>?_)
   refine zw (zk f) hp rfl ?_; refine zF (v:=zk f) (AV.cells (zk f)) zC rfl rfl rfl rfl ?_; refine zG ?_; refine zB (AV.str f.text) (zE zC) rfl ?_; refine zG <| zN (tN hne) ?_; refine zB (AV.str f.text) (zE zC) rfl ?_; refine zP (bne_iff_ne.2 ht) ?_; refine zB (zk f) (zE zC) rfl ?_; refine zAi (vs':=[zk f]) rfl rfl ?_; refine zBT (H0:=H) (ys:=[zk f]) ((ho.pushSet _ _).push _) ((hO.pushSet _ _).push _) zAp (by decide) (by simp only [List.length_map,List.length_cons,List.length_nil]; omega) (by simp) (fun v' H' ho' hO' _ _=>?_)
   have ho' : Owns H H' v' 3 ((repO part new true (l.take (i + 1))).map zk):=by rw [hot,List.map_append]; exact ho'
   refine zM (r:=i + 1) rfl tO ?_; refine zAM (RpS.mk (i + 1) v' n) rfl ⟨hO',by simp only; omega,ho',hmt.symm,hde⟩ (by simp only; omega)
 have hself : whole = true → f.text = part:=fun h=>Classical.byContradiction fun h2=>cA ⟨h,h2⟩
 by_cases cB : 0 < (zDJ part new f.text).1
 case neg=>
  have hw : whole = false:=by
   cases hw : whole with
   | false=>rfl
   | true=>
    rw [hself hw,zKC part new hp] at cB
    exact absurd (by decide : 0 < 1) cB
  subst hw
  have hrc : repC part new false f = (0,f.text):=by unfold repC; rw [if_neg cA,if_neg cB]
  have hre : zHL part new false f = 0:=by unfold zHL; rw [hrc]; rfl
  rw [hre,if_pos rfl] at hde
  rw [hrc] at hmt hot
  have hrf : repF part new false f = f:=by unfold repF; rw [hrc]
  rw [hrf] at hot
  generalize (zDJ part new f.text).1 = cn at *
  generalize (zDJ part new f.text).2 = ct at *
  obtain rfl : cn = 0:=by omega
  by_cases ht : f.text = []
  ·rw [if_pos ht,List.append_nil] at hot
   refine zBp hv1 ?_; refine zP tT ?_; refine zCy i (zk f) hv1 rfl hfm (fun p hp=>?_)
   refine zw (zk f) hp rfl ?_; refine zF (v:=zk f) (AV.cells (zk f)) zC rfl rfl rfl rfl ?_; refine zH <| zH <| zH ?_; refine zB (AV.str f.text) (zE zC) rfl ?_; refine zI (hk _) ?_; refine zU rfl ?_; refine zU rfl ?_; refine zM (r:=n) rfl tO ?_; refine zN tF ?_; refine zB (AV.str f.text) (zE zC) rfl ?_; refine zN (bne_eq_false_iff_eq.2 ht) ?_; refine zM (r:=i + 1) rfl tO ?_; refine zAM (RpS.mk (i + 1) v n) rfl ⟨hO.pushSet _ _,by simp only; omega,by rw [hot]; exact ho.pushSet _ _,hmt.symm,hde⟩ (by simp only; omega)
  ·rw [if_neg ht] at hot
   refine zBp hv1 ?_; refine zP tT ?_; refine zCy i (zk f) hv1 rfl hfm (fun p hp=>?_)
   refine zw (zk f) hp rfl ?_; refine zF (v:=zk f) (AV.cells (zk f)) zC rfl rfl rfl rfl ?_; refine zH <| zH <| zH ?_; refine zB (AV.str f.text) (zE zC) rfl ?_; refine zI (hk _) ?_; refine zU rfl ?_; refine zU rfl ?_; refine zM (r:=n) rfl tO ?_; refine zN tF ?_; refine zB (AV.str f.text) (zE zC) rfl ?_; refine zP (bne_iff_ne.2 ht) ?_; refine zB (zk f) (zE zC) rfl ?_; refine zAi (vs':=[zk f]) rfl rfl ?_
   refine zBT (H0:=H) (ys:=[zk f]) ((ho.pushSet _ _).push _) ((hO.pushSet _ _).push _) zAp (by decide) (by simp only [List.length_map,List.length_cons,List.length_nil]; omega) (by simp) (fun v' H' ho' hO' _ _=>?_)
   have ho' : Owns H H' v' 3 ((repO part new false (l.take (i + 1))).map zk):=by rw [hot,List.map_append]; exact ho'
   refine zM (r:=i + 1) rfl tO ?_; refine zAM (RpS.mk (i + 1) v' n) rfl ⟨hO',by simp only; omega,ho',hmt.symm,hde⟩ (by simp only; omega)
 have hrc : repC part new whole f = zDJ part new f.text:=by unfold repC; rw [if_neg cA,if_pos cB]
 have hre : zHL part new whole f = zBE (zDJ part new f.text).2:=by unfold zHL; rw [hrc,if_pos cB]
 rw [hre] at hde
 have hrf : repF part new whole f = ⟨f.col,f.row,(zDJ part new f.text).2⟩:=by unfold repF; rw [hrc]
 rw [hrf,hrc] at hot
 rw [hrc] at hmt
 have h1 : whole = true → (zDJ part new f.text).1 = 1:=fun h=>by rw [hself h,zKC part new hp]
 have htx:=hT (zDJ part new f.text).2
 clear hT
 generalize (zDJ part new f.text).1 = cn at *
 generalize (zDJ part new f.text).2 = ct at *
 by_cases ce : zBE ct = 0
 ·rw [ce,if_pos rfl] at hde
  rw [ce] at htx
  cases hw : whole with
  | true=>
   subst hw
   obtain rfl:=h1 rfl
   have hps:=hself rfl
   by_cases ht : ct = []
   ·rw [if_pos ht,List.append_nil] at hot
    refine zBp hv1 ?_; refine zP tT ?_; refine zCy i (zk f) hv1 rfl hfm (fun p hp=>?_)
    refine zw (zk f) hp rfl ?_; refine zF (v:=zk f) (AV.cells (zk f)) zC rfl rfl rfl rfl ?_; refine zG ?_; refine zB (AV.str f.text) (zE zC) rfl ?_; refine zG <| zP (tE hps) ?_; refine zB (AV.str f.text) (zE zC) rfl ?_; refine zI (hk _) ?_; refine zU rfl ?_; refine zU rfl ?_; refine zM (r:=n + 1) rfl tO ?_; refine zP tT ?_; refine zI (htx _) ?_; refine zG ?_; refine zF (v:=AV.str ct) [zK f.col,zK f.row,AV.str ct] (zE zC) rfl rfl rfl rfl ?_
    refine zB (AV.str ct) (zE (zE zC)) rfl ?_; refine zN (bne_eq_false_iff_eq.2 ht) ?_; refine zM (r:=i + 1) rfl tO ?_; refine zAM (RpS.mk (i + 1) v (n + 1)) rfl ⟨(hO.pushSet _ _).set hO.1 _,by simp only; omega,by rw [hot]; exact (ho.pushSet _ _).setBox (zE zC) _,hmt.symm,hde⟩ (by simp only; omega)
   ·rw [if_neg ht] at hot
    refine zBp hv1 ?_; refine zP tT ?_; refine zCy i (zk f) hv1 rfl hfm (fun p hp=>?_)
    refine zw (zk f) hp rfl ?_; refine zF (v:=zk f) (AV.cells (zk f)) zC rfl rfl rfl rfl ?_; refine zG ?_; refine zB (AV.str f.text) (zE zC) rfl ?_; refine zG <| zP (tE hps) ?_; refine zB (AV.str f.text) (zE zC) rfl ?_; refine zI (hk _) ?_; refine zU rfl ?_; refine zU rfl ?_; refine zM (r:=n + 1) rfl tO ?_; refine zP tT ?_; refine zI (htx _) ?_; refine zG ?_; refine zF (v:=AV.str ct) [zK f.col,zK f.row,AV.str ct] (zE zC) rfl rfl rfl rfl ?_
    refine zB (AV.str ct) (zE (zE zC)) rfl ?_; refine zP (bne_iff_ne.2 ht) ?_; refine zB (AV.agg [zK f.col,zK f.row,AV.str ct]) (zE (zE zC)) rfl ?_; refine zAi (vs':=[AV.agg [zK f.col,zK f.row,AV.str ct]]) rfl rfl ?_; refine zBT (H0:=H) (ys:=[AV.agg [zK f.col,zK f.row,.str ct]]) (((ho.pushSet _ _).setBox (zE zC) _).push _) (((hO.pushSet _ _).set hO.1 _).push _) zAp (by decide) (by simp only [List.length_map,List.length_cons,List.length_nil]; omega) (by simp) (fun v' H' ho' hO' _ _=>?_)
    have ho' : Owns H H' v' 3 ((repO part new true (l.take (i + 1))).map zk):=by rw [hot,List.map_append]; exact ho'
    refine zM (r:=i + 1) rfl tO ?_; refine zAM (RpS.mk (i + 1) v' (n + 1)) rfl ⟨hO',by simp only; omega,ho',hmt.symm,hde⟩ (by simp only; omega)
  | false=>
   subst hw
   by_cases ht : ct = []
   ·rw [if_pos ht,List.append_nil] at hot
    refine zBp hv1 ?_; refine zP tT ?_; refine zCy i (zk f) hv1 rfl hfm (fun p hp=>?_)
    refine zw (zk f) hp rfl ?_; refine zF (v:=zk f) (AV.cells (zk f)) zC rfl rfl rfl rfl ?_; refine zH <| zH <| zH ?_; refine zB (AV.str f.text) (zE zC) rfl ?_; refine zI (hk _) ?_; refine zU rfl ?_; refine zU rfl ?_; refine zM (r:=n + cn) rfl tO ?_; refine zP tT ?_; refine zI (htx _) ?_; refine zG ?_; refine zF (v:=AV.str ct) [zK f.col,zK f.row,AV.str ct] (zE zC) rfl rfl rfl rfl ?_; refine zB (AV.str ct) (zE (zE zC)) rfl ?_
    refine zN (bne_eq_false_iff_eq.2 ht) ?_; refine zM (r:=i + 1) rfl tO ?_; refine zAM (RpS.mk (i + 1) v (n + cn)) rfl ⟨(hO.pushSet _ _).set hO.1 _,by simp only; omega,by rw [hot]; exact (ho.pushSet _ _).setBox (zE zC) _,hmt.symm,hde⟩ (by simp only; omega)
   ·rw [if_neg ht] at hot
    refine zBp hv1 ?_; refine zP tT ?_; refine zCy i (zk f) hv1 rfl hfm (fun p hp=>?_)
    refine zw (zk f) hp rfl ?_; refine zF (v:=zk f) (AV.cells (zk f)) zC rfl rfl rfl rfl ?_; refine zH <| zH <| zH ?_; refine zB (AV.str f.text) (zE zC) rfl ?_; refine zI (hk _) ?_; refine zU rfl ?_; refine zU rfl ?_; refine zM (r:=n + cn) rfl tO ?_; refine zP tT ?_; refine zI (htx _) ?_; refine zG ?_; refine zF (v:=AV.str ct) [zK f.col,zK f.row,AV.str ct] (zE zC) rfl rfl rfl rfl ?_; refine zB (AV.str ct) (zE (zE zC)) rfl ?_
    refine zP (bne_iff_ne.2 ht) ?_; refine zB (AV.agg [zK f.col,zK f.row,AV.str ct]) (zE (zE zC)) rfl ?_; refine zAi (vs':=[AV.agg [zK f.col,zK f.row,AV.str ct]]) rfl rfl ?_; refine zBT (H0:=H) (ys:=[AV.agg [zK f.col,zK f.row,.str ct]]) (((ho.pushSet _ _).setBox (zE zC) _).push _) (((hO.pushSet _ _).set hO.1 _).push _) zAp (by decide) (by simp only [List.length_map,List.length_cons,List.length_nil]; omega) (by simp) (fun v' H' ho' hO' _ _=>?_)
    have ho' : Owns H H' v' 3 ((repO part new false (l.take (i + 1))).map zk):=by rw [hot,List.map_append]; exact ho'
    refine zM (r:=i + 1) rfl tO ?_; refine zAM (RpS.mk (i + 1) v' (n + cn)) rfl ⟨hO',by simp only; omega,ho',hmt.symm,hde⟩ (by simp only; omega)
 ·rw [if_neg ce] at hde
  rw [hde] at htx ce
  rw [if_neg ce,if_neg ce]
  cases hw : whole with
  | true=>
   subst hw
   obtain rfl:=h1 rfl
   have hps:=hself rfl
   refine zBp hv1 ?_; refine zP tT ?_; refine zCy i (zk f) hv1 rfl hfm (fun p hp=>?_)
   refine zw (zk f) hp rfl ?_; refine zF (v:=zk f) (AV.cells (zk f)) zC rfl rfl rfl rfl ?_; refine zG ?_; refine zB (AV.str f.text) (zE zC) rfl ?_; refine zG <| zP (tE hps) ?_; refine zB (AV.str f.text) (zE zC) rfl ?_; refine zI (hk _) ?_; refine zU rfl ?_; refine zU rfl ?_; refine zM (r:=n + 1) rfl tO ?_; refine zP tT ?_; refine zI (htx _) ?_; refine zP (bne_iff_ne.2 tO) ?_
   exact zc rfl rfl rfl rfl (hO.pushSet _ _)
  | false=>
   subst hw
   refine zBp hv1 ?_; refine zP tT ?_; refine zCy i (zk f) hv1 rfl hfm (fun p hp=>?_)
   refine zw (zk f) hp rfl ?_; refine zF (v:=zk f) (AV.cells (zk f)) zC rfl rfl rfl rfl ?_; refine zH <| zH <| zH ?_; refine zB (AV.str f.text) (zE zC) rfl ?_; refine zI (hk _) ?_; refine zU rfl ?_; refine zU rfl ?_; refine zM (r:=n + cn) rfl tO ?_; refine zP tT ?_; refine zI (htx _) ?_; refine zP (bne_iff_ne.2 tO) ?_
   exact zc rfl rfl rfl rfl (hO.pushSet _ _)
end
end Go.AM
set_option maxRecDepth 20000
namespace Go.AM
def replL (l : List Fil) (part new : Bs) (whole : Bool) : List Fil:=if zCh l part new whole = 0 then repO part new whole l else []
theorem replV_view (l : List Fil) (part new : Bs) (whole : Bool) (H : Heap) : view H 3 (zLE l part new whole) = some ((replL l part new whole).map zk):=by
 unfold zLE replL
 by_cases h : zCh l part new whole = 0
 ·rw [if_pos h,if_pos h]; exact lstF_view _ _ _
 ·rw [if_neg h,if_neg h]; rfl
theorem replL_len (l : List Fil) (part new : Bs) (whole : Bool) : (replL l part new whole).length ≤ 1000000:=by
 unfold replL
 by_cases h : zCh l part new whole = 0
 ·rw [if_pos h]
  have h0 : zCW l = 0:=by
   by_cases h0 : zCW l = 0
   ·exact h0
   ·unfold zCh at h
    rw [if_pos h0] at h
    exact h
  have:=(zLD h0).1
  have:=repO_len (part:=part) (new:=new) (whole:=whole) l
  omega
 ·rw [if_neg h]; exact Nat.zero_le _
section
variable {C : CSpec} {GT : Nat → Option AV}
theorem rplaw_ev (hR : ∀ lv l part new whole H,view H 3 lv = some (l.map zk) → C zB8 [lv,.str part,.str new,.bool whole] H (.tup [zLE l part new whole,zJ (replM l part new whole),zJ (zCh l part new whole)]) H)
  (hK : ∀ lv l part new whole H,view H 3 lv = some (l.map zk) → C zDR [lv,.str part,.str new,.bool whole] H (.tup [zLE l part new whole,zJ (replM l part new whole),eV (zCh l part new whole)]) H)
  (hM : ∀ v w (l : List Fil) n H,view H 3 v = some (l.map zk) → view H 3 w = some (l.map zk) → l.length ≤ 1000000 → C zDS [v,eV n,w,zJ n] H (.bool true) H)
  (lv : AV) (l : List Fil) (part new : Bs) (whole : Bool) (H : Heap) (hv : view H 3 lv = some (l.map zk)) : EFun C GT zDM [lv,.str part,.str new,.bool whole] H (.bool true) H:=by
 have hr:=hR lv l part new whole H hv
 have hk:=hK lv l part new whole H hv
 have hm:=hM _ _ (replL l part new whole) (zCh l part new whole) H (replV_view l part new whole H) (replV_view l part new whole H) (replL_len l part new whole)
 clear hR hK hM
 generalize zLE l part new whole = rv at *
 generalize replM l part new whole = rm at *
 generalize zCh l part new whole = rn at *
 generalize eV rn = re at *
 refine zf ?_; refine zI hr ?_; refine zU rfl ?_; refine zU rfl ?_; refine zU rfl ?_; refine zI hk ?_; refine zU rfl ?_; refine zU rfl ?_; refine zU rfl ?_; refine zI hm ?_; refine zH <| zH ?_
 exact sRetE (v0:=.bool ((rm : Int) == (rm : Int))) (congrArg AV.bool (beq_self_eq_true _).symm) rfl rfl rfl rfl (Old.refl _)
end
end Go.AM
set_option maxRecDepth 100000
namespace Go.Proofs.YtaohficjbicfgaaGreatDoor
open Go.AM
section
variable {m : Int} {ev : Value} (hev : ∃ te pe,ev = .iface te pe)
theorem g_sheets (v w : AV) (l : List Fil) (H : Heap) (hv : view H 3 v = some (l.map zk)) (hw : view H 3 w = some (l.map zk)) (hl : l.length ≤ 1000000) : GQ m ev zCi [v,w] H (.bool true) H:=
 zO mixed zJq (ssheets_ev v w l H hv hw hl)
theorem g_made (v w : AV) (l : List Fil) (n : Nat) (H : Heap) (hv : view H 3 v = some (l.map zk)) (hw : view H 3 w = some (l.map zk)) (hl : l.length ≤ 1000000) : GQ m ev zDS [v,eV n,w,zJ n] H (.bool true) H:=
 zO mixed k_scclaw3_made (made_ev g_errN g_sheets v w l n H hv hw hl)
theorem g_replaced (hev : ∃ te pe,ev = .iface te pe) (lv : AV) (l : List Fil) (part new : Bs) (whole : Bool) (H : Heap) (hv : view H 3 lv = some (l.map zk)) : GQ m ev zB8 [lv,.str part,.str new,.bool whole] H (.tup [zLE l part new whole,zJ (replM l part new whole),zJ (zCh l part new whole)]) H:=
 zO mixed zIS (rrep_ev g_rcheck g_count g_rtext lv l part new whole H hv)
include hev in
theorem g_replace (lv : AV) (l : List Fil) (part new : Bs) (whole : Bool) (H : Heap) (hv : view H 3 lv = some (l.map zk)) : GQ m ev zDR [lv,.str part,.str new,.bool whole] H (.tup [zLE l part new whole,zJ (replM l part new whole),eV (zCh l part new whole)]) H:=
 zO mixed k_find_Replace (krep_ev (g_check hev) (fun s part new H h1 h2=>count_good s part new H h1 h2) (fun s part new H h1 h2 h3=>replace_good s part new H h1 h2 h3) (g_text hev) lv l part new whole H hv)
include hev in
theorem g_findReplaces (lv : AV) (l : List Fil) (part new : Bs) (whole : Bool) (H : Heap) (hv : view H 3 lv = some (l.map zk)) : GQ m ev zDL [lv,.str part,.str new,.bool whole] H (.bool true) H:=
 zO mixed zGI (rplaw_ev (g_replaced hev) (g_replace hev) g_made lv l part new whole H hv)
end
end Go.Proofs.YtaohficjbicfgaaGreatDoor
