/- The reference's parser: tokens. Own work. -/
import Derived.Test.YtaohficjbicfgaaGreatDoorGAm31Rf1
set_option linter.all false
set_option maxRecDepth 20000
namespace Go.AM
def kV (k a e : Nat) (t : Bs) : AV:=.agg [zJ k,zJ a,zJ e,.str t]
def tkAt (s : Bs) (q : Nat) : AV:=match zCF s q with
 | .fin=>kV 0 q q []
 | .word e t=>kV 1 q e t
 | .txt e t=>kV 2 q e t
 | .bad e k=>kV 3 q e (wrongs.getD (k - 1) [])
 | .sign e t=>kV 4 q e t
 | .none=>kV 9 q q []
def tkV (s : Bs) (a : Nat) : AV:=tkAt s (skip s a)
theorem tk_word {s : Bs} {q : Nat} {c : UInt8} (hc : s[q]? = some c) (hw : zu c = true) : tkAt s q = kV 1 q (zB1 s q) (sub s q (zB1 s q)):=by
 unfold tkAt zCF; rw [hc]; simp only [hw,if_true]
theorem tk_txt {s : Bs} {q : Nat} (hc : s[q]? = some 34) : tkAt s q = match quo (s.drop (q + 1)) (q + 1) with
  | some (t,e)=>kV 2 q e t
  | none=>kV 9 q q []:=by
 unfold tkAt zCF; rw [hc]
 have hw : zu 34 = false:=by decide
 simp only [hw,Bool.false_eq_true,if_false,if_true]
 cases quo (s.drop (q + 1)) (q + 1) with
 | none=>rfl
 | some x=>rfl
def bdV (q : Nat) (r : Option (Nat × Nat)) : AV:=match r with
  | some (k,n)=>kV 3 q (q + n) (wrongs.getD (k - 1) [])
  | none=>kV 9 q q []
theorem tk_bad {s : Bs} {q : Nat} (hc : s[q]? = some 35) : tkAt s q = bdV q (zJG (s.drop q) wrongs 1):=by
 unfold tkAt zCF bdV; rw [hc]
 have hw : zu 35 = false:=by decide
 have h1 : ¬ ((35 : UInt8) = 34):=by decide
 simp only [hw,Bool.false_eq_true,if_false,if_true,h1]
 cases zJG (s.drop q) wrongs 1 with
 | none=>rfl
 | some x=>rfl
theorem tk_sign {s : Bs} {q : Nat} {c : UInt8} (hc : s[q]? = some c) (hw : ¬ zu c = true) (h34 : c ≠ 34) (h35 : c ≠ 35) : tkAt s q = kV 4 q (q + (zHo c s[q + 1]?).length) (zHo c s[q + 1]?):=by
 unfold tkAt zCF zHo; rw [hc]
 simp only [hw,if_false,h34,h35]
 cases s[q + 1]? with
 | none=>rfl
 | some d=>
  simp only
  by_cases hx : (c = 60 ∧ d = 62) ∨ (c = 60 ∧ d = 61) ∨ (c = 62 ∧ d = 61)
  ·simp only [if_pos hx]; rfl
  ·simp only [if_neg hx]; rfl
theorem sub_two {s : Bs} {q : Nat} {c d : UInt8} (h1 : s[q]? = some c) (h2 : s[q + 1]? = some d) : sub s q (q + 2) = [c,d]:=by
 unfold sub
 rw [Nat.add_sub_cancel_left,zAw h1,zAw h2]; rfl
theorem sub_one {s : Bs} {q : Nat} {c : UInt8} (h1 : s[q]? = some c) : sub s q (q + 1) = [c]:=by
 unfold sub
 rw [Nat.add_sub_cancel_left,zAw h1]; rfl
structure KSt where
 i : Nat
 v : AV
 acc : Bs
section
variable {C : CSpec} {GT : Nat → Option AV}
set_option maxHeartbeats 4000000 in
theorem rtoken_ev (hW : ∀ c H,C zBF [byV c] H (.bool (zu c)) H) (hR : ∀ H,C zAv [] H (.lst (some false) 1 (wrL.map AV.str)) H)
  (s : Bs) (a : Nat) (H : Heap) (ha : a ≤ s.length) (hl : s.length ≤ 1000) : EFun C GT zD4 [.str s,zJ a] H (tkV s a) H:=by
 obtain ⟨q,hq⟩ : ∃ q,skip s a = q:=⟨_,rfl⟩
 unfold tkV
 rw [hq]
 refine zf ?_; refine zBu (fun k : Nat=>[(1,zJ k),(4,pR H.length),(0,.str s)]) (fun k H'=>H' = H ++ [.box [.int .i64 0,.int .i64 0,.int .i64 0,.str []]] ∧ k ≤ s.length ∧ skip s k = q) (fun k=>s.length - k) a rfl ⟨rfl,ha,hq⟩ (fun k H1 ⟨e,hk,hs⟩=>?_)
 subst e
 clear ha hq
 try dsimp only
 by_cases hlt : k < s.length
 case neg=>
  have hkq : k = q:=by rw [zDH (by rw [List.getElem?_eq_none tO]; simp)] at hs; exact hs
  have e : tkAt s q = kV 0 q q []:=by
   unfold tkAt zCF
   rw [← hkq,List.getElem?_eq_none tO]
  subst hkq
  rw [e]
  clear hW hR
  refine zN tF <| zG <| zG <| zP tE ?_; refine zU (v:=[.int .i64 0,zJ k,zJ k,AV.str []]) rfl ?_; refine zF (v:=AV.agg [.int .i64 0,zJ k,zJ k,AV.str []]) (AV.cells (AV.agg [.int .i64 0,zJ k,zJ k,AV.str []])) zC rfl rfl rfl rfl ?_
  exact zBQ (a:=4) (s:=4) (ag:=true) (o:=0) rfl rfl (zL (zE zC)) rfl rfl rfl (((Old.refl _).push _).set (Nat.le_refl _) _)
 obtain ⟨c,hc⟩ : ∃ c,s[k]? = some c:=⟨_,List.getElem?_eq_getElem hlt⟩
 by_cases h32 : c = 32
 ·subst h32
  rw [zJE hc] at hs
  clear hW hR
  refine zP tT ?_; refine zl rfl hc ?_; refine zH <| zP (tE (by rfl)) ?_; refine zM (r:=k + 1) rfl tO ?_
  exact zAM (k + 1) rfl ⟨rfl,by omega,hs⟩ tO
 have hkq : k = q:=by rw [zDH (by rw [hc]; intro h; exact h32 (Option.some.inj h))] at hs; exact hs
 subst hkq
 clear hs
 have h32' : c.toNat ≠ 32:=fun h=>h32 (UInt8.toNat_inj.1 h)
 have hw:=hW c
 by_cases hwc : zu c = true
 ·rw [tk_word hc hwc]
  have hge:=zJF s k
  have hle:=zGr hk
  rw [hwc] at hw
  clear hR
  refine zP tT ?_; refine zl rfl hc ?_; refine zH <| zN tN <| zN tN ?_; refine zl rfl hc ?_; refine zI (hw _) ?_; refine zH ?_; refine zBu (fun j : Nat=>[(7,zJ j),(4,pR H.length),(1,zJ k),(0,.str s)]) (fun j H'=>H' = H ++ [.box [.int .i64 0,.int .i64 0,.int .i64 0,.str []]] ∧ k ≤ j ∧ j ≤ s.length ∧ zB1 s j = zB1 s k) (fun j=>s.length - j) k rfl ⟨rfl,Nat.le_refl _,hk,rfl⟩ (fun j H1 ⟨e,hkj,hj,hs⟩=>?_)
  subst e
  clear hw
  try dsimp only
  by_cases hjl : j < s.length
  ·obtain ⟨c2,hc2⟩ : ∃ c,s[j]? = some c:=⟨_,List.getElem?_eq_getElem hjl⟩
   have hw2:=hW c2
   clear hW
   by_cases hwc2 : zu c2 = true
   ·rw [zFP hc2 hwc2] at hs
    rw [hwc2] at hw2
    refine zP tT ?_; refine zl rfl hc2 ?_; refine zI (hw2 _) ?_; refine zH <| zH ?_; refine zM (r:=j + 1) rfl tO ?_
    exact zAM (j + 1) rfl ⟨rfl,by omega,by omega,hs⟩ tO
   ·have hwc2:=Bool.eq_false_iff.2 hwc2
    rw [zFQ (fun c' h=>by rw [hc2] at h; cases h; exact hwc2)] at hs
    rw [hwc2] at hw2
    rw [← hs]
    refine zP tT ?_; refine zl rfl hc2 ?_; refine zI (hw2 _) ?_; refine zH <| zG ?_; refine zU (zBy s k j hkj hj) ?_; refine zU (v:=[.int .i64 1,zJ k,zJ j,AV.str (sub s k j)]) rfl ?_; refine zF (v:=AV.agg [.int .i64 1,zJ k,zJ j,AV.str (sub s k j)]) (AV.cells (AV.agg [.int .i64 1,zJ k,zJ j,AV.str (sub s k j)])) zC rfl rfl rfl rfl ?_
    exact zBQ (a:=4) (s:=4) (ag:=true) (o:=0) rfl rfl (zL (zE zC)) rfl rfl rfl (((Old.refl _).push _).set (Nat.le_refl _) _)
  ·rw [zFQ (fun c' h=>by rw [List.getElem?_eq_none tO] at h; cases h)] at hs
   rw [← hs]
   clear hW
   refine zN tF <| zG <| zG ?_; refine zU (zBy s k j hkj hj) ?_; refine zU (v:=[.int .i64 1,zJ k,zJ j,AV.str (sub s k j)]) rfl ?_; refine zF (v:=AV.agg [.int .i64 1,zJ k,zJ j,AV.str (sub s k j)]) (AV.cells (AV.agg [.int .i64 1,zJ k,zJ j,AV.str (sub s k j)])) zC rfl rfl rfl rfl ?_
   exact zBQ (a:=4) (s:=4) (ag:=true) (o:=0) rfl rfl (zL (zE zC)) rfl rfl rfl (((Old.refl _).push _).set (Nat.le_refl _) _)
 have hwf:=Bool.eq_false_iff.2 hwc
 rw [hwf] at hw
 by_cases h34 : c = 34
 ·subst h34
  rw [tk_txt hc]
  obtain ⟨r,hr⟩ : ∃ r,quo (s.drop (k + 1)) (k + 1) = r:=⟨_,rfl⟩
  rw [hr]
  clear hR hW
  refine zP tT ?_; refine zl rfl hc ?_; refine zH <| zN (tN (by first | decide | omega)) <| zN (tN (by first | decide | omega)) ?_; refine zl rfl hc ?_; refine zI (hw _) ?_; refine zN (tN (by first | decide | omega)) <| zP (tE (by rfl)) ?_; refine zM (r:=k + 1) rfl tO ?_; refine zBu (fun x : KSt=>[(9,zJ x.i),(8,x.v),(4,pR H.length),(1,zJ k),(0,.str s)])
   (fun x H'=>Owns (H ++ [ABlk.box [.int .i64 0,.int .i64 0,.int .i64 0,.str []]]) H' x.v 1 (x.acc.map zAa) ∧ Old (H ++ [ABlk.box [.int .i64 0,.int .i64 0,.int .i64 0,.str []]]) H' ∧ x.i ≤ s.length ∧ x.acc.length ≤ x.i ∧ (quo (s.drop x.i) x.i).map (fun p=>(x.acc ++ p.1,p.2)) = r)
   (fun x=>s.length - x.i) ⟨k + 1,.lst (some true) 0 [],[]⟩ rfl ⟨.inl ⟨rfl,rfl⟩,Old.refl _,by simp only; omega,by simp,by simp only [List.nil_append]; rw [hr]; cases r <;> rfl⟩ (fun ⟨i,v,acc⟩ H1 ⟨how,hO,hi,hal,hq⟩=>?_)
  dsimp only at how hO hi hal hq ⊢
  clear hw hr
  have h4 : H1[H.length]? = some (.box [.int .i64 0,.int .i64 0,.int .i64 0,.str []]):=by rw [hO.2 H.length (by simp)]; exact zC
  have hOH : Old H H1:=⟨by have:=hO.1; simp at this; omega,fun c hc=>by rw [hO.2 c (by simp; omega)]; exact List.getElem?_append_left hc⟩
  by_cases hil : i < s.length
  case neg=>
   have e : r = none:=by rw [← hq,List.drop_eq_nil_of_le tO]; rfl
   subst e
   refine zN tF ?_; refine zU (v:=[.int .i64 9,zJ k,zJ k,AV.str []]) rfl ?_; refine zF (v:=AV.agg [.int .i64 9,zJ k,zJ k,AV.str []]) (AV.cells (AV.agg [.int .i64 9,zJ k,zJ k,AV.str []])) h4 rfl rfl rfl rfl ?_
   exact zBQ (a:=4) (s:=4) (ag:=true) (o:=0) rfl rfl (zL (zE h4)) rfl rfl rfl (hOH.set (Nat.le_refl _) _)
  obtain ⟨c,hci⟩ : ∃ c,s[i]? = some c:=⟨_,List.getElem?_eq_getElem hil⟩
  rw [zAw hci] at hq
  by_cases h34 : c = 34
  ·subst h34
   by_cases hend : i + 1 < s.length ∧ s[i + 1]? = some 34
   ·obtain ⟨hlt2,hc2⟩:=hend
    rw [zAw hc2,quo_dbl,Option.map_map] at hq
    refine zP tT ?_; refine zl rfl hci ?_; refine zP (tE (by rfl)) ?_; refine zM (r:=i + 1) rfl tO ?_; refine zP tT ?_; refine zM (r:=i + 1) rfl tO ?_; refine zl rfl hc2 ?_; refine zH <| zP (tE (by rfl)) ?_; refine zAi (vs':=[AV.int IntKind.u8 34]) rfl rfl ?_; refine zBT (H0:=H ++ [ABlk.box [.int .i64 0,.int .i64 0,.int .i64 0,.str []]]) (how.push _) (hO.push _) zAp tO (by simp only [List.length_map,List.length_cons,List.length_nil]; omega) (by simp) fun v' H' ho' hH' hb' hf=>?_
    refine zM (r:=i + 2) rfl tO ?_; refine zAM (KSt.mk (i + 2) v' (acc ++ [34])) rfl ⟨by rw [List.map_append]; exact ho',hH',by simp only; omega,by simp only [List.length_append,List.length_cons,List.length_nil]; omega, ?_⟩ (by simp only; omega)
    rw [← hq]
    simp only [List.append_assoc,List.singleton_append]
    rfl
   ·rw [quo_end (by
     intro e
     have hlt2 : i + 1 < s.length:=by
      rcases Nat.lt_or_ge (i + 1) s.length with h | h
      ·exact h
      ·rw [List.drop_eq_nil_of_le h] at e; cases e
     refine hend ⟨hlt2, ?_⟩
     rw [List.head?_drop] at e
     exact e)] at hq
    subst hq
    have e0 : (match (Option.map (fun p : Bs × Nat=>(acc ++ p.1,p.2)) (some ([],i + 1))) with
     | some (t,e)=>kV 2 k e t
     | none=>kV 9 k k []) = kV 2 k (i + 1) acc:=by simp
    rw [e0]
    by_cases hlt2 : i + 1 < s.length
    ·obtain ⟨c2,hc2⟩ : ∃ c,s[i + 1]? = some c:=⟨_,List.getElem?_eq_getElem hlt2⟩
     have hn : c2.toNat ≠ 34:=fun e=>hend ⟨hlt2,by rw [hc2,show c2 = 34 from UInt8.toNat_inj.1 e]⟩
     refine zP tT ?_; refine zl rfl hci ?_; refine zP (tE (by rfl)) ?_; refine zM (r:=i + 1) rfl tO ?_; refine zP tT ?_; refine zM (r:=i + 1) rfl tO ?_; refine zl rfl hc2 ?_; refine zH <| zN tN ?_; refine zM (r:=i + 1) rfl tO ?_; refine zGb how ?_; refine zU (v:=[.int .i64 2,zJ k,.int .i64 ↑(i + 1),AV.str acc]) rfl ?_; refine zF (v:=AV.agg [.int .i64 2,zJ k,.int .i64 ↑(i + 1),AV.str acc]) (AV.cells (AV.agg [.int .i64 2,zJ k,.int .i64 ↑(i + 1),AV.str acc])) h4 rfl rfl rfl rfl ?_
     exact zBQ (a:=4) (s:=4) (ag:=true) (o:=0) rfl rfl (zL (zE h4)) rfl rfl rfl (hOH.set (Nat.le_refl _) _)
    ·refine zP tT ?_; refine zl rfl hci ?_; refine zP (tE (by rfl)) ?_; refine zM (r:=i + 1) rfl tO ?_; refine zN tF <| zG <| zG ?_; refine zM (r:=i + 1) rfl tO ?_; refine zGb how ?_; refine zU (v:=[.int .i64 2,zJ k,.int .i64 ↑(i + 1),AV.str acc]) rfl ?_; refine zF (v:=AV.agg [.int .i64 2,zJ k,.int .i64 ↑(i + 1),AV.str acc]) (AV.cells (AV.agg [.int .i64 2,zJ k,.int .i64 ↑(i + 1),AV.str acc])) h4 rfl rfl rfl rfl ?_
     exact zBQ (a:=4) (s:=4) (ag:=true) (o:=0) rfl rfl (zL (zE h4)) rfl rfl rfl (hOH.set (Nat.le_refl _) _)
  ·have hn : c.toNat ≠ 34:=fun e=>h34 (UInt8.toNat_inj.1 e)
   rw [quo_chr h34,Option.map_map] at hq
   refine zP tT ?_; refine zl rfl hci ?_; refine zN tN ?_; refine zl rfl hci ?_; refine zAi (vs':=[zAa c]) rfl rfl ?_; refine zBT (H0:=H ++ [ABlk.box [.int .i64 0,.int .i64 0,.int .i64 0,.str []]]) (how.push _) (hO.push _) zAp tO (by simp only [List.length_map,List.length_cons,List.length_nil]; omega) (by simp) fun v' H' ho' hH' hb' hf=>?_; refine zM (r:=i + 1) rfl tO ?_; refine zAM (KSt.mk (i + 1) v' (acc ++ [c])) rfl ⟨by rw [List.map_append]; exact ho',hH',by simp only; omega,by simp only [List.length_append,List.length_cons,List.length_nil]; omega, ?_⟩ (by simp only; omega)
   rw [← hq]
   simp only [List.append_assoc,List.singleton_append]
   rfl
 by_cases h35 : c = 35
 ·subst h35
  rw [tk_bad hc]
  clear hW
  refine zP tT ?_; refine zl rfl hc ?_; refine zH <| zN (tN (by first | decide | omega)) <| zN (tN (by first | decide | omega)) ?_; refine zl rfl hc ?_; refine zI (hw _) ?_; refine zN (tN (by first | decide | omega)) <| zN (tN (by first | decide | omega)) <| zP (tE (by rfl)) ?_; refine zI (hR _) ?_
  obtain ⟨r,hr⟩ : ∃ r,bdV k (zJG (s.drop k) wrongs 1) = r:=⟨_,rfl⟩
  rw [hr]
  have hwl : (List.map AV.str wrL).length = 7:=rfl
  refine zBu (fun i : Nat=>[(4,pR H.length),(11,zJ i),(10,.lst (some false) 1 (wrL.map AV.str)),(1,zJ k),(0,.str s)]) (fun i H'=>H' = H ++ [.box [.int .i64 0,.int .i64 0,.int .i64 0,.str []]] ∧ 1 ≤ i ∧ i ≤ 7 ∧ bdV k (zJG (s.drop k) (wrongs.drop (i - 1)) i) = r) (fun i=>7 - i) 1 rfl ⟨rfl,by omega,by omega,hr⟩ (fun i H1 ⟨e,h1,hi,hq⟩=>?_)
  subst e
  clear hw hR hr
  try dsimp only
  by_cases hlt7 : i < 7
  ·obtain ⟨t,ht⟩ : ∃ t,wrL[i]? = some t:=⟨_,List.getElem?_eq_getElem hlt7⟩
   have htm : (wrL.map AV.str)[i]? = some (AV.str t):=by rw [List.getElem?_map,ht]; rfl
   have htl : t.length ≤ 10:=by
    rcases i with _ | _ | _ | _ | _ | _ | _ | i
    all_goals first | (cases ht; decide) | omega
   have hdr : wrongs.drop (i - 1) = t :: wrongs.drop i:=by
    obtain ⟨j,rfl⟩ : ∃ j,i = j + 1:=⟨i - 1,by omega⟩
    rw [Nat.add_sub_cancel,List.drop_eq_getElem_cons (by have : wrongs.length = 6:=rfl; omega)]
    have ht' : wrongs[j]? = some t:=ht
    rw [(zg ht').2]
   have hgd : wrongs.getD (i - 1) [] = t:=by
    obtain ⟨j,rfl⟩ : ∃ j,i = j + 1:=⟨i - 1,by omega⟩
    have ht' : wrongs[j]? = some t:=ht
    rw [Nat.add_sub_cancel,List.getD_eq_getElem?_getD,ht']; rfl
   rw [hdr] at hq
   unfold zJG at hq
   have hnx : wrongs.drop i = wrongs.drop (i + 1 - 1):=rfl
   by_cases hle : k + t.length ≤ s.length
   ·have hsl:=zBy s k (k + t.length) tO hle
    have hst : sub s k (k + t.length) = (s.drop k).take t.length:=by unfold sub; rw [Nat.add_sub_cancel_left]
    rw [hst] at hsl
    by_cases he : (s.drop k).take t.length = t
    ·rw [if_pos he] at hq
     have hq : kV 3 k (k + t.length) t = r:=by rw [← hq]; show kV 3 k (k + t.length) t = kV 3 k (k + t.length) (wrongs.getD (i - 1) []); rw [hgd]
     subst hq
     refine sLenL ?_; refine zP tT ?_; refine sIdx rfl htm ?_; refine zz (.str t) rfl ?_; refine zM (r:=k + t.length) rfl tO ?_; refine zP tT ?_; refine zM (r:=k + t.length) rfl tO ?_; refine zU hsl ?_; refine sIdx rfl htm ?_; refine zz (.str t) rfl ?_; refine zH <| zP (tE he) ?_; refine zM (r:=k + t.length) rfl tO ?_; refine sIdx rfl htm ?_; refine zz (.str t) rfl ?_; refine zU (v:=[.int .i64 3,zJ k,.int .i64 ↑(k + List.length t),AV.str t]) rfl ?_
     refine zF (v:=AV.agg [.int .i64 3,zJ k,.int .i64 ↑(k + List.length t),AV.str t]) (AV.cells (AV.agg [.int .i64 3,zJ k,.int .i64 ↑(k + List.length t),AV.str t])) zC rfl rfl rfl rfl ?_
     exact zBQ (a:=4) (s:=4) (ag:=true) (o:=0) rfl rfl (zL (zE zC)) rfl rfl rfl (((Old.refl _).push _).set (Nat.le_refl _) _)
    ·rw [if_neg he] at hq
     refine sLenL ?_; refine zP tT ?_; refine sIdx rfl htm ?_; refine zz (.str t) rfl ?_; refine zM (r:=k + t.length) rfl tO ?_; refine zP tT ?_; refine zM (r:=k + t.length) rfl tO ?_; refine zU hsl ?_; refine sIdx rfl htm ?_; refine zz (.str t) rfl ?_; refine zH <| zN (tN he) ?_; refine zM (r:=i + 1) rfl tO ?_
     exact zAM (i + 1) rfl ⟨rfl,by omega,by omega,hq⟩ tO
   ·have he : ¬ (s.drop k).take t.length = t:=fun e=>by
     have:=congrArg List.length e
     rw [List.length_take,List.length_drop] at this
     omega
    rw [if_neg he] at hq
    refine sLenL ?_; refine zP tT ?_; refine sIdx rfl htm ?_; refine zz (.str t) rfl ?_; refine zM (r:=k + t.length) rfl tO ?_; refine zN tF <| zG <| zG ?_; refine zM (r:=i + 1) rfl tO ?_
    exact zAM (i + 1) rfl ⟨rfl,by omega,by omega,hq⟩ tO
  ·have e7 : i = 7:=by omega
   subst e7
   have hq : kV 9 k k [] = r:=hq
   subst hq
   refine sLenL ?_; refine zN (tF (by decide)) ?_; refine zU (v:=[.int .i64 9,zJ k,zJ k,AV.str []]) rfl ?_; refine zF (v:=AV.agg [.int .i64 9,zJ k,zJ k,AV.str []]) (AV.cells (AV.agg [.int .i64 9,zJ k,zJ k,AV.str []])) zC rfl rfl rfl rfl ?_
   exact zBQ (a:=4) (s:=4) (ag:=true) (o:=0) rfl rfl (zL (zE zC)) rfl rfl rfl (((Old.refl _).push _).set (Nat.le_refl _) _)
 rw [tk_sign hc hwc h34 h35]
 clear hW hR
 have h34' : c.toNat ≠ 34:=fun h=>h34 (UInt8.toNat_inj.1 h)
 have h35' : c.toNat ≠ 35:=fun h=>h35 (UInt8.toNat_inj.1 h)
 by_cases h2 : k + 2 ≤ s.length
 ·obtain ⟨d,hd⟩ : ∃ d,s[k + 1]? = some d:=⟨_,List.getElem?_eq_getElem tO⟩
  have h2s:=zBy s k (k + 2) tO h2
  have h1s:=zBy s k (k + 1) tO tO
  rw [sub_two hc hd] at h2s
  rw [sub_one hc] at h1s
  rw [hd]
  unfold zHo
  simp only
  by_cases hx : (c = 60 ∧ d = 62) ∨ (c = 60 ∧ d = 61) ∨ (c = 62 ∧ d = 61)
  ·rw [if_pos hx]
   rcases hx with ⟨rfl,rfl⟩ | ⟨rfl,rfl⟩ | ⟨rfl,rfl⟩
   ·refine zP tT ?_; refine zl rfl hc ?_; refine zH <| zN (tN (by first | decide | omega)) <| zN (tN (by first | decide | omega)) ?_; refine zl rfl hc ?_; refine zI (hw _) ?_; refine zN (tN (by first | decide | omega)) <| zN (tN (by first | decide | omega)) <| zN (tN (by first | decide | omega)) ?_; refine zM (r:=k + 2) rfl tO ?_; refine zP tT ?_; refine zM (r:=k + 2) rfl tO ?_; refine zU h2s ?_
    refine zH <| zH <| zH <| zH <| zH ?_; refine zM (r:=k + 2) rfl tO ?_; refine zU (v:=[.int .i64 4,zJ k,.int .i64 ↑(k + 2),AV.str [60,62]]) rfl ?_; refine zF (v:=AV.agg [.int .i64 4,zJ k,.int .i64 ↑(k + 2),AV.str [60,62]]) (AV.cells (AV.agg [.int .i64 4,zJ k,.int .i64 ↑(k + 2),AV.str [60,62]])) zC rfl rfl rfl rfl ?_
    exact zBQ (a:=4) (s:=4) (ag:=true) (o:=0) rfl rfl (zL (zE zC)) rfl rfl rfl (((Old.refl _).push _).set (Nat.le_refl _) _)
   ·refine zP tT ?_; refine zl rfl hc ?_; refine zH <| zN (tN (by first | decide | omega)) <| zN (tN (by first | decide | omega)) ?_; refine zl rfl hc ?_; refine zI (hw _) ?_; refine zN (tN (by first | decide | omega)) <| zN (tN (by first | decide | omega)) <| zN (tN (by first | decide | omega)) ?_; refine zM (r:=k + 2) rfl tO ?_; refine zP tT ?_; refine zM (r:=k + 2) rfl tO ?_; refine zU h2s ?_
    refine zN (tN (by first | decide | omega)) <| zN (tN (by first | decide | omega)) <| zH <| zH <| zH ?_; refine zM (r:=k + 2) rfl tO ?_; refine zU (v:=[.int .i64 4,zJ k,.int .i64 ↑(k + 2),AV.str [60,61]]) rfl ?_; refine zF (v:=AV.agg [.int .i64 4,zJ k,.int .i64 ↑(k + 2),AV.str [60,61]]) (AV.cells (AV.agg [.int .i64 4,zJ k,.int .i64 ↑(k + 2),AV.str [60,61]])) zC rfl rfl rfl rfl ?_
    exact zBQ (a:=4) (s:=4) (ag:=true) (o:=0) rfl rfl (zL (zE zC)) rfl rfl rfl (((Old.refl _).push _).set (Nat.le_refl _) _)
   ·refine zP tT ?_; refine zl rfl hc ?_; refine zH <| zN (tN (by first | decide | omega)) <| zN (tN (by first | decide | omega)) ?_; refine zl rfl hc ?_; refine zI (hw _) ?_; refine zN (tN (by first | decide | omega)) <| zN (tN (by first | decide | omega)) <| zN (tN (by first | decide | omega)) ?_; refine zM (r:=k + 2) rfl tO ?_; refine zP tT ?_; refine zM (r:=k + 2) rfl tO ?_; refine zU h2s ?_
    refine zN (tN (by first | decide | omega)) <| zN (tN (by first | decide | omega)) <| zN (tN (by first | decide | omega)) <| zN (tN (by first | decide | omega)) <| zH ?_; refine zM (r:=k + 2) rfl tO ?_; refine zU (v:=[.int .i64 4,zJ k,.int .i64 ↑(k + 2),AV.str [62,61]]) rfl ?_; refine zF (v:=AV.agg [.int .i64 4,zJ k,.int .i64 ↑(k + 2),AV.str [62,61]]) (AV.cells (AV.agg [.int .i64 4,zJ k,.int .i64 ↑(k + 2),AV.str [62,61]])) zC rfl rfl rfl rfl ?_
    exact zBQ (a:=4) (s:=4) (ag:=true) (o:=0) rfl rfl (zL (zE zC)) rfl rfl rfl (((Old.refl _).push _).set (Nat.le_refl _) _)
  ·rw [if_neg hx,show k + ([c] : Bs).length = k + 1 from rfl]
   have n1 : ([c,d] == ([60,62] : Bs)) = false:=tN fun e=>hx (by simp only [List.cons.injEq,and_true] at e; exact .inl e)
   have n2 : ([c,d] == ([60,61] : Bs)) = false:=tN fun e=>hx (by simp only [List.cons.injEq,and_true] at e; exact .inr (.inl e))
   have n3 : ([c,d] == ([62,61] : Bs)) = false:=tN fun e=>hx (by simp only [List.cons.injEq,and_true] at e; exact .inr (.inr e))
   refine zP tT ?_; refine zl rfl hc ?_; refine zH <| zN tN <| zN tN ?_; refine zl rfl hc ?_; refine zI (hw _) ?_; refine zG <| zN tN <| zN tN ?_; refine zM (r:=k + 2) rfl tO ?_; refine zP tT ?_; refine zM (r:=k + 2) rfl tO ?_; refine zU h2s ?_; refine zN n1 ?_; refine zG ?_; refine zN n2 ?_; refine zG ?_; refine zN n3 ?_; refine zM (r:=k + 1) rfl tO ?_; refine zM (r:=k + 1) rfl tO ?_; refine zU h1s ?_
   refine zU (v:=[.int .i64 4,zJ k,.int .i64 ↑(k + 1),AV.str [c]]) rfl ?_; refine zF (v:=AV.agg [.int .i64 4,zJ k,.int .i64 ↑(k + 1),AV.str [c]]) (AV.cells (AV.agg [.int .i64 4,zJ k,.int .i64 ↑(k + 1),AV.str [c]])) zC rfl rfl rfl rfl ?_
   exact zBQ (a:=4) (s:=4) (ag:=true) (o:=0) rfl rfl (zL (zE zC)) rfl rfl rfl (((Old.refl _).push _).set (Nat.le_refl _) _)
 ·have h1s:=zBy s k (k + 1) tO tO
  rw [sub_one hc] at h1s
  have e : zHo c s[k + 1]? = [c]:=by rw [List.getElem?_eq_none tO]; rfl
  rw [e,show k + ([c] : Bs).length = k + 1 from rfl]
  refine zP tT ?_; refine zl rfl hc ?_; refine zH <| zN tN <| zN tN ?_; refine zl rfl hc ?_; refine zI (hw _) ?_; refine zG <| zN tN <| zN tN ?_; refine zM (r:=k + 2) rfl tO ?_; refine zN tF ?_; refine zM (r:=k + 1) rfl tO ?_; refine zM (r:=k + 1) rfl tO ?_; refine zU h1s ?_; refine zU (v:=[.int .i64 4,zJ k,.int .i64 ↑(k + 1),AV.str [c]]) rfl ?_; refine zF (v:=AV.agg [.int .i64 4,zJ k,.int .i64 ↑(k + 1),AV.str [c]]) (AV.cells (AV.agg [.int .i64 4,zJ k,.int .i64 ↑(k + 1),AV.str [c]])) zC rfl rfl rfl rfl ?_
  exact zBQ (a:=4) (s:=4) (ag:=true) (o:=0) rfl rfl (zL (zE zC)) rfl rfl rfl (((Old.refl _).push _).set (Nat.le_refl _) _)
end
end Go.AM
