/- Several texts of mine in one (Rf9, Rfa, Rfb, Rfc). Own work. -/
import Derived.Test.YthllabjbdobpgaaGreatDoorGRf4Rf8
set_option linter.all false
set_option maxRecDepth 20000
namespace Go.AM
structure Bd where
 a : Nat
 w : Int
 e : Int
 d : Int
def Bd.ok (s : Bs) (W : Bd) : Prop:=W.e ≠ 0 ∧ W.a ≤ s.length
def Bd.blk (s : Bs) (W : Bd) : ABlk:=pB s W.a W.w W.e W.d
def LoF (C : CSpec) (b : Nat) (s : Bs) (d l a : Nat) (W : Bd) : Prop:=W.ok s ∧ ∃ n : Nd,∀ H,H[b]? = some (rP s a d) → C zW [pR b,zJ l] H (ndV n) (H.set b (W.blk s))
inductive LF (C : CSpec) (b : Nat) (s : Bs) (d l : Nat) : Nd → Nat → Bd → Prop where
 | now (n : Nd) (a op e : Nat) (W : Bd) (ho : zIg s a = some (op,e)) (ht : ¬ tight op < l) (h : LoF C b s d (tight op + 1) e W) : LF C b s d l n a W
 | later (n m : Nd) (a op e e2 : Nat) (W : Bd) (ho : zIg s a = some (op,e)) (ht : ¬ tight op < l) (h : (P s).loose (tight op + 1) e d = some (m,e2)) (k : LF C b s d l (zHY op n m) e2 W) : LF C b s d l n a W
theorem LF.ok {C : CSpec} {b : Nat} {s : Bs} {d l : Nat} {n : Nd} {a : Nat} {W : Bd} (h : LF C b s d l n a W) : W.ok s:=by
 induction h with
 | now _ _ _ _ _ _ _ h=>exact h.1
 | later _ _ _ _ _ _ _ _ _ _ _ ih=>exact ih
theorem ll_fail {C : CSpec} {b : Nat} {s : Bs} {d l : Nat} (p : Nat) (hLo : ∀ a l',p < a → a ≤ s.length → CF C zW [pR b,zJ l'] b s a d ((P s).loose l' a d)) : ∀ (k : Nat) (n : Nd) (a : Nat),p < a → a ≤ s.length → s.length - a ≤ k → (P s).ll l n a d = none → ∃ W,LF C b s d l n a W:=by
 intro k
 induction k with
 | zero=>
  intro n a hpa ha hk h
  rw [P_ll l n d ha] at h
  unfold psLl at h
  split at h
  ·cases h
  ·rename_i op e ho
   have:=zC2 ho
   omega
 | succ k ih=>
  intro n a hpa ha hk h
  rw [P_ll l n d ha] at h
  unfold psLl at h
  split at h
  ·cases h
  ·rename_i op e ho
   have he:=zC2 ho
   split at h
   ·cases h
   ·rename_i ht
    cases hl : (P s).loose (tight op + 1) e d with
    | none=>
     obtain ⟨n',a',w,e',d',h1,h2,h3⟩:=(hLo e (tight op + 1) tO he.2).2 hl
     exact ⟨⟨a',w,e',d'⟩,.now n a op e _ ho ht ⟨⟨h1,h2⟩,n',h3⟩⟩
    | some q=>
     obtain ⟨m,e2⟩:=q
     rw [hl] at h
     have hq:=(zCE s).loose _ e d _ he.2 hl
     simp only at hq
     obtain ⟨W,hW⟩:=ih (zHY op n m) e2 tO hq.2 tO h
     exact ⟨W,.later n m a op e e2 W ho ht hl hW⟩
structure LSt where
 m : Nat
 a : Nat
 n : Nd
 x : AV
section
variable {C : CSpec} {GT : Nat → Option AV}
def LoR (C : CSpec) (b : Nat) (s : Bs) (d l : Nat) (n : Nd) (a : Nat) (RV : AV) (RB : ABlk) : Prop:=
 (∃ n' e',(P s).ll l n a d = some (n',e') ∧ RV = ndV n' ∧ RB = rP s e' d) ∨ (∃ W : Bd,LF C b s d l n a W ∧ RV = ndV zY ∧ RB = W.blk s)
theorem LoR.stop {b : Nat} {s : Bs} {d l : Nat} {n : Nd} {a : Nat} {RV : AV} {RB : ABlk} (h : LoR C b s d l n a RV RB) (ha : a ≤ s.length) (ho : ∀ op e,zIg s a = some (op,e) → tight op < l) : RV = ndV n ∧ RB = rP s a d:=by
 rcases h with ⟨n',e',h1,h2,h3⟩ | ⟨W,hW,_⟩
 ·rw [P_ll l n d ha] at h1
  unfold psLl at h1
  split at h1
  ·cases h1; exact ⟨h2,h3⟩
  ·rename_i op e hop
   rw [zMg (ho op e hop)] at h1
   cases h1; exact ⟨h2,h3⟩
 ·cases hW with
  | now _ _ op e _ hop ht h=>exact absurd (ho _ _ hop) ht
  | later _ m _ op e e2 _ hop ht h k=>exact absurd (ho _ _ hop) ht
theorem LoR.go {b : Nat} {s : Bs} {d l : Nat} {n : Nd} {a op e : Nat} {RV : AV} {RB : ABlk} (h : LoR C b s d l n a RV RB) (ha : a ≤ s.length) (ho : zIg s a = some (op,e)) (ht : ¬ tight op < l) :
  (∃ m e2,(P s).loose (tight op + 1) e d = some (m,e2) ∧ LoR C b s d l (zHY op n m) e2 RV RB) ∨ (∃ W : Bd,LoF C b s d (tight op + 1) e W ∧ RV = ndV zY ∧ RB = W.blk s):=by
 rcases h with ⟨n',e',h1,h2,h3⟩ | ⟨W,hW,h2,h3⟩
 ·rw [P_ll l n d ha] at h1
  unfold psLl at h1
  rw [ho] at h1
  simp only at h1
  rw [zMe ht,zNH] at h1
  obtain ⟨⟨m,e2⟩,h4,h5⟩:=h1
  exact .inl ⟨m,e2,h4,.inl ⟨n',e',h5,h2,h3⟩⟩
 ·cases hW with
  | now _ _ op' e' _ ho' ht' h=>rw [ho] at ho'; cases ho'; exact .inr ⟨W,h,h2,h3⟩
  | later _ m _ op' e' e2 _ ho' ht' h k=>rw [ho] at ho'; cases ho'; exact .inl ⟨m,e2,h,.inr ⟨W,k,h2,h3⟩⟩
set_option maxHeartbeats 8000000 in
theorem rloose_ev (hT : ∀ s a H,a ≤ s.length → s.length ≤ 1000 → C zV [.str s,zJ a] H (tkV s a) H)
  (hSg : ∀ t H,C zCH [.str t] H (zJ (zBK t)) H) (hTi : ∀ op H,op ≤ 1000 → C zBP [zJ op] H (zJ (tight op)) H)
  (b : Nat) (s : Bs) (p d l : Nat) (hp : p ≤ s.length) (hl : s.length ≤ 200)
  (hLo : ∀ a l' m e,p < a → a ≤ s.length → (P s).loose l' a d = some (m,e) → ∀ H,H[b]? = some (rP s a d) → C zW [pR b,zJ l'] H (ndV m) (H.set b (rP s e d)))
  (n0 : Nd) (e0 : Nat) (hpe : p < e0) (hel : e0 ≤ s.length) (RV : AV) (RB : ABlk) (hRB : ∀ k,zFZ k RB = true) (hRV : ∃ n',RV = ndV n') (hR : LoR C b s d l n0 e0 RV RB)
  (H : Heap) (hb : H[b]? = some (rP s p d)) (ho : ∀ H,H[b]? = some (rP s p d) → C zAI [pR b] H (ndV n0) (H.set b (rP s e0 d))) :
  zCA C GT zBf [pR b,zJ l] H b [] .undef (some (RV,RB)):=by
 have hbl : b < H.length:=(zg hb).1
 have hT:=fun a H h=>hT s a H h tO
 obtain ⟨n',rfl⟩:=hRV
 refine zAE ?_
 clear hp
 refine zp (ho _ hP) (fun h=>by cases h) <| zF (v:=ndV n0) (AV.cells (ndV n0)) zD rfl rfl rfl rfl ?_; refine zBB (fun st : LSt=>[(4,pR H.length),(5,pR st.m),(0,pR b),(1,zJ l)])
  (fun st H'=>(st.m = H.length + 1 ∧ H'[H.length]? = some (.box (ndC zY)) ∧ H'[H.length + 1]? = some (.box (ndX st.n st.x)) ∧ NdO H H' st.n st.x) ∧
   ((OldB H b (rP s st.a d) H' ∧ H'[b]? = some (rP s st.a d) ∧ st.a ≤ s.length ∧ p < st.a ∧ LoR C b s d l st.n st.a (ndV n') RB) ∨ (∃ W : Bd,W.ok s ∧ OldB H b (W.blk s) H' ∧ H'[b]? = some (W.blk s) ∧ ndV n' = ndV zY ∧ RB = W.blk s ∧ st.a = s.length + 1)))
  (fun st=>s.length + 1 - st.a) ⟨_,e0,n0,.lst (some n0.kq) n0.kk (kxs n0)⟩ rfl ⟨⟨(by simp),hP,(by rw [show H.length + 1 = ((H ++ [ABlk.box (ndC zY)]).set b (rP s e0 d)).length from by simp]; exact hP),.inl rfl⟩,.inl ⟨((((((OldB.start hb).push _).setB _).push _).set (by simp) _)),hP,hel,hpe,hR⟩⟩ (fun ⟨m,a,n,x⟩ H1 ⟨⟨hm,h4,h5,hnd⟩,hst⟩=>?_)
 dsimp only at hm h4 h5 hnd hst ⊢
 subst hm
 clear ho hR hb hpe hel
 have h5l:=(zg h5).1
 rcases hst with ⟨hob,hb1,ha,hpa,hR⟩ | ⟨W,hW,hob,hb1,hv,hB,hae⟩
 case inr=>
  have hb1' : H1[b]? = some (.box [.str s,zK W.a,zK W.w,zK W.e,zK W.d]):=hb1
  have hwe:=hW.1
  rw [hv,hB]
  clear hLo hT hSg hTi
  refine zB (zK W.e) hb1' rfl <| zO (tN hwe) <| zS (v:=zV0) rfl <| zF (v:=AV.agg zV0) (AV.cells (AV.agg zV0)) h4 rfl rfl rfl rfl ?_
  exact z8 (o:=0) (ndV zY) rfl rfl rfl (zL hP) rfl rfl rfl (by repeat' (first | assumption | exact ⟨_,hob⟩ | apply zAO | apply zAP | refine zAi ?_ tC _ | apply OldB.push | apply OldB.setE | refine OldB.set ?_ tC _)) rfl
 have htk:=fun H=>hT a H ha
 rw [zFE] at htk
 have hnd1:=hnd.push (ABlk.box zV4)
 clear hT
 have hle:=zII ha
 by_cases hsg : ∃ e t,tok s a = .sign e t
 ·obtain ⟨e,t,hk⟩:=hsg
  have hoa : zIg s a = if zBK t = 0 then none else some (zBK t,e):=by unfold zIg; rw [hk]
  rw [hk] at htk hle
  have hle : e ≤ s.length:=hle
  have htk : ∀ H,C zV [.str s,zJ a] H (kV 4 (skip s a) e t) H:=htk
  have hs:=fun H=>hSg t H
  have hop : zBK t ≤ 11:=by unfold zBK; repeat' (first | omega | split)
  have hti:=fun H=>hTi (zBK t) H tO
  clear hSg hTi
  by_cases h0 : zBK t = 0
  ·obtain ⟨rv,rb⟩:=hR.stop ha (fun op e' h=>by rw [hoa,zMg h0] at h; cases h)
   rw [rv,rb]
   rw [h0] at hs
   clear hti hLo
   generalize skip s a = q at *
   refine zB (zK 0) hb1 rfl <| zP (tE (by rfl)) <| zB (AV.str s) hb1 rfl <| zB (zK ↑a) hb1 rfl ?_; refine zG7 ?_ ?_
   all_goals
    refine zI (htk _) <| zF (v:=kV 4 q e t) (AV.cells (kV 4 q e t)) zD rfl rfl rfl rfl <| zB (zJ 4) (zE zD) rfl <| zH <| zB (AV.str t) (zE zD) rfl <| zI (hs _) ?_; refine zH <| zH <| zH <| zB (.agg (ndX n x)) hP rfl <| zF (v:=.agg (ndX n x)) (ndX n x) hP rfl hnd.one rfl rfl ?_
    obtain ⟨H4,hz,hl4',hbx,hol⟩:=(((hnd.push (ABlk.box [AV.int .i64 0,.int .i64 0,.int .i64 0,.str []])).set zD (.box (kV 4 q e t).cells)).set (b:=H.length) (cs:=ndC zY) hP (.box (ndX n x))).frz H.length (zMh _)
    exact z8 (o:=0) (.agg (ndX n x)) rfl rfl rfl (zL hP) rfl hz (zHa _ _) ⟨hbl,hol hbl (((hob.push _).set tO _).set (zMh _) _).old⟩ rfl
  ·rw [zMe h0] at hoa
   by_cases hti2 : tight (zBK t) < l
   ·obtain ⟨rv,rb⟩:=hR.stop ha (fun op e' h=>by rw [hoa] at h; cases h; exact hti2)
    rw [rv,rb]
    clear hLo
    generalize skip s a = q at *
    generalize tight (zBK t) = ti at *
    refine zB (zK 0) hb1 rfl <| zP (tE (by rfl)) <| zB (AV.str s) hb1 rfl <| zB (zK ↑a) hb1 rfl ?_; refine zG7 ?_ ?_
    all_goals
     refine zI (htk _) <| zF (v:=kV 4 q e t) (AV.cells (kV 4 q e t)) zD rfl rfl rfl rfl <| zB (zJ 4) (zE zD) rfl <| zP tT <| zB (AV.str t) (zE zD) rfl <| zI (hs _) ?_; refine zO tN <| zI (hti _) <| zG <| zP tT <| zB (.agg (ndX n x)) hP rfl <| zF (v:=.agg (ndX n x)) (ndX n x) hP rfl hnd.one rfl rfl ?_
     obtain ⟨H4,hz,hl4',hbx,hol⟩:=(((hnd.push (ABlk.box [AV.int .i64 0,.int .i64 0,.int .i64 0,.str []])).set zD (.box (kV 4 q e t).cells)).set (b:=H.length) (cs:=ndC zY) hP (.box (ndX n x))).frz H.length (zMh _)
     exact z8 (o:=0) (.agg (ndX n x)) rfl rfl rfl (zL hP) rfl hz (zHa _ _) ⟨hbl,hol hbl (((hob.push _).set tO _).set (zMh _) _).old⟩ rfl
   ·have hae:=zC2 hoa
    have htl:=tight_le (zBK t)
    rcases hR.go ha hoa hti2 with ⟨m2,e2,hl2,hR2⟩ | ⟨W,⟨hW,nw,hlo⟩,hv,hB⟩
    ·have hx:=(zCE s).loose _ e d _ hle hl2
     simp only at hx
     have hlo:=hLo e (tight (zBK t) + 1) m2 e2 tO hle hl2
     clear hLo hR
     generalize skip s a = q at *
     generalize hgt : tight (zBK t) = ti at *
     refine zB (zK 0) hb1 rfl <| zP (tE (by rfl)) <| zB (AV.str s) hb1 rfl <| zB (zK ↑a) hb1 rfl ?_; refine zG7 ?_ ?_
     all_goals
      refine zI (htk _) <| zF (v:=kV 4 q e t) (AV.cells (kV 4 q e t)) zD rfl rfl rfl rfl <| zB (zJ 4) (zE zD) rfl <| zH <| zB (AV.str t) (zE zD) rfl <| zI (hs _) ?_; refine zO tN <| zI (hti _) <| zG <| zO tF <| zB (zJ e) (zE zD) rfl <| zF (v:=zJ e) [AV.str s,zJ e,zK 0,zK 0,zK ↑d] (zA tA (zC hb1)) rfl rfl rfl rfl ?_; refine zI (hti _) <| zM (r:=ti + 1) rfl tO <| zp (hlo _ hP) (fun h=>by cases h) <| zF (v:=ndV m2) (AV.cells (ndV m2)) zD rfl rfl rfl rfl <| zB (.agg (ndX n x)) hP rfl <| zB (ndV m2) (zE zD) rfl ?_
      have hndA:=(((((hnd.push (ABlk.box [AV.int .i64 0,.int .i64 0,.int .i64 0,.str []])).set zD (.box (kV 4 q e t).cells)).set (b:=b) (cs:=[.str s,zK a,zK 0,zK 0,zK d]) hP (rP s e d)).set (b:=b) (cs:=[.str s,zK e,zK 0,zK 0,zK d]) hP (rP s e2 d)).push (ABlk.box (ndC zY))).set zD (.box (ndC m2))
      have hoA : OldB H b (rP s e2 d) _:=((((((hob.push [ABlk.box [AV.int .i64 0,.int .i64 0,.int .i64 0,.str []]]).set (c:=H1.length) tO (.box (kV 4 q e t).cells)).setB (rP s e d)).setB (rP s e2 d)).push [ABlk.box (ndC zY)]).set (c:=((((H1 ++ [ABlk.box [AV.int .i64 0,.int .i64 0,.int .i64 0,.str []]]).set H1.length (.box (kV 4 q e t).cells)).set b (rP s e d)).set b (rP s e2 d)).length) (by simp; omega) (.box (ndC m2)))
      obtain ⟨H4,hz,hl4',hbx,hol⟩:=hndA.frz 0 (zNX _)
      have hz2:=zFh hz (show zIi 0 [ndV m2] H4 = some ([ndV m2],H4) from rfl)
      have hb4:=hbx b [.str s,zK e2,zK 0,zK 0,zK d] hP
      have h44:=hbx H.length (ndC zY) hP
      have h54:=hbx (H.length + 1) (ndX n x) hP
      have h54l:=(zg h54).1
      have hob4 : OldB H b (rP s e2 d) H4:=⟨hbl,hol hbl hoA.old⟩
      clear hbx hol hz hndA hoA
      refine zE1 [ndV n,ndV m2] H4 hz2 rfl <| zS (v:=[.int .i64 8,zJ (zBK t),AV.str [],.int .i64 0,.int .i64 0,AV.bool false,AV.bool false,.int .i64 0,.int .i64 0,AV.bool false,AV.bool false,AV.sl (some false) (List.length H4) 12 0 [ndV n,ndV m2].length]) rfl <| zF (v:=.agg (ndX (zHY (zBK t) n m2) (.sl (some false) H4.length 12 0 2))) (ndX (zHY (zBK t) n m2) (.sl (some false) H4.length 12 0 2)) hP rfl rfl rfl rfl ?_
      refine zAA (LSt.mk (H.length + 1) e2 (zHY (zBK t) n m2) (.sl (some false) H4.length 12 0 2)) rfl ⟨⟨rfl,hP,hP,.inr ⟨zBK t,n,m2,H4.length,rfl,rfl,hP,by omega⟩⟩,.inl ⟨(hob4.push _).set tO _,hP,hx.2,by simp only; omega,hR2⟩⟩ (by simp only; omega)
    ·clear hLo hR
     rw [hv,hB]
     generalize skip s a = q at *
     generalize hgt : tight (zBK t) = ti at *
     refine zB (zK 0) hb1 rfl <| zP (tE (by rfl)) <| zB (AV.str s) hb1 rfl <| zB (zK ↑a) hb1 rfl ?_; refine zG7 ?_ ?_
     all_goals
      refine zI (htk _) <| zF (v:=kV 4 q e t) (AV.cells (kV 4 q e t)) zD rfl rfl rfl rfl <| zB (zJ 4) (zE zD) rfl <| zH <| zB (AV.str t) (zE zD) rfl <| zI (hs _) ?_; refine zO tN <| zI (hti _) <| zG <| zO tF <| zB (zJ e) (zE zD) rfl <| zF (v:=zJ e) [AV.str s,zJ e,zK 0,zK 0,zK ↑d] (zA tA (zC hb1)) rfl rfl rfl rfl ?_; refine zI (hti _) <| zM (r:=ti + 1) rfl tO <| zp (hlo _ hP) (fun h=>by cases h) <| zF (v:=ndV nw) (AV.cells (ndV nw)) zD rfl rfl rfl rfl <| zB (.agg (ndX n x)) hP rfl <| zB (ndV nw) (zE zD) rfl ?_
      have hndA:=(((((hnd.push (ABlk.box [AV.int .i64 0,.int .i64 0,.int .i64 0,.str []])).set zD (.box (kV 4 q e t).cells)).set (b:=b) (cs:=[.str s,zK a,zK 0,zK 0,zK d]) hP (rP s e d)).set (b:=b) (cs:=[.str s,zK e,zK 0,zK 0,zK d]) hP (W.blk s)).push (ABlk.box (ndC zY))).set zD (.box (ndC nw))
      have hoA : OldB H b (W.blk s) _:=((((((hob.push [ABlk.box [AV.int .i64 0,.int .i64 0,.int .i64 0,.str []]]).set (c:=H1.length) tO (.box (kV 4 q e t).cells)).setB (rP s e d)).setB (W.blk s)).push [ABlk.box (ndC zY)]).set (c:=((((H1 ++ [ABlk.box [AV.int .i64 0,.int .i64 0,.int .i64 0,.str []]]).set H1.length (.box (kV 4 q e t).cells)).set b (rP s e d)).set b (W.blk s)).length) (by simp; omega) (.box (ndC nw)))
      obtain ⟨H4,hz,hl4',hbx,hol⟩:=hndA.frz 0 (zNX _)
      have hz2:=zFh hz (show zIi 0 [ndV nw] H4 = some ([ndV nw],H4) from rfl)
      have hb4:=hbx b [.str s,zK W.a,zK W.w,zK W.e,zK W.d] hP
      have h44:=hbx H.length (ndC zY) hP
      have h54:=hbx (H.length + 1) (ndX n x) hP
      have h54l:=(zg h54).1
      have hob4 : OldB H b (W.blk s) H4:=⟨hbl,hol hbl hoA.old⟩
      clear hbx hol hz hndA hoA
      refine zE1 [ndV n,ndV nw] H4 hz2 rfl <| zS (v:=[.int .i64 8,zJ (zBK t),AV.str [],.int .i64 0,.int .i64 0,AV.bool false,AV.bool false,.int .i64 0,.int .i64 0,AV.bool false,AV.bool false,AV.sl (some false) (List.length H4) 12 0 [ndV n,ndV nw].length]) rfl <| zF (v:=.agg (ndX (zHY (zBK t) n nw) (.sl (some false) H4.length 12 0 2))) (ndX (zHY (zBK t) n nw) (.sl (some false) H4.length 12 0 2)) hP rfl rfl rfl rfl ?_
      refine zAA (LSt.mk (H.length + 1) (s.length + 1) (zHY (zBK t) n nw) (.sl (some false) H4.length 12 0 2)) rfl ⟨⟨rfl,hP,hP,.inr ⟨zBK t,n,nw,H4.length,rfl,rfl,hP,by omega⟩⟩,.inr ⟨W,hW,(hob4.push _).set tO _,hP,rfl,rfl,rfl⟩⟩ (by simp only; omega)
 ·have hk4 : tkK (tok s a) ≠ 4:=fun h=>by
   cases hk : tok s a <;> rw [hk] at h <;> simp only [tkK] at h
   all_goals first | omega | exact hsg ⟨_,_,hk⟩
  obtain ⟨rv,rb⟩:=hR.stop ha (fun op e' h=>by
   unfold zIg at h
   split at h
   ·rename_i e t hk; exact absurd ⟨e,t,hk⟩ hsg
   ·cases h)
  rw [rv,rb]
  clear hLo hSg hTi
  generalize tkE (skip s a) (tok s a) = ee at *
  generalize tkK (tok s a) = kk at *
  generalize tkT (tok s a) = t at *
  generalize skip s a = q at *
  refine zB (zK 0) hb1 rfl <| zP (tE (by rfl)) <| zB (AV.str s) hb1 rfl <| zB (zK ↑a) hb1 rfl ?_; refine zG7 ?_ ?_
  all_goals
   refine zI (htk _) <| zF (v:=kV kk q ee t) (AV.cells (kV kk q ee t)) zD rfl rfl rfl rfl <| zB (zJ kk) (zE zD) rfl ?_; refine zO tN <| zH <| zH <| zH <| zB (.agg (ndX n x)) hP rfl <| zF (v:=.agg (ndX n x)) (ndX n x) hP rfl hnd.one rfl rfl ?_
   obtain ⟨H4,hz,hl4',hbx,hol⟩:=(((hnd.push (ABlk.box [AV.int .i64 0,.int .i64 0,.int .i64 0,.str []])).set zD (.box (kV kk q ee t).cells)).set (b:=H.length) (cs:=ndC zY) hP (.box (ndX n x))).frz H.length (zMh _)
   exact z8 (o:=0) (.agg (ndX n x)) rfl rfl rfl (zL hP) rfl hz (zHa _ _) ⟨hbl,hol hbl (((hob.push _).set tO _).set (zMh _) _).old⟩ rfl
end
end Go.AM
set_option maxRecDepth 20000
namespace Go.AM
abbrev caI : AC:=(AC.rest zBR).body
abbrev caR1 : AC:=caI.first
abbrev caR2 : AC:=caI.rest.first
abbrev caR3 : AC:=caI.rest.rest.first
abbrev caA : AC:=caI.rest.rest.rest.first
abbrev caT : AC:=caI.rest.rest.rest.rest
section
variable {C : CSpec} {GT : Nat → Option AV}
theorem zFY {L : List Nat} {d : Bool} {ops : List AI} {c1 c2 : AC} {K : Post} {fr fr2 : Fr} {H : Heap} (h : zZ fr L = zZ fr2 L) (x : EW C GT (.seq (.seq (.reg L d ops) c1) c2) K fr2 H) : EW C GT (.seq (.seq (.reg L d ops) c1) c2) K fr H:=by
 have x : EWops C GT ops [] (zZ fr2 L) H (fun fr' H'=>seqK (EW C GT c1 (seqK (EW C GT c2 K) K)) (seqK (EW C GT c2 K) K) .normal fr' H'):=x
 rw [← h] at x
 exact x
theorem zMW {L : List Nat} {d : Bool} {ops : List AI} {c2 : AC} {K : Post} {fr fr2 : Fr} {H : Heap} (h : zZ fr L = zZ fr2 L) (x : EW C GT (.seq (.reg L d ops) c2) K fr2 H) : EW C GT (.seq (.reg L d ops) c2) K fr H:=by
 have x : EWops C GT ops [] (zZ fr2 L) H (fun fr' H'=>seqK (EW C GT c2 K) K .normal fr' H'):=x
 rw [← h] at x
 exact x
theorem call_p1 (T : AC) (K : Post) (b n4 n5 n6 : Nat) (s : Bs) (a d : Nat) (kk q e : Nat) (t : Bs) (rv : List AV) (ok : Bool) (H : Heap) (c6 : List AV) (hc6 : c6.length = 4) (c0 c1 c2 c3 : AV) (hc6' : c6 = [c0,c1,c2,c3])
  (hb : H[b]? = some (rP s a d)) (h6 : H[n6]? = some (.box c6)) (hbn : b ≠ n6)
  (htk : ∀ H,C zV [.str s,zJ a] H (kV kk q e t) H) (hr : ∀ H,C zm [.str t] H (.tup [.agg rv,.bool ok]) H) (r0 r1 r2 r3 : AV) (hrv : rv = [r0,r1,r2,r3]) (hro : (AV.agg rv).cells.all AV.one = true)
  (h : ∀ fr' H' n7 n9,zZ fr' [6,0,4,5,9,7,8] = [(6,pR n6),(0,pR b),(4,pR n4),(5,pR n5),(9,pR n9),(7,pR n7),(8,.bool ok)] → H' = ((((H.set n6 (ABlk.box [zJ kk,zJ q,zJ e,.str t])) ++ [ABlk.box zV1]).set n7 (.box rv)) ++ [ABlk.box (ndC zY)]) → n7 = H.length → n9 = H.length + 1 → EW C GT T K fr' H') :
  EW C GT (.seq caR1 (.seq caR2 (.seq caR3 T))) K [(6,pR n6),(0,pR b),(4,pR n4),(5,pR n5)] H:=by
 subst hc6' hrv
 have hl6:=(zg h6).1
 refine zB (AV.str s) hb rfl <| zB (zK ↑a) hb rfl <| zI (htk _) <| zF (v:=kV kk q e t) [zJ kk,zJ q,zJ e,.str t] h6 rfl rfl rfl rfl <| zB (AV.str t) (zE h6) rfl <| zI (hr _) ?_; refine zS rfl <| zS rfl <| zF (v:=.agg [r0,r1,r2,r3]) [r0,r1,r2,r3] zD rfl hro rfl rfl ?_
 exact h _ _ _ _ rfl rfl (by simp) (by simp)
def Kp (H H' : Heap) (b n9 : Nat) : Prop:=(∀ c x,H[c]? = some x → c ≠ b → c ≠ n9 → H'[c]? = some x) ∧ H.length ≤ H'.length
theorem call_na (T : AC) (K : Post) (b n4 n5 n6 n7 n9 : Nat) (ok : Bool) (s : Bs) (p D kk q e : Nat) (t : Bs) (H : Heap) (fr : Fr) (hfr : zZ fr [6,0,4,5,9,7,8] = [(6,pR n6),(0,pR b),(4,pR n4),(5,pR n5),(9,pR n9),(7,pR n7),(8,.bool ok)])
  (hb : H[b]? = some (rP s p D)) (h6 : H[n6]? = some (.box [zJ kk,zJ q,zJ e,.str t])) (h9 : H[n9]? = some (.box (ndC zY))) (hb9 : b ≠ n9) (h69 : n6 ≠ n9) (hb6 : b ≠ n6) (hel : e ≤ s.length) (hl : s.length ≤ 200)
  (m : Nd) (B : ABlk) (hlo : ∀ H,H[b]? = some (rP s p D) → C zW [pR b,.int .i64 1] H (ndV m) (H.set b B)) (h1 : kk ≠ 1)
  (h : ∀ fr' H',zZ fr' [6,0,4,5,9] = [(6,pR n6),(0,pR b),(4,pR n4),(5,pR n5),(9,pR n9)] → H'[b]? = some B → H'[n9]? = some (.box (ndC m)) → Kp H H' b n9 → EW C GT T K fr' H') :
  EW C GT (.seq caA T) K fr H:=by
 refine zFY (fr2:=[(6,pR n6),(0,pR b),(4,pR n4),(5,pR n5),(9,pR n9),(7,pR n7),(8,.bool ok)]) hfr ?_
 have hl9:=(zg h9).1
 have hl6:=(zg h6).1
 have hbl:=(zg hb).1
 refine zB (zJ kk) h6 rfl ?_; refine zO tN <| zG <| zG <| zG <| zG <| zG <| zG ?_; refine zp (hlo _ hP) (fun h=>by cases h) <| zF (v:=ndV m) (AV.cells (ndV m)) (zA tA h9) rfl rfl rfl rfl ?_
 exact h _ _ rfl hP hP ⟨(fun c x hc g1 g2=>by have hcl:=(zg hc).1; repeat' (first | exact hc | refine zC ?_ | refine zA (by first | exact zNa g1 | exact zNa g2 | omega | (simp only [zMs,zMn,zMi,zMt]; omega) | (simp; omega)) ?_)),tC⟩
theorem call_nb (T : AC) (K : Post) (b n4 n5 n6 n7 n9 : Nat) (ok : Bool) (s : Bs) (p D kk q e : Nat) (t : Bs) (H : Heap) (fr : Fr) (hfr : zZ fr [6,0,4,5,9,7,8] = [(6,pR n6),(0,pR b),(4,pR n4),(5,pR n5),(9,pR n9),(7,pR n7),(8,.bool ok)])
  (hb : H[b]? = some (rP s p D)) (h6 : H[n6]? = some (.box [zJ kk,zJ q,zJ e,.str t])) (h9 : H[n9]? = some (.box (ndC zY))) (hb9 : b ≠ n9) (h69 : n6 ≠ n9) (hb6 : b ≠ n6) (hel : e ≤ s.length) (hl : s.length ≤ 200)
  (m : Nd) (B : ABlk) (hlo : ∀ H,H[b]? = some (rP s p D) → C zW [pR b,.int .i64 1] H (ndV m) (H.set b B)) (h1 : kk = 1) (ho : ok = false)
  (h : ∀ fr' H',zZ fr' [6,0,4,5,9] = [(6,pR n6),(0,pR b),(4,pR n4),(5,pR n5),(9,pR n9)] → H'[b]? = some B → H'[n9]? = some (.box (ndC m)) → Kp H H' b n9 → EW C GT T K fr' H') :
  EW C GT (.seq caA T) K fr H:=by
 refine zFY (fr2:=[(6,pR n6),(0,pR b),(4,pR n4),(5,pR n5),(9,pR n9),(7,pR n7),(8,.bool ok)]) hfr ?_
 have hl9:=(zg h9).1
 have hl6:=(zg h6).1
 have hbl:=(zg hb).1
 subst ho
 refine zB (zJ kk) h6 rfl ?_; refine zP tE <| zH <| zG <| zG <| zG <| zG <| zG ?_; refine zp (hlo _ hP) (fun h=>by cases h) <| zF (v:=ndV m) (AV.cells (ndV m)) (zA tA h9) rfl rfl rfl rfl ?_
 exact h _ _ rfl hP hP ⟨(fun c x hc g1 g2=>by have hcl:=(zg hc).1; repeat' (first | exact hc | refine zC ?_ | refine zA (by first | exact zNa g1 | exact zNa g2 | omega | (simp only [zMs,zMn,zMi,zMt]; omega) | (simp; omega)) ?_)),tC⟩
theorem call_nc (T : AC) (K : Post) (b n4 n5 n6 n7 n9 : Nat) (ok : Bool) (s : Bs) (p D kk q e : Nat) (t : Bs) (H : Heap) (fr : Fr) (hfr : zZ fr [6,0,4,5,9,7,8] = [(6,pR n6),(0,pR b),(4,pR n4),(5,pR n5),(9,pR n9),(7,pR n7),(8,.bool ok)])
  (hb : H[b]? = some (rP s p D)) (h6 : H[n6]? = some (.box [zJ kk,zJ q,zJ e,.str t])) (h9 : H[n9]? = some (.box (ndC zY))) (hb9 : b ≠ n9) (h69 : n6 ≠ n9) (hb6 : b ≠ n6) (hel : e ≤ s.length) (hl : s.length ≤ 200)
  (m : Nd) (B : ABlk) (hlo : ∀ H,H[b]? = some (rP s p D) → C zW [pR b,.int .i64 1] H (ndV m) (H.set b B)) (h1 : kk = 1) (ho : ok = true) (hle : s.length ≤ e)
  (h : ∀ fr' H',zZ fr' [6,0,4,5,9] = [(6,pR n6),(0,pR b),(4,pR n4),(5,pR n5),(9,pR n9)] → H'[b]? = some B → H'[n9]? = some (.box (ndC m)) → Kp H H' b n9 → EW C GT T K fr' H') :
  EW C GT (.seq caA T) K fr H:=by
 refine zFY (fr2:=[(6,pR n6),(0,pR b),(4,pR n4),(5,pR n5),(9,pR n9),(7,pR n7),(8,.bool ok)]) hfr ?_
 have hl9:=(zg h9).1
 have hl6:=(zg h6).1
 have hbl:=(zg hb).1
 subst ho
 refine zB (zJ kk) h6 rfl <| zP tE <| zH <| zH <| zB (zJ e) h6 rfl <| zB (AV.str s) hb rfl ?_; refine zH <| zO tF <| zG <| zG <| zp (hlo _ hP) (fun h=>by cases h) <| zF (v:=ndV m) (AV.cells (ndV m)) (zA tA h9) rfl rfl rfl rfl ?_
 exact h _ _ rfl hP hP ⟨(fun c x hc g1 g2=>by have hcl:=(zg hc).1; repeat' (first | exact hc | refine zC ?_ | refine zA (by first | exact zNa g1 | exact zNa g2 | omega | (simp only [zMs,zMn,zMi,zMt]; omega) | (simp; omega)) ?_)),tC⟩
theorem call_nd (T : AC) (K : Post) (b n4 n5 n6 n7 n9 : Nat) (ok : Bool) (s : Bs) (p D kk q e : Nat) (t : Bs) (H : Heap) (fr : Fr) (hfr : zZ fr [6,0,4,5,9,7,8] = [(6,pR n6),(0,pR b),(4,pR n4),(5,pR n5),(9,pR n9),(7,pR n7),(8,.bool ok)])
  (hb : H[b]? = some (rP s p D)) (h6 : H[n6]? = some (.box [zJ kk,zJ q,zJ e,.str t])) (h9 : H[n9]? = some (.box (ndC zY))) (hb9 : b ≠ n9) (h69 : n6 ≠ n9) (hb6 : b ≠ n6) (hel : e ≤ s.length) (hl : s.length ≤ 200)
  (m : Nd) (B : ABlk) (hlo : ∀ H,H[b]? = some (rP s p D) → C zW [pR b,.int .i64 1] H (ndV m) (H.set b B)) (h1 : kk = 1) (ho : ok = true) (c : UInt8) (hc : s[e]? = some c) (hc58 : c.toNat ≠ 58)
  (h : ∀ fr' H',zZ fr' [6,0,4,5,9] = [(6,pR n6),(0,pR b),(4,pR n4),(5,pR n5),(9,pR n9)] → H'[b]? = some B → H'[n9]? = some (.box (ndC m)) → Kp H H' b n9 → EW C GT T K fr' H') :
  EW C GT (.seq caA T) K fr H:=by
 refine zFY (fr2:=[(6,pR n6),(0,pR b),(4,pR n4),(5,pR n5),(9,pR n9),(7,pR n7),(8,.bool ok)]) hfr ?_
 have hl9:=(zg h9).1
 have hl6:=(zg h6).1
 have hbl:=(zg hb).1
 subst ho
 have hce:=(zg hc).1
 refine zB (zJ kk) h6 rfl <| zP tE <| zH <| zH <| zB (zJ e) h6 rfl <| zB (AV.str s) hb rfl ?_; refine zH <| zP tT <| zB (AV.str s) hb rfl <| zB (zJ e) h6 rfl <| zn rfl hc ?_; refine zH <| zO tN <| zp (hlo _ hP) (fun h=>by cases h) <| zF (v:=ndV m) (AV.cells (ndV m)) (zA tA h9) rfl rfl rfl rfl ?_
 exact h _ _ rfl hP hP ⟨(fun c x hc g1 g2=>by have hcl:=(zg hc).1; repeat' (first | exact hc | refine zC ?_ | refine zA (by first | exact zNa g1 | exact zNa g2 | omega | (simp only [zMs,zMn,zMi,zMt]; omega) | (simp; omega)) ?_)),tC⟩
theorem call_xok (T : AC) (K : Post) (b n4 n5 n6 n7 n9 : Nat) (ok : Bool) (s : Bs) (p D kk q e : Nat) (t : Bs) (H : Heap) (fr : Fr) (hfr : zZ fr [6,0,4,5,9,7,8] = [(6,pR n6),(0,pR b),(4,pR n4),(5,pR n5),(9,pR n9),(7,pR n7),(8,.bool ok)])
  (hb : H[b]? = some (rP s p D)) (h6 : H[n6]? = some (.box [zJ kk,zJ q,zJ e,.str t])) (h9 : H[n9]? = some (.box (ndC zY))) (hb9 : b ≠ n9) (h69 : n6 ≠ n9) (hb6 : b ≠ n6) (hel : e ≤ s.length) (hl : s.length ≤ 200)
  (r1 r2 : RefP) (h7 : H[n7]? = some (.box [zK r1.col,zK r1.row,.bool r1.fc,.bool r1.fr])) (hn79 : n7 ≠ n9) (hn7b : n7 ≠ b) (kk2 q2 e2 : Nat) (t2 : Bs) (htk : ∀ H,C zV [.str s,zJ (e + 1)] H (kV kk2 q2 e2 t2) H) (hr : ∀ H,C zm [.str t2] H (.tup [.agg [zK r2.col,zK r2.row,.bool r2.fc,.bool r2.fr],.bool true]) H) (hq2 : q2 = e + 1) (hk2 : kk2 = 1)
  (h1 : kk = 1) (ho : ok = true) (hc : s[e]? = some 58) (m : Nd) (hm : m = boxN r1 r2) (B : ABlk) (hB : B = rP s e2 D)
  (h : ∀ fr' H',zZ fr' [6,0,4,5,9] = [(6,pR n6),(0,pR b),(4,pR n4),(5,pR n5),(9,pR n9)] → H'[b]? = some B → H'[n9]? = some (.box (ndC m)) → Kp H H' b n9 → EW C GT T K fr' H') :
  EW C GT (.seq caA T) K fr H:=by
 refine zFY (fr2:=[(6,pR n6),(0,pR b),(4,pR n4),(5,pR n5),(9,pR n9),(7,pR n7),(8,.bool ok)]) hfr ?_
 have hl9:=(zg h9).1
 have hl6:=(zg h6).1
 have hl7:=(zg h7).1
 have hbl:=(zg hb).1
 have hce:=(zg hc).1
 subst ho hm hB
 refine zB (zJ kk) h6 rfl <| zP tE <| zH <| zH <| zB (zJ e) h6 rfl <| zB (AV.str s) hb rfl ?_; refine zH <| zP tT <| zB (AV.str s) hb rfl <| zB (zJ e) h6 rfl <| zn rfl hc ?_; refine zH <| zP (tE (by rfl)) <| zB (AV.str s) hb rfl <| zB (zJ e) h6 rfl <| zM (r:=e + 1) rfl tO ?_; refine zG7 ?_ ?_
 all_goals
  refine zI (htk _) <| zF (v:=kV kk2 q2 e2 t2) (AV.cells (kV kk2 q2 e2 t2)) zD rfl rfl rfl rfl <| zB (AV.str t2) (zE zD) rfl <| zI (hr _) <| zS rfl <| zS rfl ?_; refine zF (v:=AV.agg [zK r2.col,zK r2.row,AV.bool r2.fc,AV.bool r2.fr]) (AV.cells (AV.agg [zK r2.col,zK r2.row,AV.bool r2.fc,AV.bool r2.fr])) zD rfl rfl rfl rfl <| zB (zJ q2) (zA tA (zC (zE zD))) rfl <| zB (zJ e) (zA tA (zC (zA tA (zC h6)))) rfl <| zM (r:=e + 1) rfl tO <| zO (zNA.2 tO) <| zB (zJ kk2) (zA tA (zC (zE zD))) rfl ?_
  refine zG <| zO (zNA.2 tO) <| zG <| zG <| zB (zJ e2) (zA tA (zC (zE zD))) rfl <| zF (v:=zJ e2) [AV.str s,zJ e2,zK 0,zK 0,zK ↑D] (zA tA (zC (zA tA (zC hb)))) rfl rfl rfl rfl ?_; refine zB (AV.agg [zK r1.col,zK r1.row,AV.bool r1.fc,AV.bool r1.fr]) (zA tA (zA tA (zC (zA tA (zC h7))))) rfl <| zB (AV.agg [zK r2.col,zK r2.row,AV.bool r2.fc,AV.bool r2.fr]) (zA tA (zE zD)) rfl <| zS (v:=[.int .i64 6,.int .i64 0,AV.str [],zK r1.col,zK r1.row,AV.bool r1.fc,AV.bool r1.fr,zK r2.col,zK r2.row,AV.bool r2.fc,AV.bool r2.fr,AV.lst (some true) 0 []]) rfl <| zF (v:=AV.agg [.int .i64 6,.int .i64 0,AV.str [],zK r1.col,zK r1.row,AV.bool r1.fc,AV.bool r1.fr,zK r2.col,zK r2.row,AV.bool r2.fc,AV.bool r2.fr,AV.lst (some true) 0 []]) (AV.cells (AV.agg [.int .i64 6,.int .i64 0,AV.str [],zK r1.col,zK r1.row,AV.bool r1.fc,AV.bool r1.fr,zK r2.col,zK r2.row,AV.bool r2.fc,AV.bool r2.fr,AV.lst (some true) 0 []])) (zA tA (zA tA (zC (zA tA (zC h9))))) rfl rfl rfl rfl ?_
  exact h _ _ rfl hP hP ⟨(fun c x hc g1 g2=>by have hcl:=(zg hc).1; repeat' (first | exact hc | refine zC ?_ | refine zA (by first | exact zNa g1 | exact zNa g2 | omega | (simp only [zMs,zMn,zMi,zMt]; omega) | (simp; omega)) ?_)),tC⟩
theorem call_xfa (T : AC) (K : Post) (b n4 n5 n6 n7 n9 : Nat) (ok : Bool) (s : Bs) (p D kk q e : Nat) (t : Bs) (H : Heap) (fr : Fr) (hfr : zZ fr [6,0,4,5,9,7,8] = [(6,pR n6),(0,pR b),(4,pR n4),(5,pR n5),(9,pR n9),(7,pR n7),(8,.bool ok)])
  (hb : H[b]? = some (rP s p D)) (h6 : H[n6]? = some (.box [zJ kk,zJ q,zJ e,.str t])) (h9 : H[n9]? = some (.box (ndC zY))) (hb9 : b ≠ n9) (h69 : n6 ≠ n9) (hb6 : b ≠ n6) (hel : e ≤ s.length) (hl : s.length ≤ 200)
  (r1 r2 : RefP) (h7 : H[n7]? = some (.box [zK r1.col,zK r1.row,.bool r1.fc,.bool r1.fr])) (hn79 : n7 ≠ n9) (hn7b : n7 ≠ b) (kk2 q2 e2 : Nat) (t2 : Bs) (htk : ∀ H,C zV [.str s,zJ (e + 1)] H (kV kk2 q2 e2 t2) H) (ok2 : Bool) (hr : ∀ H,C zm [.str t2] H (.tup [.agg [zK r2.col,zK r2.row,.bool r2.fc,.bool r2.fr],.bool ok2]) H) (hq2 : q2 ≠ e + 1) (hf : ∀ H,H[b]? = some (rP s p D) → C ze [pR b,zJ (e + 1),.int .i64 2] H (.tup []) (H.set b (pB s p (e + 1 : Nat) 2 D)))
  (h1 : kk = 1) (ho : ok = true) (hc : s[e]? = some 58) (m : Nd) (hm : m = boxN r1 r2) (B : ABlk) (hB : B = pB s e2 (e + 1 : Nat) 2 D)
  (h : ∀ fr' H',zZ fr' [6,0,4,5,9] = [(6,pR n6),(0,pR b),(4,pR n4),(5,pR n5),(9,pR n9)] → H'[b]? = some B → H'[n9]? = some (.box (ndC m)) → Kp H H' b n9 → EW C GT T K fr' H') :
  EW C GT (.seq caA T) K fr H:=by
 refine zFY (fr2:=[(6,pR n6),(0,pR b),(4,pR n4),(5,pR n5),(9,pR n9),(7,pR n7),(8,.bool ok)]) hfr ?_
 have hl9:=(zg h9).1
 have hl6:=(zg h6).1
 have hl7:=(zg h7).1
 have hbl:=(zg hb).1
 have hce:=(zg hc).1
 subst ho hm hB
 refine zB (zJ kk) h6 rfl <| zP tE <| zH <| zH <| zB (zJ e) h6 rfl <| zB (AV.str s) hb rfl ?_; refine zH <| zP tT <| zB (AV.str s) hb rfl <| zB (zJ e) h6 rfl <| zn rfl hc ?_; refine zH <| zP (tE (by rfl)) <| zB (AV.str s) hb rfl <| zB (zJ e) h6 rfl <| zM (r:=e + 1) rfl tO ?_; refine zG7 ?_ ?_
 all_goals
  refine zI (htk _) <| zF (v:=kV kk2 q2 e2 t2) (AV.cells (kV kk2 q2 e2 t2)) zD rfl rfl rfl rfl <| zB (AV.str t2) (zE zD) rfl <| zI (hr _) <| zS rfl <| zS rfl ?_; refine zF (v:=AV.agg [zK r2.col,zK r2.row,AV.bool r2.fc,AV.bool r2.fr]) (AV.cells (AV.agg [zK r2.col,zK r2.row,AV.bool r2.fc,AV.bool r2.fr])) zD rfl rfl rfl rfl <| zB (zJ q2) (zA tA (zC (zE zD))) rfl <| zB (zJ e) (zA tA (zC (zA tA (zC h6)))) rfl <| zM (r:=e + 1) rfl tO ?_
  refine zP (zNP.2 tO) <| zH <| zH <| zH <| zH <| zB (zJ e) (zA tA (zC (zA tA (zC h6)))) rfl ?_; refine zM (r:=e + 1) rfl tO <| zp (hf _ hP) (fun h=>by cases h) <| zB (zJ e2) (zA tA (zA tA (zC (zE zD)))) rfl <| zF (v:=zJ e2) [AV.str s,zJ e2,zK ↑(e + 1),zK 2,zK ↑D] (zE (zA tA (zC (zA tA (zC hb))))) rfl rfl rfl rfl <| zB (AV.agg [zK r1.col,zK r1.row,AV.bool r1.fc,AV.bool r1.fr]) (zA tA (zA tA (zA tA (zC (zA tA (zC h7)))))) rfl <| zB (AV.agg [zK r2.col,zK r2.row,AV.bool r2.fc,AV.bool r2.fr]) (zA tA (zA tA (zE zD))) rfl ?_
  refine zS (v:=[.int .i64 6,.int .i64 0,AV.str [],zK r1.col,zK r1.row,AV.bool r1.fc,AV.bool r1.fr,zK r2.col,zK r2.row,AV.bool r2.fc,AV.bool r2.fr,AV.lst (some true) 0 []]) rfl <| zF (v:=AV.agg [.int .i64 6,.int .i64 0,AV.str [],zK r1.col,zK r1.row,AV.bool r1.fc,AV.bool r1.fr,zK r2.col,zK r2.row,AV.bool r2.fc,AV.bool r2.fr,AV.lst (some true) 0 []]) (AV.cells (AV.agg [.int .i64 6,.int .i64 0,AV.str [],zK r1.col,zK r1.row,AV.bool r1.fc,AV.bool r1.fr,zK r2.col,zK r2.row,AV.bool r2.fc,AV.bool r2.fr,AV.lst (some true) 0 []])) (zA tA (zA tA (zA tA (zC (zA tA (zC h9)))))) rfl rfl rfl rfl ?_
  exact h _ _ rfl hP hP ⟨(fun c x hc g1 g2=>by have hcl:=(zg hc).1; repeat' (first | exact hc | refine zC ?_ | refine zA (by first | exact zNa g1 | exact zNa g2 | omega | (simp only [zMs,zMn,zMi,zMt]; omega) | (simp; omega)) ?_)),tC⟩
theorem call_xfb (T : AC) (K : Post) (b n4 n5 n6 n7 n9 : Nat) (ok : Bool) (s : Bs) (p D kk q e : Nat) (t : Bs) (H : Heap) (fr : Fr) (hfr : zZ fr [6,0,4,5,9,7,8] = [(6,pR n6),(0,pR b),(4,pR n4),(5,pR n5),(9,pR n9),(7,pR n7),(8,.bool ok)])
  (hb : H[b]? = some (rP s p D)) (h6 : H[n6]? = some (.box [zJ kk,zJ q,zJ e,.str t])) (h9 : H[n9]? = some (.box (ndC zY))) (hb9 : b ≠ n9) (h69 : n6 ≠ n9) (hb6 : b ≠ n6) (hel : e ≤ s.length) (hl : s.length ≤ 200)
  (r1 r2 : RefP) (h7 : H[n7]? = some (.box [zK r1.col,zK r1.row,.bool r1.fc,.bool r1.fr])) (hn79 : n7 ≠ n9) (hn7b : n7 ≠ b) (kk2 q2 e2 : Nat) (t2 : Bs) (htk : ∀ H,C zV [.str s,zJ (e + 1)] H (kV kk2 q2 e2 t2) H) (ok2 : Bool) (hr : ∀ H,C zm [.str t2] H (.tup [.agg [zK r2.col,zK r2.row,.bool r2.fc,.bool r2.fr],.bool ok2]) H) (hq2 : q2 = e + 1) (hk2 : kk2 ≠ 1) (hf : ∀ H,H[b]? = some (rP s p D) → C ze [pR b,zJ (e + 1),.int .i64 2] H (.tup []) (H.set b (pB s p (e + 1 : Nat) 2 D)))
  (h1 : kk = 1) (ho : ok = true) (hc : s[e]? = some 58) (m : Nd) (hm : m = boxN r1 r2) (B : ABlk) (hB : B = pB s e2 (e + 1 : Nat) 2 D)
  (h : ∀ fr' H',zZ fr' [6,0,4,5,9] = [(6,pR n6),(0,pR b),(4,pR n4),(5,pR n5),(9,pR n9)] → H'[b]? = some B → H'[n9]? = some (.box (ndC m)) → Kp H H' b n9 → EW C GT T K fr' H') :
  EW C GT (.seq caA T) K fr H:=by
 refine zFY (fr2:=[(6,pR n6),(0,pR b),(4,pR n4),(5,pR n5),(9,pR n9),(7,pR n7),(8,.bool ok)]) hfr ?_
 have hl9:=(zg h9).1
 have hl6:=(zg h6).1
 have hl7:=(zg h7).1
 have hbl:=(zg hb).1
 have hce:=(zg hc).1
 subst ho hm hB
 refine zB (zJ kk) h6 rfl <| zP tE <| zH <| zH <| zB (zJ e) h6 rfl <| zB (AV.str s) hb rfl ?_; refine zH <| zP tT <| zB (AV.str s) hb rfl <| zB (zJ e) h6 rfl <| zn rfl hc ?_; refine zH <| zP (tE (by rfl)) <| zB (AV.str s) hb rfl <| zB (zJ e) h6 rfl <| zM (r:=e + 1) rfl tO ?_; refine zG7 ?_ ?_
 all_goals
  refine zI (htk _) <| zF (v:=kV kk2 q2 e2 t2) (AV.cells (kV kk2 q2 e2 t2)) zD rfl rfl rfl rfl <| zB (AV.str t2) (zE zD) rfl <| zI (hr _) <| zS rfl <| zS rfl ?_; refine zF (v:=AV.agg [zK r2.col,zK r2.row,AV.bool r2.fc,AV.bool r2.fr]) (AV.cells (AV.agg [zK r2.col,zK r2.row,AV.bool r2.fc,AV.bool r2.fr])) zD rfl rfl rfl rfl <| zB (zJ q2) (zA tA (zC (zE zD))) rfl <| zB (zJ e) (zA tA (zC (zA tA (zC h6)))) rfl <| zM (r:=e + 1) rfl tO <| zO (zNA.2 tO) <| zB (zJ kk2) (zA tA (zC (zE zD))) rfl ?_
  refine zG <| zP (zNP.2 tO) <| zH <| zH <| zB (zJ e) (zA tA (zC (zA tA (zC h6)))) rfl <| zM (r:=e + 1) rfl tO ?_; refine zp (hf _ hP) (fun h=>by cases h) <| zB (zJ e2) (zA tA (zA tA (zC (zE zD)))) rfl <| zF (v:=zJ e2) [AV.str s,zJ e2,zK ↑(e + 1),zK 2,zK ↑D] (zE (zA tA (zC (zA tA (zC hb))))) rfl rfl rfl rfl <| zB (AV.agg [zK r1.col,zK r1.row,AV.bool r1.fc,AV.bool r1.fr]) (zA tA (zA tA (zA tA (zC (zA tA (zC h7)))))) rfl <| zB (AV.agg [zK r2.col,zK r2.row,AV.bool r2.fc,AV.bool r2.fr]) (zA tA (zA tA (zE zD))) rfl <| zS (v:=[.int .i64 6,.int .i64 0,AV.str [],zK r1.col,zK r1.row,AV.bool r1.fc,AV.bool r1.fr,zK r2.col,zK r2.row,AV.bool r2.fc,AV.bool r2.fr,AV.lst (some true) 0 []]) rfl ?_
  refine zF (v:=AV.agg [.int .i64 6,.int .i64 0,AV.str [],zK r1.col,zK r1.row,AV.bool r1.fc,AV.bool r1.fr,zK r2.col,zK r2.row,AV.bool r2.fc,AV.bool r2.fr,AV.lst (some true) 0 []]) (AV.cells (AV.agg [.int .i64 6,.int .i64 0,AV.str [],zK r1.col,zK r1.row,AV.bool r1.fc,AV.bool r1.fr,zK r2.col,zK r2.row,AV.bool r2.fc,AV.bool r2.fr,AV.lst (some true) 0 []])) (zA tA (zA tA (zA tA (zC (zA tA (zC h9)))))) rfl rfl rfl rfl ?_
  exact h _ _ rfl hP hP ⟨(fun c x hc g1 g2=>by have hcl:=(zg hc).1; repeat' (first | exact hc | refine zC ?_ | refine zA (by first | exact zNa g1 | exact zNa g2 | omega | (simp only [zMs,zMn,zMi,zMt]; omega) | (simp; omega)) ?_)),tC⟩
theorem call_xfc (T : AC) (K : Post) (b n4 n5 n6 n7 n9 : Nat) (ok : Bool) (s : Bs) (p D kk q e : Nat) (t : Bs) (H : Heap) (fr : Fr) (hfr : zZ fr [6,0,4,5,9,7,8] = [(6,pR n6),(0,pR b),(4,pR n4),(5,pR n5),(9,pR n9),(7,pR n7),(8,.bool ok)])
  (hb : H[b]? = some (rP s p D)) (h6 : H[n6]? = some (.box [zJ kk,zJ q,zJ e,.str t])) (h9 : H[n9]? = some (.box (ndC zY))) (hb9 : b ≠ n9) (h69 : n6 ≠ n9) (hb6 : b ≠ n6) (hel : e ≤ s.length) (hl : s.length ≤ 200)
  (r1 r2 : RefP) (h7 : H[n7]? = some (.box [zK r1.col,zK r1.row,.bool r1.fc,.bool r1.fr])) (hn79 : n7 ≠ n9) (hn7b : n7 ≠ b) (kk2 q2 e2 : Nat) (t2 : Bs) (htk : ∀ H,C zV [.str s,zJ (e + 1)] H (kV kk2 q2 e2 t2) H) (hr : ∀ H,C zm [.str t2] H (.tup [.agg [zK r2.col,zK r2.row,.bool r2.fc,.bool r2.fr],.bool false]) H) (hq2 : q2 = e + 1) (hk2 : kk2 = 1) (hf : ∀ H,H[b]? = some (rP s p D) → C ze [pR b,zJ (e + 1),.int .i64 2] H (.tup []) (H.set b (pB s p (e + 1 : Nat) 2 D)))
  (h1 : kk = 1) (ho : ok = true) (hc : s[e]? = some 58) (m : Nd) (hm : m = boxN r1 r2) (B : ABlk) (hB : B = pB s e2 (e + 1 : Nat) 2 D)
  (h : ∀ fr' H',zZ fr' [6,0,4,5,9] = [(6,pR n6),(0,pR b),(4,pR n4),(5,pR n5),(9,pR n9)] → H'[b]? = some B → H'[n9]? = some (.box (ndC m)) → Kp H H' b n9 → EW C GT T K fr' H') :
  EW C GT (.seq caA T) K fr H:=by
 refine zFY (fr2:=[(6,pR n6),(0,pR b),(4,pR n4),(5,pR n5),(9,pR n9),(7,pR n7),(8,.bool ok)]) hfr ?_
 have hl9:=(zg h9).1
 have hl6:=(zg h6).1
 have hl7:=(zg h7).1
 have hbl:=(zg hb).1
 have hce:=(zg hc).1
 subst ho hm hB
 refine zB (zJ kk) h6 rfl <| zP tE <| zH <| zH <| zB (zJ e) h6 rfl <| zB (AV.str s) hb rfl ?_; refine zH <| zP tT <| zB (AV.str s) hb rfl <| zB (zJ e) h6 rfl <| zn rfl hc ?_; refine zH <| zP (tE (by rfl)) <| zB (AV.str s) hb rfl <| zB (zJ e) h6 rfl <| zM (r:=e + 1) rfl tO ?_; refine zG7 ?_ ?_
 all_goals
  refine zI (htk _) <| zF (v:=kV kk2 q2 e2 t2) (AV.cells (kV kk2 q2 e2 t2)) zD rfl rfl rfl rfl <| zB (AV.str t2) (zE zD) rfl <| zI (hr _) <| zS rfl <| zS rfl ?_; refine zF (v:=AV.agg [zK r2.col,zK r2.row,AV.bool r2.fc,AV.bool r2.fr]) (AV.cells (AV.agg [zK r2.col,zK r2.row,AV.bool r2.fc,AV.bool r2.fr])) zD rfl rfl rfl rfl <| zB (zJ q2) (zA tA (zC (zE zD))) rfl <| zB (zJ e) (zA tA (zC (zA tA (zC h6)))) rfl <| zM (r:=e + 1) rfl tO <| zO (zNA.2 tO) <| zB (zJ kk2) (zA tA (zC (zE zD))) rfl ?_
  refine zG <| zO (zNA.2 tO) <| zG <| zH <| zB (zJ e) (zA tA (zC (zA tA (zC h6)))) rfl <| zM (r:=e + 1) rfl tO ?_; refine zp (hf _ hP) (fun h=>by cases h) <| zB (zJ e2) (zA tA (zA tA (zC (zE zD)))) rfl <| zF (v:=zJ e2) [AV.str s,zJ e2,zK ↑(e + 1),zK 2,zK ↑D] (zE (zA tA (zC (zA tA (zC hb))))) rfl rfl rfl rfl <| zB (AV.agg [zK r1.col,zK r1.row,AV.bool r1.fc,AV.bool r1.fr]) (zA tA (zA tA (zA tA (zC (zA tA (zC h7)))))) rfl <| zB (AV.agg [zK r2.col,zK r2.row,AV.bool r2.fc,AV.bool r2.fr]) (zA tA (zA tA (zE zD))) rfl <| zS (v:=[.int .i64 6,.int .i64 0,AV.str [],zK r1.col,zK r1.row,AV.bool r1.fc,AV.bool r1.fr,zK r2.col,zK r2.row,AV.bool r2.fc,AV.bool r2.fr,AV.lst (some true) 0 []]) rfl ?_
  refine zF (v:=AV.agg [.int .i64 6,.int .i64 0,AV.str [],zK r1.col,zK r1.row,AV.bool r1.fc,AV.bool r1.fr,zK r2.col,zK r2.row,AV.bool r2.fc,AV.bool r2.fr,AV.lst (some true) 0 []]) (AV.cells (AV.agg [.int .i64 6,.int .i64 0,AV.str [],zK r1.col,zK r1.row,AV.bool r1.fc,AV.bool r1.fr,zK r2.col,zK r2.row,AV.bool r2.fc,AV.bool r2.fr,AV.lst (some true) 0 []])) (zA tA (zA tA (zA tA (zC (zA tA (zC h9)))))) rfl rfl rfl rfl ?_
  exact h _ _ rfl hP hP ⟨(fun c x hc g1 g2=>by have hcl:=(zg hc).1; repeat' (first | exact hc | refine zC ?_ | refine zA (by first | exact zNa g1 | exact zNa g2 | omega | (simp only [zMs,zMn,zMi,zMt]; omega) | (simp; omega)) ?_)),tC⟩
end
end Go.AM
set_option maxRecDepth 20000
namespace Go.AM
section
variable {C : CSpec} {GT : Nat → Option AV}
theorem call_tcont (K : Post) (b n4 n5 n6 n9 : Nat) (s : Bs) (D : Nat) (t : Bs) (m : Nd) (ks : List Nd) (v : AV) (B : ABlk) (H0 H : Heap) (fr : Fr) (hfr : zZ fr [6,0,4,5,9] = [(6,pR n6),(0,pR b),(4,pR n4),(5,pR n5),(9,pR n9)])
  (hob : OldB H0 b B H) (how : Owns H0 H v 12 (ks.map ndV)) (hkl : ks.length ≤ 200) (h4 : H[n4]? = some (.box (ndC zY))) (h5 : H[n5]? = some (.box (zAN t v))) (c0 c1 c2 c3 : AV) (h6 : H[n6]? = some (.box [c0,c1,c2,c3])) (h9 : H[n9]? = some (.box (ndC m)))
  (g4 : H0.length ≤ n4) (g5 : H0.length ≤ n5) (g6 : H0.length ≤ n6) (g9 : H0.length ≤ n9) (d45 : n4 ≠ n5) (d46 : n4 ≠ n6) (d56 : n5 ≠ n6) (e2 kk q e3 : Nat) (tt : Bs) (htk : ∀ H,C zV [.str s,zJ e2] H (kV kk q e3 tt) H)
  (hk : kk = 4) (ht : tt = [44]) (hB : B = rP s e2 D) (hb : H[b]? = some (rP s e2 D))
  (hcont : ∀ fr' H' v',zZ fr' [6,0,4,5] = [(6,pR n6),(0,pR b),(4,pR n4),(5,pR n5)] → H'[b]? = some (rP s e3 D) → H'[n5]? = some (.box (zAN t v')) → H'[n4]? = some (.box (ndC zY)) → (∃ c0 c1 c2 c3,H'[n6]? = some (.box [c0,c1,c2,c3])) → Owns H0 H' v' 12 ((ks ++ [m]).map ndV) → OldB H0 b (rP s e3 D) H' → K (.exit 1) fr' H') :
  EW C GT caT K fr H:=by
 subst hB
 refine zMW (fr2:=[(6,pR n6),(0,pR b),(4,pR n4),(5,pR n5),(9,pR n9)]) hfr ?_
 have hbl:=hob.lt
 have hlH0 : (H0.set b (rP s e2 D)).length = H0.length:=zMs
 have hel : (ndV m).elem 12 = true:=rfl
 refine zB (v) h5 rfl <| zB (AV.agg [.int .i64 m.kind,.int .i64 m.num,AV.str m.text,.int .i64 m.ref.col,.int .i64 m.ref.row,AV.bool m.ref.fc,AV.bool m.ref.fr,.int .i64 m.to.col,.int .i64 m.to.row,AV.bool m.to.fc,AV.bool m.to.fr,AV.lst (some m.kq) m.kk (kxs m)]) h9 rfl <| zAD (vs':=[AV.agg [.int .i64 m.kind,.int .i64 m.num,AV.str m.text,.int .i64 m.ref.col,.int .i64 m.ref.row,AV.bool m.ref.fc,AV.bool m.ref.fr,.int .i64 m.to.col,.int .i64 m.to.row,AV.bool m.to.fc,AV.bool m.to.fr,AV.lst (some m.kq) m.kk (kxs m)]]) rfl rfl ?_
 refine zAV (H0:=H0.set b (rP s e2 D)) ((how.base hlH0).push _) (hob.old.push _) zAB tO (by simp only [zMl,zMi,zMt]; omega) (by simp) fun v' H' ho' hH' hb' hf=>?_
 have hxb:=hf b _ (how.notBox hb) (zC hb)
 have hx4:=hf n4 _ (how.notBox h4) (zC h4)
 have hx5:=hf n5 _ (how.notBox h5) (zC h5)
 have hx6:=hf n6 _ (how.notBox h6) (zC h6)
 have hob3 : OldB H0 b (rP s e2 D) H':=⟨hbl,hH'⟩
 have hlb:=(zg hxb).1
 have hl4:=(zg hx4).1
 have hl5:=(zg hx5).1
 have hl6:=(zg hx6).1
 have how3 : Owns H0 H' v' 12 ((ks ++ [m]).map ndV):=by rw [zM2]; exact ho'.base hlH0.symm
 refine zCr (zAN t v') hx5 how3.one rfl rfl <| zB (AV.str s) (zA tA hxb) rfl <| zB (zK ↑e2) (zA tA hxb) rfl <| zI (htk _) <| zF (v:=kV kk q e3 tt) [zJ kk,zJ q,zJ e3,.str tt] hP rfl rfl rfl rfl <| zB (zK 0) (zA tA (zA tA hxb)) rfl ?_; refine zP tE <| zB (zJ kk) (zE (zA tA hx6)) rfl <| zH <| zP tE <| zB (AV.str tt) (zE (zA tA hx6)) rfl ?_; refine zH <| zP tE <| zB (zJ e3) (zE (zA tA hx6)) rfl <| zF (v:=zJ e3) [AV.str s,zJ e3,zK 0,zK 0,zK ↑D] (zA tA (zA tA hxb)) rfl rfl rfl rfl ?_
 exact hcont _ _ v' rfl hP hP hP ⟨_,_,_,_,hP⟩ (((how3.setBox hx5 (.box (zAN t v'))).setBox (cs:=[c0,c1,c2,c3]) hP (.box (kV kk q e3 tt).cells)).setBox (cs:=[.str s,zK e2,zK 0,zK 0,zK D]) hP _) (((hob3.set g5 _).set g6 _).setB _)
theorem call_tra (K : Post) (b n4 n5 n6 n9 : Nat) (s : Bs) (D : Nat) (t : Bs) (m : Nd) (ks : List Nd) (v : AV) (B : ABlk) (H0 H : Heap) (fr : Fr) (hfr : zZ fr [6,0,4,5,9] = [(6,pR n6),(0,pR b),(4,pR n4),(5,pR n5),(9,pR n9)])
  (hob : OldB H0 b B H) (how : Owns H0 H v 12 (ks.map ndV)) (hkl : ks.length ≤ 200) (h4 : H[n4]? = some (.box (ndC zY))) (h5 : H[n5]? = some (.box (zAN t v))) (c0 c1 c2 c3 : AV) (h6 : H[n6]? = some (.box [c0,c1,c2,c3])) (h9 : H[n9]? = some (.box (ndC m)))
  (g4 : H0.length ≤ n4) (g5 : H0.length ≤ n5) (g6 : H0.length ≤ n6) (g9 : H0.length ≤ n9) (d45 : n4 ≠ n5) (d46 : n4 ≠ n6) (d56 : n5 ≠ n6) (e2 kk q e3 : Nat) (tt : Bs) (htk : ∀ H,C zV [.str s,zJ e2] H (kV kk q e3 tt) H)
  (hk : kk ≠ 4) (hB : B = rP s e2 D) (hb : H[b]? = some (rP s e2 D))
  (RB : ABlk) (hc : ∀ H,H[b]? = some B → C zd [pR b] H (.tup []) (H.set b RB))
  (hret : ∀ fr' H' v',getF fr' 4 = pR n4 → H'[n4]? = some (.box (zAN t v')) → Owns H0 H' v' 12 ((ks ++ [m]).map ndV) → OldB H0 b RB H' → K .ret fr' H') :
  EW C GT caT K fr H:=by
 subst hB
 refine zMW (fr2:=[(6,pR n6),(0,pR b),(4,pR n4),(5,pR n5),(9,pR n9)]) hfr ?_
 have hbl:=hob.lt
 have hlH0 : (H0.set b (rP s e2 D)).length = H0.length:=zMs
 have hel : (ndV m).elem 12 = true:=rfl
 refine zB (v) h5 rfl <| zB (AV.agg [.int .i64 m.kind,.int .i64 m.num,AV.str m.text,.int .i64 m.ref.col,.int .i64 m.ref.row,AV.bool m.ref.fc,AV.bool m.ref.fr,.int .i64 m.to.col,.int .i64 m.to.row,AV.bool m.to.fc,AV.bool m.to.fr,AV.lst (some m.kq) m.kk (kxs m)]) h9 rfl <| zAD (vs':=[AV.agg [.int .i64 m.kind,.int .i64 m.num,AV.str m.text,.int .i64 m.ref.col,.int .i64 m.ref.row,AV.bool m.ref.fc,AV.bool m.ref.fr,.int .i64 m.to.col,.int .i64 m.to.row,AV.bool m.to.fc,AV.bool m.to.fr,AV.lst (some m.kq) m.kk (kxs m)]]) rfl rfl ?_
 refine zAV (H0:=H0.set b (rP s e2 D)) ((how.base hlH0).push _) (hob.old.push _) zAB tO (by simp only [zMl,zMi,zMt]; omega) (by simp) fun v' H' ho' hH' hb' hf=>?_
 have hxb:=hf b _ (how.notBox hb) (zC hb)
 have hx4:=hf n4 _ (how.notBox h4) (zC h4)
 have hx5:=hf n5 _ (how.notBox h5) (zC h5)
 have hx6:=hf n6 _ (how.notBox h6) (zC h6)
 have hob3 : OldB H0 b (rP s e2 D) H':=⟨hbl,hH'⟩
 have hlb:=(zg hxb).1
 have hl4:=(zg hx4).1
 have hl5:=(zg hx5).1
 have hl6:=(zg hx6).1
 have how3 : Owns H0 H' v' 12 ((ks ++ [m]).map ndV):=by rw [zM2]; exact ho'.base hlH0.symm
 refine zCr (zAN t v') hx5 how3.one rfl rfl <| zB (AV.str s) (zA tA hxb) rfl <| zB (zK ↑e2) (zA tA hxb) rfl <| zI (htk _) <| zF (v:=kV kk q e3 tt) [zJ kk,zJ q,zJ e3,.str tt] hP rfl rfl rfl rfl <| zB (zK 0) (zA tA (zA tA hxb)) rfl ?_; refine zH <| zB (zJ kk) (zE (zA tA hx6)) rfl <| zH <| zO tN <| zG <| zG ?_; refine zp (hc _ hP) (fun h=>by cases h) <| zB (AV.agg [.int .i64 9,.int .i64 0,AV.str t,.int .i64 0,.int .i64 0,AV.bool false,AV.bool false,.int .i64 0,.int .i64 0,AV.bool false,AV.bool false,v']) (zA tA (zA tA (zE hx5))) rfl <| zF (v:=.agg (zAN t v')) (zAN t v') hP rfl (zF4 how3.one.2) rfl rfl ?_
 exact hret _ _ v' rfl hP ((((how3.setBox hx5 (.box (zAN t v'))).setBox (cs:=[c0,c1,c2,c3]) hP (.box (kV kk q e3 tt).cells)).setBox (cs:=[.str s,zK e2,zK 0,zK 0,zK D]) hP _).setBox (cs:=ndC zY) hP _) ((((hob3.set g5 _).set g6 _).setB _).set g4 _)
theorem call_trb (K : Post) (b n4 n5 n6 n9 : Nat) (s : Bs) (D : Nat) (t : Bs) (m : Nd) (ks : List Nd) (v : AV) (B : ABlk) (H0 H : Heap) (fr : Fr) (hfr : zZ fr [6,0,4,5,9] = [(6,pR n6),(0,pR b),(4,pR n4),(5,pR n5),(9,pR n9)])
  (hob : OldB H0 b B H) (how : Owns H0 H v 12 (ks.map ndV)) (hkl : ks.length ≤ 200) (h4 : H[n4]? = some (.box (ndC zY))) (h5 : H[n5]? = some (.box (zAN t v))) (c0 c1 c2 c3 : AV) (h6 : H[n6]? = some (.box [c0,c1,c2,c3])) (h9 : H[n9]? = some (.box (ndC m)))
  (g4 : H0.length ≤ n4) (g5 : H0.length ≤ n5) (g6 : H0.length ≤ n6) (g9 : H0.length ≤ n9) (d45 : n4 ≠ n5) (d46 : n4 ≠ n6) (d56 : n5 ≠ n6) (e2 kk q e3 : Nat) (tt : Bs) (htk : ∀ H,C zV [.str s,zJ e2] H (kV kk q e3 tt) H)
  (hk : kk = 4) (ht : tt ≠ [44]) (hB : B = rP s e2 D) (hb : H[b]? = some (rP s e2 D))
  (RB : ABlk) (hc : ∀ H,H[b]? = some B → C zd [pR b] H (.tup []) (H.set b RB))
  (hret : ∀ fr' H' v',getF fr' 4 = pR n4 → H'[n4]? = some (.box (zAN t v')) → Owns H0 H' v' 12 ((ks ++ [m]).map ndV) → OldB H0 b RB H' → K .ret fr' H') :
  EW C GT caT K fr H:=by
 subst hB
 refine zMW (fr2:=[(6,pR n6),(0,pR b),(4,pR n4),(5,pR n5),(9,pR n9)]) hfr ?_
 have hbl:=hob.lt
 have hlH0 : (H0.set b (rP s e2 D)).length = H0.length:=zMs
 have hel : (ndV m).elem 12 = true:=rfl
 refine zB (v) h5 rfl <| zB (AV.agg [.int .i64 m.kind,.int .i64 m.num,AV.str m.text,.int .i64 m.ref.col,.int .i64 m.ref.row,AV.bool m.ref.fc,AV.bool m.ref.fr,.int .i64 m.to.col,.int .i64 m.to.row,AV.bool m.to.fc,AV.bool m.to.fr,AV.lst (some m.kq) m.kk (kxs m)]) h9 rfl <| zAD (vs':=[AV.agg [.int .i64 m.kind,.int .i64 m.num,AV.str m.text,.int .i64 m.ref.col,.int .i64 m.ref.row,AV.bool m.ref.fc,AV.bool m.ref.fr,.int .i64 m.to.col,.int .i64 m.to.row,AV.bool m.to.fc,AV.bool m.to.fr,AV.lst (some m.kq) m.kk (kxs m)]]) rfl rfl ?_
 refine zAV (H0:=H0.set b (rP s e2 D)) ((how.base hlH0).push _) (hob.old.push _) zAB tO (by simp only [zMl,zMi,zMt]; omega) (by simp) fun v' H' ho' hH' hb' hf=>?_
 have hxb:=hf b _ (how.notBox hb) (zC hb)
 have hx4:=hf n4 _ (how.notBox h4) (zC h4)
 have hx5:=hf n5 _ (how.notBox h5) (zC h5)
 have hx6:=hf n6 _ (how.notBox h6) (zC h6)
 have hob3 : OldB H0 b (rP s e2 D) H':=⟨hbl,hH'⟩
 have hlb:=(zg hxb).1
 have hl4:=(zg hx4).1
 have hl5:=(zg hx5).1
 have hl6:=(zg hx6).1
 have how3 : Owns H0 H' v' 12 ((ks ++ [m]).map ndV):=by rw [zM2]; exact ho'.base hlH0.symm
 refine zCr (zAN t v') hx5 how3.one rfl rfl <| zB (AV.str s) (zA tA hxb) rfl <| zB (zK ↑e2) (zA tA hxb) rfl <| zI (htk _) <| zF (v:=kV kk q e3 tt) [zJ kk,zJ q,zJ e3,.str tt] hP rfl rfl rfl rfl <| zB (zK 0) (zA tA (zA tA hxb)) rfl ?_; refine zP tE <| zB (zJ kk) (zE (zA tA hx6)) rfl <| zH <| zP tE <| zB (AV.str tt) (zE (zA tA hx6)) rfl ?_; refine zH <| zO (tN ht) <| zp (hc _ hP) (fun h=>by cases h) <| zB (AV.agg [.int .i64 9,.int .i64 0,AV.str t,.int .i64 0,.int .i64 0,AV.bool false,AV.bool false,.int .i64 0,.int .i64 0,AV.bool false,AV.bool false,v']) (zA tA (zA tA (zE hx5))) rfl <| zF (v:=.agg (zAN t v')) (zAN t v') hP rfl (zF4 how3.one.2) rfl rfl ?_
 exact hret _ _ v' rfl hP ((((how3.setBox hx5 (.box (zAN t v'))).setBox (cs:=[c0,c1,c2,c3]) hP (.box (kV kk q e3 tt).cells)).setBox (cs:=[.str s,zK e2,zK 0,zK 0,zK D]) hP _).setBox (cs:=ndC zY) hP _) ((((hob3.set g5 _).set g6 _).setB _).set g4 _)
theorem call_tbad (K : Post) (b n4 n5 n6 n9 : Nat) (s : Bs) (D : Nat) (t : Bs) (m : Nd) (ks : List Nd) (v : AV) (B : ABlk) (H0 H : Heap) (fr : Fr) (hfr : zZ fr [6,0,4,5,9] = [(6,pR n6),(0,pR b),(4,pR n4),(5,pR n5),(9,pR n9)])
  (hob : OldB H0 b B H) (how : Owns H0 H v 12 (ks.map ndV)) (hkl : ks.length ≤ 200) (h4 : H[n4]? = some (.box (ndC zY))) (h5 : H[n5]? = some (.box (zAN t v))) (c0 c1 c2 c3 : AV) (h6 : H[n6]? = some (.box [c0,c1,c2,c3])) (h9 : H[n9]? = some (.box (ndC m)))
  (g4 : H0.length ≤ n4) (g5 : H0.length ≤ n5) (g6 : H0.length ≤ n6) (g9 : H0.length ≤ n9) (d45 : n4 ≠ n5) (d46 : n4 ≠ n6) (d56 : n5 ≠ n6) (e2 kk q e3 : Nat) (tt : Bs) (htk : ∀ H,C zV [.str s,zJ e2] H (kV kk q e3 tt) H)
  (w ee dd : Int) (he : ee ≠ 0) (hB : B = pB s e2 w ee dd) (hb : H[b]? = some (pB s e2 w ee dd))
  (RB : ABlk) (hc : ∀ H,H[b]? = some B → C zd [pR b] H (.tup []) (H.set b RB))
  (hret : ∀ fr' H' v',getF fr' 4 = pR n4 → H'[n4]? = some (.box (zAN t v')) → Owns H0 H' v' 12 ((ks ++ [m]).map ndV) → OldB H0 b RB H' → K .ret fr' H') :
  EW C GT caT K fr H:=by
 subst hB
 refine zMW (fr2:=[(6,pR n6),(0,pR b),(4,pR n4),(5,pR n5),(9,pR n9)]) hfr ?_
 have hbl:=hob.lt
 have hlH0 : (H0.set b (pB s e2 w ee dd)).length = H0.length:=zMs
 have hel : (ndV m).elem 12 = true:=rfl
 refine zB (v) h5 rfl <| zB (AV.agg [.int .i64 m.kind,.int .i64 m.num,AV.str m.text,.int .i64 m.ref.col,.int .i64 m.ref.row,AV.bool m.ref.fc,AV.bool m.ref.fr,.int .i64 m.to.col,.int .i64 m.to.row,AV.bool m.to.fc,AV.bool m.to.fr,AV.lst (some m.kq) m.kk (kxs m)]) h9 rfl <| zAD (vs':=[AV.agg [.int .i64 m.kind,.int .i64 m.num,AV.str m.text,.int .i64 m.ref.col,.int .i64 m.ref.row,AV.bool m.ref.fc,AV.bool m.ref.fr,.int .i64 m.to.col,.int .i64 m.to.row,AV.bool m.to.fc,AV.bool m.to.fr,AV.lst (some m.kq) m.kk (kxs m)]]) rfl rfl ?_
 refine zAV (H0:=H0.set b (pB s e2 w ee dd)) ((how.base hlH0).push _) (hob.old.push _) zAB tO (by simp only [zMl,zMi,zMt]; omega) (by simp) fun v' H' ho' hH' hb' hf=>?_
 have hxb:=hf b _ (how.notBox hb) (zC hb)
 have hx4:=hf n4 _ (how.notBox h4) (zC h4)
 have hx5:=hf n5 _ (how.notBox h5) (zC h5)
 have hx6:=hf n6 _ (how.notBox h6) (zC h6)
 have hob3 : OldB H0 b (pB s e2 w ee dd) H':=⟨hbl,hH'⟩
 have hlb:=(zg hxb).1
 have hl4:=(zg hx4).1
 have hl5:=(zg hx5).1
 have hl6:=(zg hx6).1
 have how3 : Owns H0 H' v' 12 ((ks ++ [m]).map ndV):=by rw [zM2]; exact ho'.base hlH0.symm
 refine zCr (zAN t v') hx5 how3.one rfl rfl <| zB (AV.str s) (zA tA hxb) rfl <| zB (zK ↑e2) (zA tA hxb) rfl <| zI (htk _) <| zF (v:=kV kk q e3 tt) [zJ kk,zJ q,zJ e3,.str tt] hP rfl rfl rfl rfl <| zB (zK ee) (zA tA (zA tA hxb)) rfl ?_; refine zO (tN he) <| zG <| zG <| zG <| zG <| zp (hc _ hP) (fun h=>by cases h) ?_; refine zB (AV.agg [.int .i64 9,.int .i64 0,AV.str t,.int .i64 0,.int .i64 0,AV.bool false,AV.bool false,.int .i64 0,.int .i64 0,AV.bool false,AV.bool false,v']) (zA tA (zA tA (zE hx5))) rfl <| zF (v:=.agg (zAN t v')) (zAN t v') hP rfl (zF4 how3.one.2) rfl rfl ?_
 exact hret _ _ v' rfl hP ((((how3.setBox hx5 (.box (zAN t v'))).setBox (cs:=[c0,c1,c2,c3]) hP (.box (kV kk q e3 tt).cells)).setBox (cs:=[.str s,zK e2,zK w,zK ee,zK dd]) hP _).setBox (cs:=ndC zY) hP _) ((((hob3.set g5 _).set g6 _).setB _).set g4 _)
end
end Go.AM
set_option maxRecDepth 20000
namespace Go.AM
theorem box_in {s : Bs} {a e1 : Nat} {w1 : Bs} {r1 : RefP} (ht : tok s a = .word e1 w1) (hr : zCu w1 = some r1) (h58 : s[e1]? = some 58) :
  zEB s a = some (if skip s (e1 + 1) = e1 + 1 ∧ tkK (tok s (e1 + 1)) = 1 then (zCu (tkT (tok s (e1 + 1)))).map fun r2=>(boxN r1 r2,tkE (skip s (e1 + 1)) (tok s (e1 + 1))) else none):=by
 unfold zEB
 rw [ht]
 simp only [hr,h58,zND]
 by_cases h32 : s[e1 + 1]? = some 32
 ·have h1 : skip s (e1 + 1) ≠ e1 + 1:=by
   have:=zJ6 h32
   have:=zEg s (e1 + 1 + 1)
   omega
  rw [zMe (fun x=>h1 x.1)]
  have : zCX s (e1 + 1) = .sign (e1 + 2) [32]:=by
   unfold zCX
   rw [h32]
   have w32 : z6 32 = false:=by decide
   have n1 : ¬ ((32 : UInt8) = 34):=by decide
   have n2 : ¬ ((32 : UInt8) = 35):=by decide
   simp only [w32,zMm,zNB,n1,n2]
   cases s[e1 + 1 + 1]? with
   | none=>rfl
   | some d=>
    simp only
    rw [zMe (by rintro (⟨h,_⟩ | ⟨h,_⟩ | ⟨h,_⟩) <;> revert h <;> decide)]
  rw [this]
 ·have h1:=zDl h32
  have h2:=zKb h32
  rw [h1,h2]
  cases zCX s (e1 + 1) with
  | word e2 t2=>simp [tkK,tkT,tkE]
  | fin=>simp [tkK]
  | txt e2 t2=>simp [tkK]
  | bad e2 t2=>simp [tkK]
  | sign e2 t2=>simp [tkK]
  | none=>simp [tkK]
theorem box_out {s : Bs} {a : Nat} (h : ¬ ∃ e1 w1 r1,tok s a = .word e1 w1 ∧ zCu w1 = some r1 ∧ s[e1]? = some 58) : zEB s a = none:=by
 unfold zEB
 split
 ·rename_i e t ht
  split
  ·rename_i r hr
   split
   ·rename_i h58
    exact absurd ⟨e,t,r,ht,hr,h58⟩ h
   ·rfl
  ·rfl
 ·rfl
def emB (s : Bs) (e1 : Nat) : Nat:=tkE (skip s (e1 + 1)) (tok s (e1 + 1))
def clB (s : Bs) (a : Nat) (w e d : Int) : ABlk:=pB s (tkE (skip s a) (tok s a) : Nat) w e (IntKind.wrap .i64 (d - 1))
inductive AF' (C : CSpec) (b : Nat) (s : Bs) (d : Nat) : List Nd → Nat → List Nd → ABlk → Prop where
 | box (ks : List Nd) (a e1 : Nat) (w1 : Bs) (r1 : RefP) (ht : tok s a = .word e1 w1) (hr : zCu w1 = some r1) (h58 : s[e1]? = some 58) (hn : zEB s a = some none) :
   AF' C b s d ks a (ks ++ [boxN r1 ((zCu (tkT (tok s (e1 + 1)))).getD noRef)]) (clB s (emB s e1) (e1 + 1 : Nat) 2 (d + 1 : Nat))
 | lo (ks : List Nd) (a : Nat) (nw : Nd) (W : Bd) (hn : zEB s a = none) (hl : (P s).loose 1 a (d + 1) = none) (hW : W.ok s) (h : ∀ H,H[b]? = some (rP s a (d + 1)) → C zW [pR b,.int .i64 1] H (ndV nw) (H.set b (W.blk s))) :
   AF' C b s d ks a (ks ++ [nw]) (clB s W.a W.w W.e W.d)
 | close (ks : List Nd) (a : Nat) (m : Nd) (e2 : Nat) (h : zEj s (P s) a (d + 1) = some (m,e2)) (h44 : ¬ ∃ e3,tok s e2 = .sign e3 [44]) (h41 : ¬ ∃ e3,tok s e2 = .sign e3 [41]) :
   AF' C b s d ks a (ks ++ [m]) (pB s (tkE (skip s e2) (tok s e2) : Nat) (skip s e2 : Nat) 2 d)
 | later (ks : List Nd) (a : Nat) (m : Nd) (e2 e3 : Nat) (L : List Nd) (RB : ABlk) (h : zEj s (P s) a (d + 1) = some (m,e2)) (h44 : tok s e2 = .sign e3 [44]) (k : AF' C b s d (ks ++ [m]) e3 L RB) : AF' C b s d ks a L RB
theorem args_fail {C : CSpec} {b : Nat} {s : Bs} {d : Nat} {t : Bs} (e0 : Nat) (hLo : ∀ a,e0 < a → a ≤ s.length → CF C zW [pR b,.int .i64 1] b s a (d + 1) ((P s).loose 1 a (d + 1))) : ∀ (k : Nat) (ks : List Nd) (a : Nat),e0 < a → a ≤ s.length → s.length - a ≤ k → (P s).args t ks a (d + 1) = none → ∃ L RB,AF' C b s d ks a L RB:=by
 intro k
 induction k with
 | zero=>
  intro ks a h0 ha hk h
  have hae : a = s.length:=by omega
  have hb : zEB s a = none:=by
   refine box_out ?_
   rintro ⟨e1,w1,r1,ht,_⟩
   have:=zBr s a
   rw [ht] at this
   simp only [Tok.endsBy] at this
   omega
  have hl : (P s).loose 1 a (d + 1) = none:=by
   cases hl : (P s).loose 1 a (d + 1) with
   | none=>rfl
   | some q=>have:=(zCE s).loose 1 a (d + 1) q ha hl; omega
  obtain ⟨n',a',w,e',d',h1,h2,h3⟩:=(hLo a h0 ha).2 hl
  exact ⟨_,_,.lo ks a n' ⟨a',w,e',d'⟩ hb hl ⟨h1,h2⟩ h3⟩
 | succ k ih=>
  intro ks a h0 ha hk h
  rw [zMQ t ks (d + 1) ha] at h
  unfold zF1 at h
  cases hpa : zEj s (P s) a (d + 1) with
  | none=>
   have hpa':=hpa
   unfold zEj at hpa'
   cases hb : zEB s a with
   | some r=>
    rw [hb] at hpa'
    simp only at hpa'
    subst hpa'
    have : ∃ e1 w1 r1,tok s a = .word e1 w1 ∧ zCu w1 = some r1 ∧ s[e1]? = some 58:=zNy fun x=>by rw [box_out x] at hb; cases hb
    obtain ⟨e1,w1,r1,ht,hr,h58⟩:=this
    exact ⟨_,_,.box ks a e1 w1 r1 ht hr h58 hb⟩
   | none=>
    rw [hb] at hpa'
    simp only at hpa'
    obtain ⟨n',a',w,e',d',h1,h2,h3⟩:=(hLo a h0 ha).2 hpa'
    exact ⟨_,_,.lo ks a n' ⟨a',w,e',d'⟩ hb hpa' ⟨h1,h2⟩ h3⟩
  | some x=>
   obtain ⟨m,e2⟩:=x
   have hx:=zHl (zCE s) a (d + 1) _ ha hpa
   simp only at hx
   rw [hpa,zNb] at h
   by_cases h44 : ∃ e3,tok s e2 = .sign e3 [44]
   ·obtain ⟨e3,h44⟩:=h44
    have ht:=zBr s e2
    simp only [h44] at h
    rw [h44] at ht
    simp only [Tok.endsBy] at ht
    obtain ⟨L,RB,hL⟩:=ih (ks ++ [m]) e3 tO tO tO h
    exact ⟨L,RB,.later ks a m e2 e3 L RB hpa h44 hL⟩
   ·by_cases h41 : ∃ e3,tok s e2 = .sign e3 [41]
    ·obtain ⟨e3,h41⟩:=h41
     simp only [h41] at h
     cases h
    ·exact ⟨_,_,.close ks a m e2 hpa h44 h41⟩
def AR (C : CSpec) (b : Nat) (s : Bs) (d : Nat) (t : Bs) (ks : List Nd) (a : Nat) (RV : AV) (RB : ABlk) : Prop:=
 (∃ n' e',(P s).args t ks a (d + 1) = some (n',e') ∧ RV = ndV n' ∧ RB = rP s e' d) ∨ (∃ L,AF' C b s d ks a L RB ∧ RV = ndV (zEi t L))
def AN (C : CSpec) (b : Nat) (s : Bs) (d : Nat) (t : Bs) (L : List Nd) (e2 : Nat) (RV : AV) (RB : ABlk) : Prop:=
 (∃ e3,tok s e2 = .sign e3 [44] ∧ AR C b s d t L e3 RV RB) ∨ (∃ e3,tok s e2 = .sign e3 [41] ∧ RV = ndV (zEi t L) ∧ RB = rP s e3 d) ∨
 ((¬ ∃ e3,tok s e2 = .sign e3 [44]) ∧ (¬ ∃ e3,tok s e2 = .sign e3 [41]) ∧ RV = ndV (zEi t L) ∧ RB = pB s (tkE (skip s e2) (tok s e2) : Nat) (skip s e2 : Nat) 2 d)
theorem AR.ok {C : CSpec} {b : Nat} {s : Bs} {d : Nat} {t : Bs} {ks : List Nd} {a : Nat} {RV : AV} {RB : ABlk} (h : AR C b s d t ks a RV RB) (ha : a ≤ s.length) {m : Nd} {e2 : Nat} (hp : zEj s (P s) a (d + 1) = some (m,e2)) : AN C b s d t (ks ++ [m]) e2 RV RB:=by
 rcases h with ⟨n',e',h1,h2,h3⟩ | ⟨L,hL,hv⟩
 ·rw [zMQ t ks (d + 1) ha] at h1
  unfold zF1 at h1
  rw [hp,zNb] at h1
  by_cases h44 : ∃ e3,tok s e2 = .sign e3 [44]
  ·obtain ⟨e3,h44⟩:=h44
   simp only [h44] at h1
   exact .inl ⟨e3,h44,.inl ⟨n',e',h1,h2,h3⟩⟩
  ·by_cases h41 : ∃ e3,tok s e2 = .sign e3 [41]
   ·obtain ⟨e3,h41⟩:=h41
    simp only [h41] at h1
    obtain ⟨rfl,rfl⟩ : zEi t (ks ++ [m]) = n' ∧ e3 = e':=by cases h1; exact ⟨rfl,rfl⟩
    exact .inr (.inl ⟨_,h41,h2,h3⟩)
   ·exfalso
    split at h1
    ·rename_i e3 hk; exact h44 ⟨e3,hk⟩
    ·rename_i e3 hk; exact h41 ⟨e3,hk⟩
    ·cases h1
 ·cases hL with
  | box _ _ e1 w1 r1 ht hr h58 hn=>unfold zEj at hp; rw [hn] at hp; cases hp
  | lo _ _ nw W hn hl hW h=>unfold zEj at hp; rw [hn] at hp; simp only at hp; rw [hl] at hp; cases hp
  | close _ _ m' e2' h h44 h41=>rw [hp] at h; cases h; exact .inr (.inr ⟨h44,h41,hv,rfl⟩)
  | later _ _ m' e2' e3 _ _ h h44 k=>rw [hp] at h; cases h; exact .inl ⟨_,h44,.inr ⟨L,k,hv⟩⟩
theorem AR.bx {C : CSpec} {b : Nat} {s : Bs} {d : Nat} {t : Bs} {ks : List Nd} {a : Nat} {RV : AV} {RB : ABlk} (h : AR C b s d t ks a RV RB) (ha : a ≤ s.length) (hb : zEB s a = some none) {e1 : Nat} {w1 : Bs} {r1 : RefP} (ht : tok s a = .word e1 w1) (hr : zCu w1 = some r1) :
  RV = ndV (zEi t (ks ++ [boxN r1 ((zCu (tkT (tok s (e1 + 1)))).getD noRef)])) ∧ RB = clB s (emB s e1) (e1 + 1 : Nat) 2 (d + 1 : Nat):=by
 have hp : zEj s (P s) a (d + 1) = none:=by unfold zEj; rw [hb]
 rcases h with ⟨n',e',h1,h2,h3⟩ | ⟨L,hL,hv⟩
 ·rw [zMQ t ks (d + 1) ha] at h1
  unfold zF1 at h1
  rw [hp] at h1; cases h1
 ·cases hL with
  | box _ _ e1' w1' r1' ht' hr' h58 hn=>rw [ht] at ht'; cases ht'; rw [hr] at hr'; cases hr'; exact ⟨hv,rfl⟩
  | lo _ _ nw W hn hl hW h=>rw [hb] at hn; cases hn
  | close _ _ m' e2' h h44 h41=>rw [hp] at h; cases h
  | later _ _ m' e2' e3 _ _ h h44 k=>rw [hp] at h; cases h
theorem AR.lw {C : CSpec} {b : Nat} {s : Bs} {d : Nat} {t : Bs} {ks : List Nd} {a : Nat} {RV : AV} {RB : ABlk} (h : AR C b s d t ks a RV RB) (ha : a ≤ s.length) (hb : zEB s a = none) (hl : (P s).loose 1 a (d + 1) = none) :
  ∃ (nw : Nd) (W : Bd),W.ok s ∧ (∀ H,H[b]? = some (rP s a (d + 1)) → C zW [pR b,.int .i64 1] H (ndV nw) (H.set b (W.blk s))) ∧ RV = ndV (zEi t (ks ++ [nw])) ∧ RB = clB s W.a W.w W.e W.d:=by
 have hp : zEj s (P s) a (d + 1) = none:=by unfold zEj; rw [hb]; exact hl
 rcases h with ⟨n',e',h1,h2,h3⟩ | ⟨L,hL,hv⟩
 ·rw [zMQ t ks (d + 1) ha] at h1
  unfold zF1 at h1
  rw [hp] at h1; cases h1
 ·cases hL with
  | box _ _ e1' w1' r1' ht' hr' h58 hn=>rw [hb] at hn; cases hn
  | lo _ _ nw W hn hl' hW h=>exact ⟨nw,W,hW,h,hv,rfl⟩
  | close _ _ m' e2' h h44 h41=>rw [hp] at h; cases h
  | later _ _ m' e2' e3 _ _ h h44 k=>rw [hp] at h; cases h
structure CaS where
 a : Nat
 v : AV
 ks : List Nd
section
variable {C : CSpec} {GT : Nat → Option AV}
theorem call_c0 (X : AC) (K : Post) (b n4 n5 n6 : Nat) (s : Bs) (a d : Nat) (H : Heap) (hb : H[b]? = some (rP s a d)) (h : ∀ fr',zZ fr' [6,0,4,5] = [(6,pR n6),(0,pR b),(4,pR n4),(5,pR n5)] → EW C GT X K fr' H) :
  EW C GT (.seq zBR.first X) K [(6,pR n6),(0,pR b),(4,pR n4),(5,pR n5)] H:=by
 refine zB (zK 0) hb rfl <| zP (tE (by rfl)) ?_
 exact h _ rfl
theorem call_s1 (T : AC) (K : Post) (b : Nat) (s t : Bs) (e d kk q e2 : Nat) (tt : Bs) (H : Heap) (hb : H[b]? = some (rP s e d)) (hel : e ≤ 200) (htk : ∀ H,C zV [.str s,zJ (e + 1)] H (kV kk q e2 tt) H)
  (h : ∀ fr' H' n4 n5 n6,n4 = H.length → n5 = H.length + 1 → n6 = H.length + 2 → zZ fr' [4,5,0,6] = [(4,pR n4),(5,pR n5),(0,pR b),(6,pR n6)] → OldB H b (rP s (e + 1) d) H' → H'[b]? = some (rP s (e + 1) d) → H'[n4]? = some (.box (ndC zY)) → H'[n5]? = some (.box (zAN t (.lst (some true) 0 []))) → H'[n6]? = some (.box [zJ kk,zJ q,zJ e2,.str tt]) → EW C GT T K fr' H') :
  EW C GT (.seq zBI.first (.seq zBI.rest.first (.seq zBI.rest.rest.first (.seq zBI.rest.rest.rest.first T)))) K [(0,pR b),(1,.str t)] H:=by
 have hbl : b < H.length:=(zg hb).1
 refine zS (v:=[.int .i64 9,.int .i64 0,AV.str t,.int .i64 0,.int .i64 0,AV.bool false,AV.bool false,.int .i64 0,.int .i64 0,AV.bool false,AV.bool false,AV.lst (some true) 0 []]) rfl <| zF (v:=AV.agg [.int .i64 9,.int .i64 0,AV.str t,.int .i64 0,.int .i64 0,AV.bool false,AV.bool false,.int .i64 0,.int .i64 0,AV.bool false,AV.bool false,AV.lst (some true) 0 []]) (AV.cells (AV.agg [.int .i64 9,.int .i64 0,AV.str t,.int .i64 0,.int .i64 0,AV.bool false,AV.bool false,.int .i64 0,.int .i64 0,AV.bool false,AV.bool false,AV.lst (some true) 0 []])) zD rfl rfl rfl rfl <| zB (zK ↑e) (zA tA (zC (zC hb))) rfl <| zM (r:=e + 1) rfl tO <| zF (v:=.int .i64 ↑(e + 1)) [AV.str s,.int .i64 ↑(e + 1),zK 0,zK 0,zK ↑d] (zA tA (zC (zC hb))) rfl rfl rfl rfl <| zB (AV.str s) (zE (zA tA (zC (zC hb)))) rfl ?_
 refine zB (.int .i64 ↑(e + 1)) (zE (zA tA (zC (zC hb)))) rfl ?_; refine zG7 ?_ ?_
 all_goals
  refine zI (htk _) <| zF (v:=kV kk q e2 tt) [zJ kk,zJ q,zJ e2,.str tt] hP rfl rfl rfl rfl ?_
  exact h _ _ _ _ _ rfl (by simp) (by simp) rfl (by have hob:=OldB.start hb; repeat' (first | exact ⟨_,hob⟩ | apply zAO | apply zAP | refine zAi ?_ tC _ | apply OldB.push | apply OldB.setE | refine OldB.set ?_ tC _)) hP hP hP hP
abbrev caE : AC:=zBI.rest.rest.rest.rest
theorem call_s2 (T : AC) (K : Post) (b n4 n5 n6 kk q e2 : Nat) (tt : Bs) (H : Heap) (fr : Fr) (hfr : zZ fr [4,5,0,6] = [(4,pR n4),(5,pR n5),(0,pR b),(6,pR n6)]) (h6 : H[n6]? = some (.box [zJ kk,zJ q,zJ e2,.str tt])) (hno : ¬ (kk = 4 ∧ tt = [41]))
  (h : ∀ fr',zZ fr' [6,0,4,5] = [(6,pR n6),(0,pR b),(4,pR n4),(5,pR n5)] → EW C GT T K fr' H) : EW C GT (.seq caE.first T) K fr H:=by
 refine zFY (fr2:=[(4,pR n4),(5,pR n5),(0,pR b),(6,pR n6)]) hfr ?_
 by_cases h4 : kk = 4
 ·have h41 : tt ≠ [41]:=fun x=>hno ⟨h4,x⟩
  refine zB (zJ kk) h6 rfl <| zP tE <| zB (AV.str tt) h6 rfl <| zH <| zO (tN h41) ?_
  exact h _ rfl
 ·refine zB (zJ kk) h6 rfl <| zO tN <| zG <| zG ?_
  exact h _ rfl
theorem call_s3 (T : AC) (K : Post) (b n4 n5 n6 kk q e2 : Nat) (t tt : Bs) (B RB : ABlk) (H0 H : Heap) (fr : Fr) (hfr : zZ fr [4,5,0,6] = [(4,pR n4),(5,pR n5),(0,pR b),(6,pR n6)]) (h6 : H[n6]? = some (.box [zJ kk,zJ q,zJ e2,.str tt])) (hk : kk = 4) (ht : tt = [41])
  (hob : OldB H0 b B H) (hb : H[b]? = some B) (h4 : H[n4]? = some (.box (ndC zY))) (h5 : H[n5]? = some (.box (zAN t (.lst (some true) 0 [])))) (g4 : H0.length ≤ n4) (g5 : H0.length ≤ n5) (d45 : n4 ≠ n5) (hc : ∀ H,H[b]? = some B → C zd [pR b] H (.tup []) (H.set b RB))
  (hret : ∀ fr' H',getF fr' 4 = pR n4 → H'[n4]? = some (.box (zAN t (.lst (some true) 0 []))) → OldB H0 b RB H' → K .ret fr' H') : EW C GT (.seq caE.first T) K fr H:=by
 refine zFY (fr2:=[(4,pR n4),(5,pR n5),(0,pR b),(6,pR n6)]) hfr ?_
 have hbl:=hob.lt
 have hl4:=(zg h4).1
 have hl5:=(zg h5).1
 refine zB (zJ kk) h6 rfl <| zP tE <| zB (AV.str tt) h6 rfl <| zH <| zP tE <| zp (hc _ hb) (fun h=>by cases h) ?_; refine zB (AV.agg [.int .i64 9,.int .i64 0,AV.str t,.int .i64 0,.int .i64 0,AV.bool false,AV.bool false,.int .i64 0,.int .i64 0,AV.bool false,AV.bool false,AV.lst (some true) 0 []]) (zA tA h5) rfl <| zF (v:=.agg (zAN t (.lst (some true) 0 []))) (zAN t (.lst (some true) 0 [])) hP rfl rfl rfl rfl ?_
 exact hret _ _ rfl hP ((hob.setB _).set g4 _)
end
end Go.AM
