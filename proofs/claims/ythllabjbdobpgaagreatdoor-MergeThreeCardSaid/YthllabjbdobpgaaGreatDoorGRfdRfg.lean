/- Several texts of mine in one (Rfd, Rfe, Rff, Chk, Rfg). Own work. -/
import Derived.Test.YthllabjbdobpgaaGreatDoorGRf9Rfc
import Derived.Test.YthllabjbdobpgaaGreatDoorGFmAm24
import Derived.Test.YthllabjbdobpgaaGreatDoorGAm31Rf1
set_option linter.all false
set_option maxRecDepth 20000
namespace Go.AM
theorem Kp.owns {H0 H H' : Heap} {b n9 : Nat} {v : AV} {xs cs cs9 : List AV} (k : Kp H H' b n9) (how : Owns H0 H v 12 xs) (hb : H[b]? = some (.box cs)) (h9 : H[n9]? = some (.box cs9)) : Owns H0 H' v 12 xs:=by
 rcases how with h | ⟨nb,h1,h2,h3,h4⟩
 ·exact .inl h
 ·exact .inr ⟨nb,h1,h2,k.1 nb _ h3 (fun e=>by subst e; rw [hb] at h3; cases h3) (fun e=>by subst e; rw [h9] at h3; cases h3),h4⟩
theorem Kp.old {H0 H H' : Heap} {b n9 : Nat} {B0 B : ABlk} (k : Kp H H' b n9) (hob : OldB H0 b B0 H) (g9 : H0.length ≤ n9) (hB : H'[b]? = some B) : OldB H0 b B H':=by
 have hl:=hob.old.1
 rw [zMs] at hl
 refine ⟨hob.lt,by rw [zMs]; exact zN4 hl k.2,fun c hc=>?_⟩
 rw [zMs] at hc
 by_cases e : b = c
 ·subst e; rw [zMz hc]; exact hB
 ·rw [zM4 e]
  have h1:=hob.old.2 c (by rw [zMs]; exact hc)
  rw [zM4 e] at h1
  obtain ⟨x,hx⟩ : ∃ x,H0[c]? = some x:=⟨_,zMf hc⟩
  rw [hx] at h1 ⊢
  exact k.1 c x h1 (zNa e) tO
section
variable {C : CSpec} {GT : Nat → Option AV}
theorem rcall_loop (hT : ∀ s a H,a ≤ s.length → s.length ≤ 1000 → C zV [.str s,zJ a] H (tkV s a) H)
  (hR : ∀ s H,s.length ≤ 200 → C zm [.str s] H (refRV (zCu s)) H)
  (hF : ∀ b s p d a e H,H[b]? = some (pB s p 0 0 d) → C ze [pR b,zK a,zK e] H (.tup []) (H.set b (pB s p a e d)))
  (hC1 : ∀ b s p d e H,H[b]? = some (rP s p (d + 1)) → p ≤ s.length → s.length ≤ 200 → d ≤ 1000 → tok s p = .sign e [41] → C zd [pR b] H (.tup []) (H.set b (rP s e d)))
  (hC2 : ∀ b s p d H,H[b]? = some (rP s p (d + 1)) → p ≤ s.length → s.length ≤ 200 → d ≤ 1000 → (¬ ∃ e,tok s p = .sign e [41]) → C zd [pR b] H (.tup []) (H.set b (pB s (tkE (skip s p) (tok s p) : Nat) (skip s p : Nat) 2 d)))
  (hC3 : ∀ b s (p : Nat) w e d H,H[b]? = some (pB s p w e d) → e ≠ 0 → p ≤ s.length → s.length ≤ 200 → C zd [pR b] H (.tup []) (H.set b (pB s (tkE (skip s p) (tok s p) : Nat) w e (IntKind.wrap .i64 (d - 1)))))
  (E : AC) (b : Nat) (s t : Bs) (d e0 a0 n4 n5 n6 : Nat) (v0 : AV) (ks0 : List Nd) (H0 H : Heap) (fr : Fr) (hfr : zZ fr [6,0,4,5] = [(6,pR n6),(0,pR b),(4,pR n4),(5,pR n5)]) (hl : s.length ≤ 200) (hd : d ≤ 1000)
  (hn4 : n4 = H0.length) (hn5 : n5 = H0.length + 1) (hn6 : n6 = H0.length + 2) (hob : OldB H0 b (rP s a0 (d + 1)) H) (hb : H[b]? = some (rP s a0 (d + 1))) (h4 : H[n4]? = some (.box (ndC zY))) (h5 : H[n5]? = some (.box (zAN t v0))) (h6 : ∃ c0 c1 c2 c3,H[n6]? = some (.box [c0,c1,c2,c3])) (how : Owns H0 H v0 12 (ks0.map ndV))
  (hea : e0 < a0) (hal : a0 ≤ s.length) (hkl : ks0.length ≤ a0) (hLo : ∀ a,e0 < a → a ≤ s.length → CF C zW [pR b,.int .i64 1] b s a (d + 1) ((P s).loose 1 a (d + 1)))
  (RV : AV) (RB : ABlk) (hRB : ∀ k,zFZ k RB = true) (hAR : AR C b s d t ks0 a0 RV RB) :
  EW C GT (.seq (.block 0 [4,5] (.loop [6,0,4,5] zBR)) E) (zH5 zBJ H0 b [] .undef (some (RV,RB))) fr H:=by
 have hT:=fun a H h=>hT s a H h tO
 refine zBB (fun x : CaS=>[(6,pR n6),(0,pR b),(4,pR n4),(5,pR n5)])
  (fun x H'=>OldB H0 b (rP s x.a (d + 1)) H' ∧ H'[b]? = some (rP s x.a (d + 1)) ∧ H'[n4]? = some (.box (ndC zY)) ∧ H'[n5]? = some (.box (zAN t x.v)) ∧ (∃ c0 c1 c2 c3,H'[n6]? = some (.box [c0,c1,c2,c3])) ∧ Owns H0 H' x.v 12 (x.ks.map ndV) ∧ e0 < x.a ∧ x.a ≤ s.length ∧ x.ks.length ≤ x.a ∧ AR C b s d t x.ks x.a RV RB)
  (fun x=>s.length - x.a) ⟨a0,v0,ks0⟩ hfr ⟨hob,hb,h4,h5,h6,how,hea,hal,hkl,hAR⟩ (fun ⟨a,v,ks⟩ H1 ⟨hob,hb,h4,h5,⟨c0,c1,c2,c3,h6⟩,how,hea,hal,hkl,hAR⟩=>?_)
 dsimp only at hob hb h4 h5 h6 how hea hal hkl hAR ⊢
 have hbl:=hob.lt
 have hl4:=(zg h4).1
 have hl5:=(zg h5).1
 have hl6:=(zg h6).1
 refine call_c0 (.block 1 [6,0,4,5] caI) _ b n4 n5 n6 s a (d + 1) H1 hb (fun fr1 hfr1=>?_)
 suffices key : ∀ K : Post,(∀ (m : Nd) (fr' : Fr) (H' : Heap) (v' : AV),RV = ndV (zEi t (ks ++ [m])) → getF fr' 4 = pR n4 → H'[n4]? = some (.box (zAN t v')) → Owns H0 H' v' 12 ((ks ++ [m]).map ndV) → OldB H0 b RB H' → K .ret fr' H') →
   (∀ (m : Nd) (e3 : Nat) (fr' : Fr) (H' : Heap) (v' : AV),zZ fr' [6,0,4,5] = [(6,pR n6),(0,pR b),(4,pR n4),(5,pR n5)] → H'[b]? = some (rP s e3 (d + 1)) → H'[n5]? = some (.box (zAN t v')) → H'[n4]? = some (.box (ndC zY)) → (∃ c0 c1 c2 c3,H'[n6]? = some (.box [c0,c1,c2,c3])) → Owns H0 H' v' 12 ((ks ++ [m]).map ndV) → OldB H0 b (rP s e3 (d + 1)) H' → a < e3 → e3 ≤ s.length → AR C b s d t (ks ++ [m]) e3 RV RB → K (.exit 1) fr' H') →
   EW C GT caI K [(6,pR n6),(0,pR b),(4,pR n4),(5,pR n5)] H1 by
  have hgo:=fun K x y=>zMW (fr2:=[(6,pR n6),(0,pR b),(4,pR n4),(5,pR n5)]) hfr1 (key K x y)
  refine hgo _ (fun m fr' H' v' hv g1 g2 g3 g4=>?_) (fun m e3 fr' H' v' g1 g2 g3 g4 g5 g6 g7 g8 g9 g10=>?_)
  ·obtain ⟨H2',hz,hob2⟩:=zJb t g3 rfl g4
   exact z8 (o:=0) (.agg (zAN t v')) (by rw [hv,zJa]) rfl rfl (by rw [g1]; exact zL g2) rfl hz (zHZ _ _ _) hob2 (hRB _)
  ·exact zAA (CaS.mk e3 v' (ks ++ [m])) (by show zZ (zZ fr' [6,0,4,5]) [6,0,4,5] = _; rw [g1]; rfl) ⟨g7,g2,g4,g3,g5,g6,by simp only; omega,g9,by simp only [zMn,zMi,zMt]; omega,g10⟩ (by simp only; omega)
 intro K hret hcont
 clear hfr1 fr1
 have htk:=fun H=>hT a H hal
 rw [zFE] at htk
 have htl:=tkT_len hal hl
 have hel:=zII hal
 have p1 : ∀ (rv : List AV) (ok : Bool),(∃ r0 r1 r2 r3,rv = [r0,r1,r2,r3]) → (AV.agg rv).cells.all AV.one = true → (∀ H,C zm [.str (tkT (tok s a))] H (.tup [.agg rv,.bool ok]) H) →
   (∀ fr' H' n7 n9,zZ fr' [6,0,4,5,9,7,8] = [(6,pR n6),(0,pR b),(4,pR n4),(5,pR n5),(9,pR n9),(7,pR n7),(8,.bool ok)] → n7 = H1.length → n9 = H1.length + 1 → H'[n7]? = some (.box rv) → H'[n9]? = some (.box (ndC zY)) → H'[n6]? = some (.box [zJ (tkK (tok s a)),zJ (skip s a),zJ (tkE (skip s a) (tok s a)),.str (tkT (tok s a))]) → H'[b]? = some (rP s a (d + 1)) → H'[n4]? = some (.box (ndC zY)) → H'[n5]? = some (.box (zAN t v)) → Owns H0 H' v 12 (ks.map ndV) → OldB H0 b (rP s a (d + 1)) H' →
    EW C GT (.seq caA caT) K fr' H') → EW C GT caI K [(6,pR n6),(0,pR b),(4,pR n4),(5,pR n5)] H1:=by
  intro rv ok ⟨r0,r1,r2,r3,hrv⟩ hro hr h
  refine call_p1 (.seq caA caT) _ b n4 n5 n6 s a (d + 1) _ _ _ _ rv ok H1 [c0,c1,c2,c3] rfl c0 c1 c2 c3 rfl hb h6 tO htk hr r0 r1 r2 r3 hrv hro (fun fr' H' n7 n9 g1 g2 g3 g4=>?_)
  subst g2 g3 g4
  have ho1:=(((how.setBox h6 (.box [zJ (tkK (tok s a)),zJ (skip s a),zJ (tkE (skip s a) (tok s a)),.str (tkT (tok s a))])).push (ABlk.box zV1)).setBox (c:=H1.length) (cs:=zV1) (by have:=zD (H:=H1.set n6 (.box [zJ (tkK (tok s a)),zJ (skip s a),zJ (tkE (skip s a) (tok s a)),.str (tkT (tok s a))])) (x:=ABlk.box zV1); rw [zMs] at this; exact this) (.box rv)).push (ABlk.box (ndC zY))
  have hO1:=(((hob.set (c:=n6) tO (.box [zJ (tkK (tok s a)),zJ (skip s a),zJ (tkE (skip s a) (tok s a)),.str (tkT (tok s a))])).push [ABlk.box zV1]).set (c:=H1.length) tO (.box rv)).push [ABlk.box (ndC zY)]
  exact h fr' _ _ _ g1 rfl rfl hP (by have:=zD (H:=((H1.set n6 (.box [zJ (tkK (tok s a)),zJ (skip s a),zJ (tkE (skip s a) (tok s a)),.str (tkT (tok s a))])) ++ [ABlk.box zV1]).set H1.length (.box rv)) (x:=ABlk.box (ndC zY)); rw [show (((H1.set n6 (.box [zJ (tkK (tok s a)),zJ (skip s a),zJ (tkE (skip s a) (tok s a)),.str (tkT (tok s a))])) ++ [ABlk.box zV1]).set H1.length (.box rv)).length = H1.length + 1 from by simp] at this; exact this) hP hP hP hP ho1 hO1
 have fin : ∀ (m : Nd) (e2 : Nat) (fr2 : Fr) (H' H2 : Heap) (n9 : Nat),a < e2 → e2 ≤ s.length → AN C b s d t (ks ++ [m]) e2 RV RB → zZ fr2 [6,0,4,5,9] = [(6,pR n6),(0,pR b),(4,pR n4),(5,pR n5),(9,pR n9)] → H0.length ≤ n9 → n4 ≠ n9 → n5 ≠ n9 → n6 ≠ n9 → H'[n9]? = some (.box (ndC zY)) → H'[n6]? = some (.box [zJ (tkK (tok s a)),zJ (skip s a),zJ (tkE (skip s a) (tok s a)),.str (tkT (tok s a))]) → H'[b]? = some (rP s a (d + 1)) → H'[n4]? = some (.box (ndC zY)) → H'[n5]? = some (.box (zAN t v)) → Owns H0 H' v 12 (ks.map ndV) → OldB H0 b (rP s a (d + 1)) H' →
   H2[b]? = some (rP s e2 (d + 1)) → H2[n9]? = some (.box (ndC m)) → Kp H' H2 b n9 → EW C GT caT K fr2 H2:=by
  intro m e2 fr2 H' H2 n9 ha2 he2 hAN g1 g9 d49 d59 d69 k9 k6 kb k4 k5 ko kO f1 f2 kp
  have htk2:=fun H=>hT e2 H he2
  rw [zFE] at htk2
  have hend:=zBr s e2
  rcases hAN with ⟨e3,hk,hA⟩ | ⟨e3,hk,hv,hB⟩ | ⟨n44,n41,hv,hB⟩
  ·rw [hk] at htk2 hend
   have hend : e2 < e3 ∧ e3 ≤ s.length:=hend
   exact call_tcont K b n4 n5 n6 n9 s (d + 1) t m ks v _ H0 H2 fr2 g1 (kp.old kO g9 f1) (kp.owns ko kb k9) tO (kp.1 _ _ k4 tO d49) (kp.1 _ _ k5 tO d59) _ _ _ _ (kp.1 _ _ k6 tO d69) f2 tO tO tO g9 tO tO tO e2 _ _ e3 _ htk2 rfl rfl rfl f1
    (fun fr' H' v' g1 g2 g3 g4 g5 g6 g7=>hcont m e3 fr' H' v' g1 g2 g3 g4 g5 g6 g7 tO hend.2 hA)
  ·rw [hk] at htk2
   have hc:=fun H h=>hC1 b s e2 d e3 H h he2 hl hd hk
   rw [← hB] at hc
   exact call_trb K b n4 n5 n6 n9 s (d + 1) t m ks v _ H0 H2 fr2 g1 (kp.old kO g9 f1) (kp.owns ko kb k9) tO (kp.1 _ _ k4 tO d49) (kp.1 _ _ k5 tO d59) _ _ _ _ (kp.1 _ _ k6 tO d69) f2 tO tO tO g9 tO tO tO e2 _ _ e3 _ htk2 rfl (fun h=>by cases h) rfl f1 RB hc
    (fun fr' H' v' g1 g2 g3 g4=>hret m fr' H' v' hv g1 g2 g3 g4)
  ·have hc:=fun H h=>hC2 b s e2 d H h he2 hl hd n41
   rw [← hB] at hc
   by_cases h4 : tkK (tok s e2) = 4
   ·have h44 : tkT (tok s e2) ≠ [44]:=fun x=>by
     cases hk : tok s e2 <;> rw [hk] at h4 x <;> simp only [tkK,tkT] at h4 x
     all_goals first | omega | (subst x; exact n44 ⟨_,hk⟩)
    exact call_trb K b n4 n5 n6 n9 s (d + 1) t m ks v _ H0 H2 fr2 g1 (kp.old kO g9 f1) (kp.owns ko kb k9) tO (kp.1 _ _ k4 tO d49) (kp.1 _ _ k5 tO d59) _ _ _ _ (kp.1 _ _ k6 tO d69) f2 tO tO tO g9 tO tO tO e2 _ _ _ _ htk2 h4 h44 rfl f1 RB hc
     (fun fr' H' v' g1 g2 g3 g4=>hret m fr' H' v' hv g1 g2 g3 g4)
   ·exact call_tra K b n4 n5 n6 n9 s (d + 1) t m ks v _ H0 H2 fr2 g1 (kp.old kO g9 f1) (kp.owns ko kb k9) tO (kp.1 _ _ k4 tO d49) (kp.1 _ _ k5 tO d59) _ _ _ _ (kp.1 _ _ k6 tO d69) f2 tO tO tO g9 tO tO tO e2 _ _ _ _ htk2 h4 rfl f1 RB hc
     (fun fr' H' v' g1 g2 g3 g4=>hret m fr' H' v' hv g1 g2 g3 g4)
 have fbad : ∀ (m : Nd) (a2 : Nat) (w ee dd : Int) (fr2 : Fr) (H' H2 : Heap) (n9 : Nat),ee ≠ 0 → a2 ≤ s.length → RV = ndV (zEi t (ks ++ [m])) → RB = clB s a2 w ee dd → zZ fr2 [6,0,4,5,9] = [(6,pR n6),(0,pR b),(4,pR n4),(5,pR n5),(9,pR n9)] → H0.length ≤ n9 → n4 ≠ n9 → n5 ≠ n9 → n6 ≠ n9 → H'[n9]? = some (.box (ndC zY)) → H'[n6]? = some (.box [zJ (tkK (tok s a)),zJ (skip s a),zJ (tkE (skip s a) (tok s a)),.str (tkT (tok s a))]) → H'[b]? = some (rP s a (d + 1)) → H'[n4]? = some (.box (ndC zY)) → H'[n5]? = some (.box (zAN t v)) → Owns H0 H' v 12 (ks.map ndV) → OldB H0 b (rP s a (d + 1)) H' →
   H2[b]? = some (pB s a2 w ee dd) → H2[n9]? = some (.box (ndC m)) → Kp H' H2 b n9 → EW C GT caT K fr2 H2:=by
  intro m a2 w ee dd fr2 H' H2 n9 hee he2 hv hB g1 g9 d49 d59 d69 k9 k6 kb k4 k5 ko kO f1 f2 kp
  have htk2:=fun H=>hT a2 H he2
  rw [zFE] at htk2
  have hc:=fun H h=>hC3 b s a2 w ee dd H h hee he2 hl
  have hB' : pB s (tkE (skip s a2) (tok s a2) : Nat) w ee (IntKind.wrap .i64 (dd - 1)) = RB:=hB.symm
  rw [hB'] at hc
  exact call_tbad K b n4 n5 n6 n9 s (d + 1) t m ks v _ H0 H2 fr2 g1 (kp.old kO g9 f1) (kp.owns ko kb k9) tO (kp.1 _ _ k4 tO d49) (kp.1 _ _ k5 tO d59) _ _ _ _ (kp.1 _ _ k6 tO d69) f2 tO tO tO g9 tO tO tO a2 _ _ _ _ htk2 w ee dd hee rfl f1 RB hc
   (fun fr' H' v' g1 g2 g3 g4=>hret m fr' H' v' hv g1 g2 g3 g4)
 have hD30 : (d + 1 : Nat) = d + 1:=rfl
 have hRr:=fun H=>hR (tkT (tok s a)) H htl
 have lo : zEB s a = none → (∀ (fr' : Fr) (H' : Heap) (n9 : Nat) (m : Nd) (B : ABlk),(∀ H,H[b]? = some (rP s a (d + 1)) → C zW [pR b,.int .i64 1] H (ndV m) (H.set b B)) → (∀ fr2 H2,zZ fr2 [6,0,4,5,9] = [(6,pR n6),(0,pR b),(4,pR n4),(5,pR n5),(9,pR n9)] → H2[b]? = some B → H2[n9]? = some (.box (ndC m)) → Kp H' H2 b n9 → EW C GT caT K fr2 H2) → True) → True:=fun _ _=>trivial
 have outs : zEB s a = none → ∃ (m : Nd) (B : ABlk),(∀ H,H[b]? = some (rP s a (d + 1)) → C zW [pR b,.int .i64 1] H (ndV m) (H.set b B)) ∧
   (∀ (fr2 : Fr) (H' H2 : Heap) (n9 : Nat),zZ fr2 [6,0,4,5,9] = [(6,pR n6),(0,pR b),(4,pR n4),(5,pR n5),(9,pR n9)] → H0.length ≤ n9 → n4 ≠ n9 → n5 ≠ n9 → n6 ≠ n9 → H'[n9]? = some (.box (ndC zY)) → H'[n6]? = some (.box [zJ (tkK (tok s a)),zJ (skip s a),zJ (tkE (skip s a) (tok s a)),.str (tkT (tok s a))]) → H'[b]? = some (rP s a (d + 1)) → H'[n4]? = some (.box (ndC zY)) → H'[n5]? = some (.box (zAN t v)) → Owns H0 H' v 12 (ks.map ndV) → OldB H0 b (rP s a (d + 1)) H' →
    H2[b]? = some B → H2[n9]? = some (.box (ndC m)) → Kp H' H2 b n9 → EW C GT caT K fr2 H2):=by
  intro hbn
  cases hlr : (P s).loose 1 a (d + 1) with
  | some x=>
   obtain ⟨m,e2⟩:=x
   have hx:=(zCE s).loose 1 a (d + 1) _ hal hlr
   simp only at hx
   have hps : zEj s (P s) a (d + 1) = some (m,e2):=by unfold zEj; rw [hbn]; exact hlr
   exact ⟨m,rP s e2 (d + 1),(hLo a hea hal).1 m e2 hlr,fun fr2 H' H2 n9=>fin m e2 fr2 H' H2 n9 hx.1 hx.2 (hAR.ok hal hps)⟩
  | none=>
   obtain ⟨nw,W,hW,hlo,hv,hB⟩:=hAR.lw hal hbn hlr
   exact ⟨nw,W.blk s,hlo,fun fr2 H' H2 n9=>fbad nw W.a W.w W.e W.d fr2 H' H2 n9 hW.1 hW.2 hv hB⟩
 clear lo
 by_cases hbx : ∃ e1 w1 r1,tok s a = .word e1 w1 ∧ zCu w1 = some r1 ∧ s[e1]? = some 58
 ·obtain ⟨e1,w1,r1,ht,hr1,h58⟩:=hbx
  have he1:=(zg h58).1
  have hbi:=box_in ht hr1 h58
  have hal2 : e1 + 1 ≤ s.length:=by omega
  have htk2:=fun H=>hT (e1 + 1) H hal2
  rw [zFE] at htk2
  have hel2:=zII hal2
  have hends:=zBr s (e1 + 1)
  have hend1:=zBr s a
  rw [ht] at hend1
  have hend1 : a < e1 ∧ e1 ≤ s.length:=hend1
  have hRr2:=fun H=>hR (tkT (tok s (e1 + 1))) H (tkT_len hal2 hl)
  have hsk2:=zEg s (e1 + 1)
  have hem : e1 < tkE (skip s (e1 + 1)) (tok s (e1 + 1)):=by
   cases hk : tok s (e1 + 1) <;> rw [hk] at hends <;> simp only [tkE,Tok.endsBy] at hends ⊢ <;> omega
  have hff:=fun H (h : H[b]? = some (rP s a (d + 1)))=>hF b s a (d + 1 : Nat) (e1 + 1 : Nat) 2 H h
  rw [ht] at hRr
  have hRr : ∀ H,C zm [.str w1] H (refRV (zCu w1)) H:=hRr
  rw [hr1] at hRr
  refine p1 [zK r1.col,zK r1.row,.bool r1.fc,.bool r1.fr] true ⟨_,_,_,_,rfl⟩ rfl (fun H=>by rw [ht]; exact hRr H) (fun fr' H' n7 n9 g1 g2 g3 k7 k9 k6 kb k4 k5 ko kO=>?_)
  have k6' : H'[n6]? = some (.box [zJ 1,zJ (skip s a),zJ e1,.str w1]):=by rw [k6,ht]; rfl
  have q9 : H0.length ≤ n9:=by omega
  by_cases hq : skip s (e1 + 1) = e1 + 1
  ·by_cases hk1 : tkK (tok s (e1 + 1)) = 1
   ·cases hx2 : zCu (tkT (tok s (e1 + 1))) with
    | some r2=>
     rw [hx2] at hRr2
     have hps : zEj s (P s) a (d + 1) = some (boxN r1 r2,tkE (skip s (e1 + 1)) (tok s (e1 + 1))):=by unfold zEj; rw [hbi,zMg ⟨hq,hk1⟩,hx2]; rfl
     have hAN:=hAR.ok hal hps
     exact call_xok caT K b n4 n5 n6 n7 n9 true s a (d + 1) 1 _ e1 w1 H' fr' g1 kb k6' k9 tO tO tO hend1.2 hl r1 r2 k7 tO tO _ _ _ _ htk2 hRr2 hq hk1 rfl rfl h58 _ rfl _ rfl
      (fun fr2 H2 z1 z2 z3 z4=>fin _ _ fr2 H' H2 n9 tO hel2 hAN z1 q9 tO tO tO k9 k6 kb k4 k5 ko kO z2 z3 z4)
    | none=>
     rw [hx2] at hRr2
     have hbn : zEB s a = some none:=by rw [hbi,zMg ⟨hq,hk1⟩,hx2]; rfl
     obtain ⟨hv,hB⟩:=hAR.bx hal hbn ht hr1
     rw [hx2] at hv
     exact call_xfc caT K b n4 n5 n6 n7 n9 true s a (d + 1) 1 _ e1 w1 H' fr' g1 kb k6' k9 tO tO tO hend1.2 hl r1 noRef k7 tO tO _ _ _ _ htk2 hRr2 hq hk1 hff rfl rfl h58 _ rfl _ rfl
      (fun fr2 H2 z1 z2 z3 z4=>fbad _ _ _ 2 _ fr2 H' H2 n9 (by decide) hel2 hv hB z1 q9 tO tO tO k9 k6 kb k4 k5 ko kO z2 z3 z4)
   ·have hbn : zEB s a = some none:=by rw [hbi,zMe (fun x=>hk1 x.2)]
    obtain ⟨hv,hB⟩:=hAR.bx hal hbn ht hr1
    have hrr : ∀ H,C zm [.str (tkT (tok s (e1 + 1)))] H (.tup [.agg [zK ((zCu (tkT (tok s (e1 + 1)))).getD noRef).col,zK ((zCu (tkT (tok s (e1 + 1)))).getD noRef).row,.bool ((zCu (tkT (tok s (e1 + 1)))).getD noRef).fc,.bool ((zCu (tkT (tok s (e1 + 1)))).getD noRef).fr],.bool (zCu (tkT (tok s (e1 + 1)))).isSome]) H:=fun H=>by
     have:=hRr2 H
     cases hx2 : zCu (tkT (tok s (e1 + 1))) with
     | some r2=>rw [hx2] at this; exact this
     | none=>rw [hx2] at this; exact this
    exact call_xfb caT K b n4 n5 n6 n7 n9 true s a (d + 1) 1 _ e1 w1 H' fr' g1 kb k6' k9 tO tO tO hend1.2 hl r1 _ k7 tO tO _ _ _ _ htk2 _ hrr hq hk1 hff rfl rfl h58 _ rfl _ rfl
     (fun fr2 H2 z1 z2 z3 z4=>fbad _ _ _ 2 _ fr2 H' H2 n9 (by decide) hel2 hv hB z1 q9 tO tO tO k9 k6 kb k4 k5 ko kO z2 z3 z4)
  ·have hbn : zEB s a = some none:=by rw [hbi,zMe (fun x=>hq x.1)]
   obtain ⟨hv,hB⟩:=hAR.bx hal hbn ht hr1
   have hrr : ∀ H,C zm [.str (tkT (tok s (e1 + 1)))] H (.tup [.agg [zK ((zCu (tkT (tok s (e1 + 1)))).getD noRef).col,zK ((zCu (tkT (tok s (e1 + 1)))).getD noRef).row,.bool ((zCu (tkT (tok s (e1 + 1)))).getD noRef).fc,.bool ((zCu (tkT (tok s (e1 + 1)))).getD noRef).fr],.bool (zCu (tkT (tok s (e1 + 1)))).isSome]) H:=fun H=>by
    have:=hRr2 H
    cases hx2 : zCu (tkT (tok s (e1 + 1))) with
    | some r2=>rw [hx2] at this; exact this
    | none=>rw [hx2] at this; exact this
   exact call_xfa caT K b n4 n5 n6 n7 n9 true s a (d + 1) 1 _ e1 w1 H' fr' g1 kb k6' k9 tO tO tO hend1.2 hl r1 _ k7 tO tO _ _ _ _ htk2 _ hrr hq hff rfl rfl h58 _ rfl _ rfl
    (fun fr2 H2 z1 z2 z3 z4=>fbad _ _ _ 2 _ fr2 H' H2 n9 (by decide) hel2 hv hB z1 q9 tO tO tO k9 k6 kb k4 k5 ko kO z2 z3 z4)
 ·obtain ⟨m,B,hlo,hfin⟩:=outs (box_out hbx)
  cases hx : zCu (tkT (tok s a)) with
  | none=>
   rw [hx] at hRr
   refine p1 zV1 false ⟨_,_,_,_,rfl⟩ rfl hRr (fun fr' H' n7 n9 g1 g2 g3 k7 k9 k6 kb k4 k5 ko kO=>?_)
   have q9 : H0.length ≤ n9:=by omega
   by_cases hk1 : tkK (tok s a) = 1
   ·exact call_nb caT K b n4 n5 n6 n7 n9 false s a (d + 1) _ _ _ _ H' fr' g1 kb k6 k9 tO tO tO hel hl m B hlo hk1 rfl
     (fun fr2 H2 z1 z2 z3 z4=>hfin fr2 H' H2 n9 z1 q9 tO tO tO k9 k6 kb k4 k5 ko kO z2 z3 z4)
   ·exact call_na caT K b n4 n5 n6 n7 n9 false s a (d + 1) _ _ _ _ H' fr' g1 kb k6 k9 tO tO tO hel hl m B hlo hk1
     (fun fr2 H2 z1 z2 z3 z4=>hfin fr2 H' H2 n9 z1 q9 tO tO tO k9 k6 kb k4 k5 ko kO z2 z3 z4)
  | some r1=>
   rw [hx] at hRr
   refine p1 [zK r1.col,zK r1.row,.bool r1.fc,.bool r1.fr] true ⟨_,_,_,_,rfl⟩ rfl hRr (fun fr' H' n7 n9 g1 g2 g3 k7 k9 k6 kb k4 k5 ko kO=>?_)
   have q9 : H0.length ≤ n9:=by omega
   by_cases hk1 : tkK (tok s a) = 1
   ·by_cases hle : s.length ≤ tkE (skip s a) (tok s a)
    ·exact call_nc caT K b n4 n5 n6 n7 n9 true s a (d + 1) _ _ _ _ H' fr' g1 kb k6 k9 tO tO tO hel hl m B hlo hk1 rfl hle
      (fun fr2 H2 z1 z2 z3 z4=>hfin fr2 H' H2 n9 z1 q9 tO tO tO k9 k6 kb k4 k5 ko kO z2 z3 z4)
    ·obtain ⟨c,hc⟩ : ∃ c,s[tkE (skip s a) (tok s a)]? = some c:=⟨_,zMf tO⟩
     have hc58 : c.toNat ≠ 58:=fun h=>by
      have h58 : c = 58:=zM0.1 h
      subst h58
      cases hk : tok s a <;> rw [hk] at hk1 hc hx <;> simp only [tkK,tkE,tkT] at hk1 hc hx
      all_goals first | omega | exact hbx ⟨_,_,_,hk,hx,hc⟩
     exact call_nd caT K b n4 n5 n6 n7 n9 true s a (d + 1) _ _ _ _ H' fr' g1 kb k6 k9 tO tO tO hel hl m B hlo hk1 rfl c hc hc58
      (fun fr2 H2 z1 z2 z3 z4=>hfin fr2 H' H2 n9 z1 q9 tO tO tO k9 k6 kb k4 k5 ko kO z2 z3 z4)
   ·exact call_na caT K b n4 n5 n6 n7 n9 true s a (d + 1) _ _ _ _ H' fr' g1 kb k6 k9 tO tO tO hel hl m B hlo hk1
     (fun fr2 H2 z1 z2 z3 z4=>hfin fr2 H' H2 n9 z1 q9 tO tO tO k9 k6 kb k4 k5 ko kO z2 z3 z4)
end
end Go.AM
set_option maxRecDepth 20000
namespace Go.AM
theorem AF'.shape {C : CSpec} {b : Nat} {s : Bs} {d : Nat} {ks : List Nd} {a : Nat} {L : List Nd} {RB : ABlk} (h : AF' C b s d ks a L RB) : a ≤ s.length → ∃ (a' : Nat) (w e d' : Int),e ≠ 0 ∧ a' ≤ s.length ∧ RB = pB s a' w e d':=by
 induction h with
 | box ks a e1 w1 r1 ht hr h58 hn=>
  intro ha
  have h1 : e1 < s.length:=(zg h58).1
  exact ⟨_,_,2,_,by decide,zII (zII tO),rfl⟩
 | lo ks a nw W hn hl hW h=>intro ha; exact ⟨_,_,_,_,hW.1,zII hW.2,rfl⟩
 | close ks a m e2 h h44 h41=>
  intro ha
  have hx:=zHl (zCE s) a (d + 1) _ ha h
  exact ⟨_,_,2,_,by decide,zII hx.2,rfl⟩
 | later ks a m e2 e3 L RB h h44 k ih=>
  intro ha
  have ht:=zBr s e2
  rw [h44] at ht
  simp only [Tok.endsBy] at ht
  exact ih tO
section
variable {C : CSpec} {GT : Nat → Option AV}
theorem rcall_ef (hT : ∀ s a H,a ≤ s.length → s.length ≤ 1000 → C zV [.str s,zJ a] H (tkV s a) H)
  (hR : ∀ s H,s.length ≤ 200 → C zm [.str s] H (refRV (zCu s)) H)
  (hF : ∀ b s p d a e H,H[b]? = some (pB s p 0 0 d) → C ze [pR b,zK a,zK e] H (.tup []) (H.set b (pB s p a e d)))
  (hC1 : ∀ b s p d e H,H[b]? = some (rP s p (d + 1)) → p ≤ s.length → s.length ≤ 200 → d ≤ 1000 → tok s p = .sign e [41] → C zd [pR b] H (.tup []) (H.set b (rP s e d)))
  (hC2 : ∀ b s p d H,H[b]? = some (rP s p (d + 1)) → p ≤ s.length → s.length ≤ 200 → d ≤ 1000 → (¬ ∃ e,tok s p = .sign e [41]) → C zd [pR b] H (.tup []) (H.set b (pB s (tkE (skip s p) (tok s p) : Nat) (skip s p : Nat) 2 d)))
  (hC3 : ∀ b s (p : Nat) w e d H,H[b]? = some (pB s p w e d) → e ≠ 0 → p ≤ s.length → s.length ≤ 200 → C zd [pR b] H (.tup []) (H.set b (pB s (tkE (skip s p) (tok s p) : Nat) w e (IntKind.wrap .i64 (d - 1)))))
  (b : Nat) (s t : Bs) (e d : Nat) (h40 : s[e]? = some 40) (hl : s.length ≤ 200) (hd : d ≤ 1000)
  (hLo : ∀ a,e < a → a ≤ s.length → CF C zW [pR b,.int .i64 1] b s a (d + 1) ((P s).loose 1 a (d + 1))) :
  (∀ n e2,zG3 s t e (d + 1) = some (n,e2) → ∀ H,H[b]? = some (rP s e (d + 1)) → zCA C GT zBJ [pR b,.str t] H b [] .undef (some (ndV n,rP s e2 d))) ∧
  (zG3 s t e (d + 1) = none → ∃ (n : Nd) (a : Nat) (w e' d' : Int),e' ≠ 0 ∧ a ≤ s.length ∧ ∀ H,H[b]? = some (rP s e (d + 1)) → zCA C GT zBJ [pR b,.str t] H b [] .undef (some (ndV n,pB s a w e' d'))):=by
 have he : e < s.length:=(zg h40).1
 have htk:=fun H=>hT s (e + 1) H tO tO
 have main : (¬ ∃ e2,tok s (e + 1) = .sign e2 [41]) → ∀ (RV : AV) (RB : ABlk),(∀ k,zFZ k RB = true) → AR C b s d t [] (e + 1) RV RB → ∀ H,H[b]? = some (rP s e (d + 1)) → zCA C GT zBJ [pR b,.str t] H b [] .undef (some (RV,RB)):=by
  intro hno RV RB hRB hAR H hb
  have htk:=htk
  rw [zFE] at htk
  refine zAE ?_; refine call_s1 caE _ b s t e (d + 1) _ _ _ _ H hb tO (by exact_mod_cast htk) (fun fr' H' n4 n5 n6 e4 e5 e6 hfr hob hb1 h4 h5 h6=>?_)
  refine call_s2 (.seq (.block 0 [4,5] (.loop [6,0,4,5] zBR)) caE.rest.rest) _ b n4 n5 n6 _ _ _ _ H' fr' hfr h6 (fun hx=>?_) (fun fr2 hfr2=>?_)
  ·cases hk : tok s (e + 1) <;> rw [hk] at hx <;> simp only [tkK,tkT] at hx
   all_goals first | omega | (obtain ⟨_,rfl⟩:=hx; exact hno ⟨_,hk⟩)
  ·exact rcall_loop hT hR hF hC1 hC2 hC3 _ b s t d e (e + 1) n4 n5 n6 _ [] H H' fr2 hfr2 hl hd e4 e5 e6 hob hb1 h4 h5 ⟨_,_,_,_,h6⟩ (.inl ⟨rfl,rfl⟩) tO tO (by simp) hLo RV RB hRB hAR
 by_cases h41 : ∃ e2,tok s (e + 1) = .sign e2 [41]
 ·obtain ⟨e2,h41⟩:=h41
  have hcs : zG3 s t e (d + 1) = some (zEi t [],e2):=by unfold zG3; simp only [h41]
  rw [hcs]
  refine ⟨fun n e3 h H hb=>?_,fun h=>by cases h⟩
  cases h
  have htk:=htk
  rw [zFE,h41] at htk
  refine zAE ?_; refine call_s1 caE _ b s t e (d + 1) _ _ _ _ H hb tO (by exact_mod_cast htk) (fun fr' H' n4 n5 n6 e4 e5 e6 hfr hob hb1 h4 h5 h6=>?_)
  refine call_s3 caE.rest _ b n4 n5 n6 _ _ _ t _ (rP s (e + 1) (d + 1)) (rP s e2 d) H H' fr' hfr h6 rfl rfl hob hb1 h4 h5 tO tO tO (fun H h=>hC1 b s (e + 1) d e2 H h tO hl hd h41) (fun fr2 H2 g1 g2 g3=>?_)
  obtain ⟨H2',hz,hob2⟩:=zJb (H0:=H) (xs:=[]) t (.inl ⟨rfl,rfl⟩) rfl g3
  exact z8 (o:=0) (.agg (zAN t (.lst (some true) 0 []))) rfl rfl rfl (by rw [g1]; exact zL g2) rfl hz (zHZ _ _ []) hob2 rfl
 ·have hcs : zG3 s t e (d + 1) = (P s).args t [] (e + 1) (d + 1):=by
   unfold zG3
   split
   ·rename_i e2 hk; exact absurd ⟨e2,hk⟩ h41
   ·rfl
  rw [hcs]
  refine ⟨fun n e2 h H hb=>main h41 _ _ (fun _=>rfl) (.inl ⟨n,e2,h,rfl,rfl⟩) H hb,fun h=>?_⟩
  obtain ⟨L,RB,hL⟩:=args_fail (C:=C) (t:=t) e hLo (s.length - (e + 1)) [] (e + 1) tO tO (zMh _) h
  obtain ⟨a',w,ee,d',g1,g2,g3⟩:=hL.shape tO
  exact ⟨zEi t L,a',w,ee,d',g1,g2,fun H hb=>by rw [← g3]; exact main h41 _ _ (by rw [g3]; exact fun _=>rfl) (.inr ⟨L,hL,rfl⟩) H hb⟩
end
end Go.AM
set_option maxRecDepth 20000
namespace Go.AM
section
variable {C : CSpec} {GT : Nat → Option AV}
theorem rloose_bad (b : Nat) (s : Bs) (p d l : Nat) (n0 : Nd) (W : Bd) (hW : W.ok s) (H : Heap) (hb : H[b]? = some (rP s p d)) (ho : ∀ H,H[b]? = some (rP s p d) → C zAI [pR b] H (ndV n0) (H.set b (W.blk s))) :
  zCA C GT zBf [pR b,zJ l] H b [] .undef (some (ndV zY,W.blk s)):=by
 have hbl : b < H.length:=(zg hb).1
 have hwe:=hW.1
 refine zAE ?_; refine zp (ho _ hP) (fun h=>by cases h) <| zF (v:=ndV n0) (AV.cells (ndV n0)) zD rfl rfl rfl rfl ?_; refine zBB (fun m : Nat=>[(4,pR H.length),(5,pR m),(0,pR b),(1,zJ l)])
  (fun _ H'=>OldB H b (W.blk s) H' ∧ H'[b]? = some (W.blk s) ∧ H'[H.length]? = some (.box (ndC zY)))
  (fun _=>0) _ rfl ⟨((((((OldB.start hb).push _).setB _).push _).set (by simp) _)),hP,hP⟩ (fun _ H1 ⟨hob,hb1,h4⟩=>?_)
 have h4l:=(zg h4).1
 have hb1' : H1[b]? = some (.box [.str s,zK W.a,zK W.w,zK W.e,zK W.d]):=hb1
 refine zB (zK W.e) hb1' rfl <| zO (tN hwe) <| zS (v:=zV0) rfl <| zF (v:=AV.agg zV0) (AV.cells (AV.agg zV0)) h4 rfl rfl rfl rfl ?_
 exact z8 (o:=0) (ndV zY) rfl rfl rfl (zL hP) rfl rfl rfl (by repeat' (first | assumption | exact ⟨_,hob⟩ | apply zAO | apply zAP | refine zAi ?_ tC _ | apply OldB.push | apply OldB.setE | refine OldB.set ?_ tC _)) rfl
theorem rloose_ef (hT : ∀ s a H,a ≤ s.length → s.length ≤ 1000 → C zV [.str s,zJ a] H (tkV s a) H)
  (hSg : ∀ t H,C zCH [.str t] H (zJ (zBK t)) H) (hTi : ∀ op H,op ≤ 1000 → C zBP [zJ op] H (zJ (tight op)) H)
  (b : Nat) (s : Bs) (p d l : Nat) (hp : p ≤ s.length) (hl : s.length ≤ 200)
  (hLo : ∀ a l',p < a → a ≤ s.length → CF C zW [pR b,zJ l'] b s a d ((P s).loose l' a d))
  (hOne : CF C zAI [pR b] b s p d ((P s).one p d)) : EF C GT zBf [pR b,zJ l] b s p d ((P s).loose l p d):=by
 rw [zIb l d hp]
 unfold zEC
 cases h1 : (P s).one p d with
 | none=>
  obtain ⟨n,a,w,e,d',h2,h3,h4⟩:=hOne.2 h1
  exact ⟨fun n e h=>(by cases h),fun _=>⟨zY,a,w,e,d',h2,h3,fun H hb=>rloose_bad b s p d l n ⟨a,w,e,d'⟩ ⟨h2,h3⟩ H hb h4⟩⟩
 | some x=>
  obtain ⟨n0,e0⟩:=x
  have hx:=(zCE s).one p d _ hp h1
  simp only at hx
  have ho:=hOne.1 n0 e0 h1
  have go:=fun RV RB h2 h3 h4 H hb=>rloose_ev (GT:=GT) hT hSg hTi b s p d l hp hl (fun a l' m e h1 h2 h3=>(hLo a l' h1 h2).1 m e h3) n0 e0 hx.1 hx.2 RV RB h2 h3 h4 H hb ho
  simp only [zNb]
  cases h2 : (P s).ll l n0 e0 d with
  | some y=>
   obtain ⟨n',e'⟩:=y
   refine ⟨fun n e h H hb=>?_,fun h=>by cases h⟩
   cases h
   exact go _ _ (fun _=>rfl) ⟨n',rfl⟩ (.inl ⟨n',e',h2,rfl,rfl⟩) H hb
  | none=>
   obtain ⟨W,hW⟩:=ll_fail (C:=C) p hLo (s.length - e0) n0 e0 hx.1 hx.2 (zMh _) h2
   exact ⟨fun n e h=>(by cases h),fun _=>⟨zY,W.a,W.w,W.e,W.d,hW.ok.1,hW.ok.2,fun H hb=>go _ _ (fun _=>rfl) ⟨zY,rfl⟩ (.inr ⟨W,hW,rfl,rfl⟩) H hb⟩⟩
end
structure RefK (PR : Program) : Prop where
 hm : PR.follows .mixedOrders = true
 wordly : zAH PR zBY zC7 = true
 wrongs : zAH PR zA9 zD8 = true
 bad : zAH PR zDa zGP = true
 named : zAH PR zBu zEa = true
 token : zAH PR zV zEY = true
 called : zAH PR zi zD9 = true
 whole : zAH PR zU zCd = true
 ref : zAH PR zm zGM = true
 sign : zAH PR zCH zFN = true
 tight : zAH PR zBP zEZ = true
 fail : zAH PR ze zDs = true
 deeper : zAH PR zf zDE = true
 close : zAH PR zd zBh = true
 one : zAH PR zAI zQ = true
 call : zAH PR zBt zBJ = true
 loose : zAH PR zW zBf = true
structure BigG (PR : Program) (GT : Nat → Option AV) : Prop where
 new : ∀ v H,zDP v → Good PR GT zAe [zK v] H (.ref H.length 0 0 0) (H ++ [.box (zGB v)])
 mul : ∀ b t v av H,H[b]? = some (.box [.bool false,av]) → H[t]? = some (.box (zGB 10)) → Mag av v → (wds v).length ≤ 1000 → Good PR GT zAm [.ref b 0 0 0,.ref b 0 0 0,.ref t 0 0 0] H (.ref b 0 0 0) (H.set b (.box [.bool false,mulV v]))
 add : ∀ (b t v d : Nat) (av : AV) (H : Heap),H[b]? = some (.box [.bool false,av]) → H[t]? = some (.box (zGB d)) → Mag av v → (wds v).length ≤ 1000 → (wds d).length ≤ 1000 → Good PR GT zAn [.ref b 0 0 0,.ref b 0 0 0,.ref t 0 0 0] H (.ref b 0 0 0) (H.set b (.box (zGB ((v + d : Nat) : Int))))
 fit : ∀ b v H,H[b]? = some (.box (zGB v)) → (wds v.natAbs).length ≤ 100 → Good PR GT zCy [.ref b 0 0 0] H (.bool (decide (zDP v))) H
 i64 : ∀ b v H,H[b]? = some (.box (zGB v)) → zDP v → Good PR GT zAY [.ref b 0 0 0] H (zK v) H
section
variable {PR : Program} {GT : Nat → Option AV}
theorem cf_of (hm : PR.follows .mixedOrders = true) {f : Nat} {F : AF} {args : List AV} {b : Nat} {s : Bs} {p d : Nat} {r : Option (Nd × Nat)} (hc : zAH PR f F = true) (h : EF (Good PR GT) GT F args b s p d r) (hn : zHr args = true:=by rfl) : CF (Good PR GT) f args b s p d r:=
 ⟨fun n e hr H hb=>(zAc hm hc (h.1 n e hr H hb) hn).1 _ _ rfl,fun hr=>by
  obtain ⟨n,a,w,e,d',h1,h2,h3⟩:=h.2 hr
  exact ⟨n,a,w,e,d',h1,h2,fun H hb=>(zAc hm hc (h3 H hb) hn).1 _ _ rfl⟩⟩
theorem q_wordly (k : RefK PR) (c : UInt8) (H : Heap) : Good PR GT zBY [byV c] H (.bool (z6 c)) H:=zN k.hm k.wordly (rwordly_ev c H)
theorem q_wrongs (k : RefK PR) (H : Heap) : Good PR GT zA9 [] H (.lst (some false) 1 (wrL.map AV.str)) H:=zN k.hm k.wrongs (rwrongs_ev H)
theorem q_bad (k : RefK PR) (n : Nat) (H : Heap) : Good PR GT zDa [zJ n] H (.agg [.int .i64 4,zJ n,.str []]) H:=zN k.hm k.bad (rbad_ev n H)
theorem q_named (k : RefK PR) (n : Nat) (H : Heap) (h1 : 1 ≤ n) (h6 : n ≤ 6) : Good PR GT zBu [.str (wrongs.getD (n - 1) [])] H (.tup [.agg [.int .i64 4,zJ n,.str []],.bool true]) H:=zN k.hm k.named (rnamed_ev (q_wrongs k) (q_bad k) n h1 h6 H)
theorem zGf (k : RefK PR) (s : Bs) (a : Nat) (H : Heap) (ha : a ≤ s.length) (hl : s.length ≤ 1000) : Good PR GT zV [.str s,zJ a] H (tkV s a) H:=zN k.hm k.token (rtoken_ev (q_wordly k) (q_wrongs k) s a H ha hl)
theorem q_called (k : RefK PR) (s : Bs) (H : Heap) (hl : s.length ≤ 1000) : Good PR GT zi [.str s] H (.bool (zBX s)) H:=zN k.hm k.called (rcalled_ev s H hl)
theorem q_whole (k : RefK PR) (g : BigG PR GT) (s : Bs) (H : Heap) (hl : s.length ≤ 200) : Good PR GT zU [.str s,.bool false] H (zKE (zBE s)) H:=zN k.hm k.whole (rwhole_ev g.new g.mul g.add g.fit g.i64 s H hl)
theorem q_ref (k : RefK PR) (g : BigG PR GT) (s : Bs) (H : Heap) (hl : s.length ≤ 200) : Good PR GT zm [.str s] H (refRV (zCu s)) H:=zN k.hm k.ref (rref_ev (q_whole k g) s H hl)
theorem q_sign (k : RefK PR) (t : Bs) (H : Heap) : Good PR GT zCH [.str t] H (zJ (zBK t)) H:=zN k.hm k.sign (rsign_ev t H)
theorem q_tight (k : RefK PR) (op : Nat) (H : Heap) (h : op ≤ 1000) : Good PR GT zBP [zJ op] H (zJ (tight op)) H:=zN k.hm k.tight (rtight_ev op H h)
theorem q_fail (k : RefK PR) (b : Nat) (s : Bs) (p d a e : Int) (H : Heap) (hb : H[b]? = some (pB s p 0 0 d)) : Good PR GT ze [pR b,zK a,zK e] H (.tup []) (H.set b (pB s p a e d)):=(zAc k.hm k.fail (rfail_ev b s p d a 0 e H hb .undef [])).1 _ _ rfl
theorem q_deeper (k : RefK PR) (b : Nat) (s : Bs) (p : Int) (d : Nat) (a : Int) (H : Heap) (hb : H[b]? = some (pB s p 0 0 d)) (hd : d ≤ 1000) :
  (d = 30 → Good PR GT zf [pR b,zK a] H (.bool false) (H.set b (pB s p a 4 d))) ∧ (d ≠ 30 → Good PR GT zf [pR b,zK a] H (.bool true) (H.set b (pB s p 0 0 (d + 1 : Nat)))):=
 have h:=zAc k.hm k.deeper (rdeeper_ev (GT:=GT) (q_fail k) b s p d a H hb hd .undef [])
 ⟨fun e=>h.1 _ _ (by rw [zMg e]),fun e=>h.1 _ _ (by rw [zMe e])⟩
theorem q_close1 (k : RefK PR) (b : Nat) (s : Bs) (p d e : Nat) (H : Heap) (hb : H[b]? = some (rP s p (d + 1))) (hp : p ≤ s.length) (hl : s.length ≤ 200) (hd : d ≤ 1000) (hk : tok s p = .sign e [41]) : Good PR GT zd [pR b] H (.tup []) (H.set b (rP s e d)):=(zAc k.hm k.close (rclose_ok (zGf k) b s p d e H hb hp hl hd hk)).1 _ _ rfl
theorem q_close2 (k : RefK PR) (b : Nat) (s : Bs) (p d : Nat) (H : Heap) (hb : H[b]? = some (rP s p (d + 1))) (hp : p ≤ s.length) (hl : s.length ≤ 200) (hd : d ≤ 1000) (hk : ¬ ∃ e,tok s p = .sign e [41]) : Good PR GT zd [pR b] H (.tup []) (H.set b (pB s (tkE (skip s p) (tok s p) : Nat) (skip s p : Nat) 2 d)):=(zAc k.hm k.close (rclose_no (zGf k) (q_fail k) b s p d H hb hp hl hd hk)).1 _ _ rfl
theorem q_close3 (k : RefK PR) (b : Nat) (s : Bs) (p : Nat) (w e d : Int) (H : Heap) (hb : H[b]? = some (pB s p w e d)) (he : e ≠ 0) (hp : p ≤ s.length) (hl : s.length ≤ 200) : Good PR GT zd [pR b] H (.tup []) (H.set b (pB s (tkE (skip s p) (tok s p) : Nat) w e (IntKind.wrap .i64 (d - 1)))):=(zAc k.hm k.close (rclose_bad (zGf k) b s p w e d H hb he hp hl)).1 _ _ rfl
theorem q_all (k : RefK PR) (g : BigG PR GT) (b : Nat) (s : Bs) (hl : s.length ≤ 200) : ∀ n p,p ≤ s.length → s.length - p = n → ∀ d,d + (s.length - p) ≤ 500 →
  CF (Good PR GT) zAI [pR b] b s p d ((P s).one p d) ∧ ∀ l,CF (Good PR GT) zW [pR b,zJ l] b s p d ((P s).loose l p d):=by
 intro n
 induction n using Nat.strongRecOn with
 | _ n ih=>
  intro p hp hn d hd
  have ih':=fun p' (h1 : p < p') (h2 : p' ≤ s.length) d' h3=>ih (s.length - p') tO p' h2 rfl d' h3
  clear ih
  have one : CF (Good PR GT) zAI [pR b] b s p d ((P s).one p d):=by
   refine cf_of k.hm k.one (rone_ef (zGf k) (q_called k) (q_whole k g) (q_ref k g) (fun n H=>q_named k n H) (q_fail k) (fun b s p d a H=>q_deeper k b s p d a H) (q_close1 k) (q_close2 k) (q_close3 k) b s p d hp hl tO (fun a h1 h2=>(ih' a h1 h2 (d + 1) tO).1) (fun a h1 h2=>(ih' a h1 h2 (d + 1) tO).2 1) (fun e t h40 h1 h2=>?_))
   have he:=(zg h40).1
   have h:=rcall_ef (GT:=GT) (zGf k) (q_ref k g) (q_fail k) (q_close1 k) (q_close2 k) (q_close3 k) b s t e d h40 hl tO (fun a h1 h2=>(ih' a tO h2 (d + 1) tO).2 1)
   refine ⟨fun n e2 hr H hb=>(zAc k.hm k.call (h.1 n e2 hr H hb)).1 _ _ rfl,fun hr=>?_⟩
   obtain ⟨n,a,w,e',d',g1,g2,g3⟩:=h.2 hr
   exact ⟨n,a,w,e',d',g1,g2,fun H hb=>(zAc k.hm k.call (g3 H hb)).1 _ _ rfl⟩
  exact ⟨one,fun l=>cf_of k.hm k.loose (rloose_ef (zGf k) (q_sign k) (q_tight k) b s p d l hp hl (fun a l' h1 h2=>(ih' a h1 h2 d tO).2 l') one)⟩
end
end Go.AM
set_option maxRecDepth 20000
namespace Go.AM
structure Fil where
 col : Int
 row : Int
 text : Bs
 deriving DecidableEq
def zr (c r : Int) : AV:=.agg [zK c,zK r]
def zb (f : Fil) : AV:=.agg [zK f.col,zK f.row,.str f.text]
def okC (c r : Int) : Bool:=decide (1 ≤ c) && decide (c ≤ 26) && decide (1 ≤ r) && decide (r ≤ 99)
def cmp3 (a b : Int) : Int:=if a < b then -1 else if b < a then 1 else 0
def cmpC (c1 r1 c2 r2 : Int) : Int:=if cmp3 r1 r2 ≠ 0 then cmp3 r1 r2 else cmp3 c1 c2
def zDQ (a b : Fil) : Bool:=decide (cmpC a.col a.row b.col b.row < 0)
def zB3 (s : Bs) : Nat:=if 200 < s.length then 4 else if s.head? = some 61 then (match zEG s with
 | some _=>0
 | none=>2) else 0
def eV (n : Nat) : AV:=if n = 0 then .nili else zFX n
def filN (prev : Option Fil) (f : Fil) : Nat:=if okC f.col f.row = false then 1 else if (match prev with
 | some p=>zDQ p f
 | none=>true) = false then 5 else if f.text = [] then 3 else zB3 f.text
def zEw (prev : Option Fil) : List Fil → Nat
 | []=>0
 | f :: r=>if filN prev f = 0 then zEw (some f) r else filN prev f
def zBH (l : List Fil) : Nat:=if 200 < l.length then 4 else zEw none l
theorem zKF (l : List Fil) (i : Nat) (f : Fil) (h : l[i]? = some f) (prev : Option Fil) : zEw prev (l.drop i) = if filN prev f = 0 then zEw (some f) (l.drop (i + 1)) else filN prev f:=by
 have hi:=(zg h).1
 have e : l.drop i = f :: l.drop (i + 1):=by
  rw [zN8 hi]
  rw [(zg h).2]
 rw [e]; rfl
theorem sIdxW {v : AV} {H : Heap} {k : Nat} {xs : List AV} {n : Int} {K : AV → Prop} (i : Nat) (x : AV) (hv : view H k v = some xs) (hn : n = (i : Int)) (hx : xs[i]? = some x) (q1 : K (.lref x 0)) (q2 : ∀ b j,zAC H (.ref b k j 0) = some (x.cells,0) → K (.ref b k j 0)) : idxN k v n K:=by
 have hlt:=(zg hx).1
 unfold view at hv
 split at hv
 ·split at hv
  ·rename_i hk
   cases hv; subst hk
   exact sIdx hn hx q1
  ·split at hv
   ·cases hv; simp at hlt
   ·cases hv
 ·rw [zHj]; unfold idxNW
  simp only
  split at hv
  ·rename_i hk
   subst hk
   split at hv
   ·rename_i hb
    split at hv
    ·rename_i hc
     cases hv
     rw [zMy,zNQ] at hlt
     rw [zNC,zMg tO,zNF] at hx
     subst hn
     rw [hc.1] at hb
     refine zGE ⟨rfl,by omega,by omega⟩ (q2 _ _ (ptr_row hb hx))
    ·cases hv
   ·rename_i hb
    split at hv
    ·rename_i hc
     cases hv
     rw [zMy,zNQ] at hlt
     rw [zNC,zMg tO,zNF] at hx
     subst hn
     rw [hc.1] at hb
     refine zGE ⟨rfl,by omega,by omega⟩ (q2 _ _ ?_)
     show zAC H (.ref _ _ _ _) = _
     simp only [zAC,hb,zND,zNt,hx,zMv]
    ·cases hv
   ·cases hv
  ·cases hv
 ·cases hv
section
variable {C : CSpec} {GT : Nat → Option AV}
theorem aok_ev (c r : Int) (H : Heap) : EFun C GT a_addr_ok [zr c r] H (.bool (okC c r)) H:=by
 refine zc ?_
 unfold okC
 by_cases h1 : 1 ≤ c
 ·rw [zM8 h1]
  by_cases h2 : c ≤ 26
  ·rw [zM8 h2]
   by_cases h3 : 1 ≤ r
   ·rw [zM8 h3]
    refine zD6 (x:=zr c r) rfl <| zB (zK c) zD rfl <| zP tT <| zB (zK c) zD rfl <| zH <| zP tT ?_; refine zB (zK r) zD rfl <| zH <| zP tT <| zB (zK r) zD rfl <| zH ?_
    exact zBO rfl rfl rfl rfl ((Old.refl _).push _)
   ·rw [zNI h3]
    refine zD6 (x:=zr c r) rfl <| zB (zK c) zD rfl <| zP tT <| zB (zK c) zD rfl <| zH <| zP tT ?_; refine zB (zK r) zD rfl <| zH <| zO tF <| zG ?_
    exact zBO rfl rfl rfl rfl ((Old.refl _).push _)
  ·rw [zNI h2]
   refine zD6 (x:=zr c r) rfl <| zB (zK c) zD rfl <| zP tT <| zB (zK c) zD rfl ?_; refine zH <| zO tF <| zG <| zG <| zG ?_
   exact zBO rfl rfl rfl rfl ((Old.refl _).push _)
 ·rw [zNI h1]
  refine zD6 (x:=zr c r) rfl <| zB (zK c) zD rfl ?_; refine zO tF <| zG <| zG <| zG <| zG <| zG ?_
  exact zBO rfl rfl rfl rfl ((Old.refl _).push _)
theorem acheck_ev (hO : ∀ c r H,C zI3 [zr c r] H (.bool (okC c r)) H) (c r : Int) (H : Heap) : EFun C GT zKW [zr c r] H (if okC c r = true then .nili else zFX 1) H:=by
 have ho:=hO c r
 clear hO
 refine zc ?_
 cases hk : okC c r with
 | true=>
  rw [hk] at ho
  refine zD6 (x:=zr c r) rfl <| zB (zr c r) zD rfl <| zI (ho _) <| zG ?_
  exact zBO rfl rfl rfl rfl ((Old.refl _).push _)
 | false=>
  rw [hk] at ho
  refine zD6 (x:=zr c r) rfl <| zB (zr c r) zD rfl <| zI (ho _) <| zH ?_
  exact zBO rfl rfl rfl rfl ((Old.refl _).push _)
theorem nan_ev (a : Int) (H : Heap) : EFun C GT zGk [zK a] H (.bool false) H:=by
 refine zc ?_; refine sRetE ?_ rfl rfl rfl rfl (Old.refl _)
 show AV.bool false = AV.bool (a != a)
 simp
theorem ccmp_ev (hN : ∀ a H,C zCC [zK a] H (.bool false) H) (a b : Int) (H : Heap) : EFun C GT zE2 [zK a,zK b] H (zK (cmp3 a b)) H:=by
 have hn:=hN
 clear hN
 refine zc ?_
 unfold cmp3
 by_cases h1 : a < b
 ·rw [zMg h1]
  refine zI (hn _ _) <| zI (hn _ _) <| zG <| zG <| zP tT ?_
  exact sRr
 ·rw [zMe h1]
  by_cases h2 : b < a
  ·rw [zMg h2]
   refine zI (hn _ _) <| zI (hn _ _) <| zG <| zG <| zO tF <| zP tT ?_
   exact sRr
  ·rw [zMe h2]
   refine zI (hn _ _) <| zI (hn _ _) <| zG <| zG <| zO tF <| zO tF ?_
   exact sRr
theorem cor_ev (b : Nat) (x y : Int) (H : Heap) (hb : H[b]? = some (.row 1 [zK x,zK y])) : EFun C GT zJC [.sl (some false) b 1 0 2] H (zK (if x ≠ 0 then x else y)) H:=by
 refine zc ?_
 obtain ⟨r,hr⟩ : ∃ r,(if x ≠ 0 then x else y) = r:=⟨_,rfl⟩
 rw [hr]
 refine zEV ?_; refine zBB (fun i : Nat=>[(8,zJ i),(3,zK 0),(6,.sl (some false) b 1 0 2),(7,zJ 2)]) (fun i H'=>H' = H ∧ i ≤ 2 ∧ (1 ≤ i → x = 0) ∧ (2 ≤ i → y = 0)) (fun i=>2 - i) 0 rfl ⟨rfl,by omega,fun h=>by omega,fun h=>by omega⟩ (fun i H1 ⟨hH,hi,hx,hy⟩=>?_)
 subst hH
 dsimp only
 rcases (show i = 0 ∨ i = 1 ∨ i = 2 by omega) with rfl | rfl | rfl
 ·by_cases h0 : x = 0
  ·refine zP tT <| sAt ⟨by omega,by omega⟩ <| zA5 0 (zK x) (zK x) rfl hb rfl rfl <| zO (zNA.2 tO) <| zM (r:=1) rfl tO ?_; refine zAA 1 rfl ⟨rfl,by omega,fun _=>h0,fun h=>by omega⟩ tO
  ·rw [zMg h0] at hr
   subst hr
   refine zP tT <| sAt ⟨by omega,by omega⟩ <| zA5 0 (zK x) (zK x) rfl hb rfl rfl <| zP (zNP.2 tO) ?_
   exact sRr
 ·have h0:=hx tO
  rw [zMe (fun h=>h h0)] at hr
  subst hr
  by_cases h1 : y = 0
  ·refine zP tT <| sAt ⟨by omega,by omega⟩ <| zA5 1 (zK y) (zK y) rfl hb rfl rfl <| zO (zNA.2 tO) <| zM (r:=2) rfl tO ?_; refine zAA 2 rfl ⟨rfl,by omega,fun _=>h0,fun _=>h1⟩ tO
  ·refine zP tT <| sAt ⟨by omega,by omega⟩ <| zA5 1 (zK y) (zK y) rfl hb rfl rfl <| zP (zNP.2 tO) ?_
   exact sRr
 ·have h0:=hx tO
  have h1:=hy tO
  rw [zMe (fun h=>h h0),h1] at hr
  subst hr
  refine zO tF ?_
  exact sRr
theorem acomp_ev (hC : ∀ a b H,C zBc [zK a,zK b] H (zK (cmp3 a b)) H) (hO : ∀ b x y H,H[b]? = some (.row 1 [zK x,zK y]) → C zEL [.sl (some false) b 1 0 2] H (zK (if x ≠ 0 then x else y)) H) (c1 r1 c2 r2 : Int) (H : Heap) :
  EFun C GT zIF [zr c1 r1,zr c2 r2] H (zK (cmpC c1 r1 c2 r2)) H:=by
 have hc:=hC
 have ho:=fun b H h=>hO b (cmp3 r1 r2) (cmp3 c1 c2) H h
 clear hO hC
 refine zc ?_
 unfold cmpC
 refine zD6 (x:=zr c1 r1) rfl <| zD6 (x:=zr c2 r2) rfl <| zB (zK r1) (zC zD) rfl <| zB (zK r2) zD rfl <| zI (hc _ _ _) <| zB (zK c1) (zC zD) rfl ?_; refine zB (zK c2) zD rfl <| zI (hc _ _ _) <| zAD (vs':=[zK (cmp3 r1 r2),zK (cmp3 c1 c2)]) rfl rfl <| zI (ho _ _ hP) ?_
 exact zBO rfl rfl rfl rfl ((((Old.refl _).push _).push _).push _)
theorem aless_ev (hC : ∀ c1 r1 c2 r2 H,C zBk [zr c1 r1,zr c2 r2] H (zK (cmpC c1 r1 c2 r2)) H) (a b : Fil) (H : Heap) : EFun C GT zL0 [zr a.col a.row,zr b.col b.row] H (.bool (zDQ a b)) H:=by
 have hc:=hC a.col a.row b.col b.row
 clear hC
 refine zc ?_
 unfold zDQ
 refine zD6 (x:=zr a.col a.row) rfl <| zD6 (x:=zr b.col b.row) rfl <| zB (zr a.col a.row) (zC zD) rfl <| zB (zr b.col b.row) zD rfl <| zI (hc _) ?_
 exact zBO rfl rfl rfl rfl (((Old.refl _).push _).push _)
theorem gtext_ev (hCo : ∀ s H,C zAl [.str s] H (.bool (decide (s.head? ≠ some 61))) H) (hP : ∀ s H,C zA3 [.str s] H (zGe s) H) (s : Bs) (H : Heap) : EFun C GT zKX [.str s] H (eV (zB3 s)) H:=by
 have hc:=hCo s
 have hp:=hP s
 clear hCo hP
 refine zc ?_
 unfold zB3
 by_cases hl : 200 < s.length
 ·rw [zMg hl]
  refine zP tT ?_
  exact sRr
 ·rw [zMe hl]
  by_cases h : s.head? = some 61
  ·rw [zMg h]
   rw [tF (fun x=>x h)] at hc
   unfold zGe at hp
   cases hq : zEG s with
   | some n=>
    rw [hq] at hp
    have hp : ∀ H,C zA3 [.str s] H (.tup [ndV n,.int .i64 0,.nili]) H:=hp
    refine zO tF <| zI (hc _) <| zH <| zI (hp _) <| zS rfl <| zS rfl ?_; refine zS rfl <| zF (v:=ndV n) (AV.cells (ndV n)) zD rfl rfl rfl rfl <| zS rfl <| zG ?_
    exact zBO rfl rfl rfl rfl (((Old.refl _).push _).set tA _)
   | none=>
    rw [hq] at hp
    have hp : ∀ H,C zA3 [.str s] H (.tup [ndV zY,.sca,.iface zT .undef]) H:=hp
    refine zO tF <| zI (hc _) <| zH <| zI (hp _) <| zS rfl <| zS rfl ?_; refine zS rfl <| zF (v:=ndV zY) (AV.cells (ndV zY)) zD rfl rfl rfl rfl <| zS rfl <| zH ?_
    exact zBO rfl rfl rfl rfl (((Old.refl _).push _).set tA _)
  ·rw [zMe h]
   rw [zM8 h] at hc
   refine zO tF <| zI (hc _) <| zG ?_
   exact sRr
theorem gcheck_ev (hA : ∀ c r H,C zD0 [zr c r] H (if okC c r = true then .nili else zFX 1) H) (hL : ∀ a b H,C zGH [zr a.col a.row,zr b.col b.row] H (.bool (zDQ a b)) H) (hT : ∀ s H,C zB5 [.str s] H (eV (zB3 s)) H)
  (lv : AV) (l : List Fil) (H : Heap) (hv : view H 3 lv = some (l.map zb)) : EFun C GT zI9 [lv] H (eV (zBH l)) H:=by
 have hlm : (l.map zb).length = l.length:=zMl _
 refine zc ?_
 unfold zBH
 by_cases hl : 200 < l.length
 ·rw [zMg hl]
  clear hA hL hT
  refine zBV hv <| zP tT ?_
  exact sRr
 rw [zMe hl]
 obtain ⟨r,hr⟩ : ∃ r,zEw none l = r:=⟨_,rfl⟩
 rw [hr]
 refine zBV hv <| zO tF <| zBV hv ?_; refine zBB (fun i : Nat=>[(12,zJ i),(0,lv),(10,lv),(11,.int .i64 ((l.map zb).length : Nat))]) (fun i H'=>Old H H' ∧ view H' 3 lv = some (l.map zb) ∧ i ≤ l.length ∧ zEw (if i = 0 then none else l[i - 1]?) (l.drop i) = r) (fun i=>l.length - i) 0 rfl ⟨Old.refl _,hv,by omega,hr⟩ (fun i H1 ⟨hH,hv1,hi,hq⟩=>?_)
 dsimp only
 by_cases hlt : i < l.length
 ·obtain ⟨f,hf⟩ : ∃ f,l[i]? = some f:=⟨_,zMf hlt⟩
  have hfm : (l.map zb)[i]? = some (zb f):=by rw [zMq,hf]; rfl
  rw [zKF l i f hf] at hq
  have hvo : view ((H1 ++ [ABlk.box zV5]).set (List.length H1) (ABlk.box (zb f).cells)) 3 lv = some (l.map zb):=zDU (((Old.refl H1).push _).set (zMh _) _) hv1
  have ha:=hA f.col f.row
  have ht:=hT f.text
  have hH2 : ∀ X Y,Old H ((H1 ++ [X]).set H1.length Y):=fun X Y=>(hH.push _).set hH.1 _
  clear hA hT
  unfold filN at hq
  cases hok : okC f.col f.row with
  | false=>
   rw [hok] at ha hq
   have hq : 1 = r:=hq
   subst hq
   clear hL ht
   refine zP tT ?_; refine zHG i (zb f) hv1 rfl hfm (fun p hp=>?_)
   refine zz (zb f) hp rfl <| zF (v:=zb f) (AV.cells (zb f)) zD rfl rfl rfl rfl <| zB (AV.agg [zK f.col,zK f.row]) (zE zD) rfl <| zI (ha _) <| zS rfl <| zH ?_
   exact zBO rfl rfl rfl rfl (hH2 _ _)
  | true=>
   rw [hok] at ha hq
   rw [zMe (by simp : ¬ (true = false))] at hq
   have ha : ∀ H,C zD0 [zr f.col f.row] H .nili H:=ha
   by_cases hi0 : i = 0
   ·rw [zMg hi0] at hq
    have hq : (if (if f.text = [] then 3 else zB3 f.text) = 0 then zEw (some f) (l.drop (i + 1)) else if f.text = [] then 3 else zB3 f.text) = r:=hq
    clear hL
    by_cases h0 : f.text = []
    ·rw [zMg h0] at hq
     have hq : 3 = r:=hq
     subst hq
     clear ht
     refine zP tT ?_; refine zHG i (zb f) hv1 rfl hfm (fun p hp=>?_)
     refine zz (zb f) hp rfl <| zF (v:=zb f) (AV.cells (zb f)) zD rfl rfl rfl rfl <| zB (AV.agg [zK f.col,zK f.row]) (zE zD) rfl <| zI (ha _) <| zS rfl ?_; refine zG <| zO tF <| zG <| zG <| zB (AV.str f.text) (zE zD) rfl <| zP (tE h0) ?_
     exact zBO rfl rfl rfl rfl (hH2 _ _)
    ·rw [zMe h0] at hq
     by_cases hz : zB3 f.text = 0
     ·rw [zMg hz] at hq
      rw [hz] at ht
      have ht : ∀ H,C zB5 [.str f.text] H .nili H:=ht
      refine zP tT ?_; refine zHG i (zb f) hv1 rfl hfm (fun p hp=>?_)
      refine zz (zb f) hp rfl <| zF (v:=zb f) (AV.cells (zb f)) zD rfl rfl rfl rfl <| zB (AV.agg [zK f.col,zK f.row]) (zE zD) rfl <| zI (ha _) <| zS rfl ?_; refine zG <| zO tF <| zG <| zG <| zB (AV.str f.text) (zE zD) rfl <| zO (tN h0) ?_; refine zB (AV.str f.text) (zE zD) rfl <| zI (ht _) <| zS rfl <| zG <| zM (r:=i + 1) rfl tO ?_; refine zAA (i + 1) rfl ⟨hH2 _ _,hvo,by omega, ?_⟩ tO
      rw [zMe tO,zNg,hf]
      exact hq
     ·rw [zMe hz] at hq
      subst hq
      have ht : ∀ H,C zB5 [.str f.text] H (zFX (zB3 f.text)) H:=fun H=>by have:=ht H; rwa [eV,zMe hz] at this
      rw [eV,zMe hz]
      refine zP tT ?_; refine zHG i (zb f) hv1 rfl hfm (fun p hp=>?_)
      refine zz (zb f) hp rfl <| zF (v:=zb f) (AV.cells (zb f)) zD rfl rfl rfl rfl <| zB (AV.agg [zK f.col,zK f.row]) (zE zD) rfl <| zI (ha _) <| zS rfl ?_; refine zG <| zO tF <| zG <| zG <| zB (AV.str f.text) (zE zD) rfl <| zO (tN h0) ?_; refine zB (AV.str f.text) (zE zD) rfl <| zI (ht _) <| zS rfl <| zH ?_
      exact zBO rfl rfl rfl rfl (hH2 _ _)
   ·obtain ⟨g,hg⟩ : ∃ g,l[i - 1]? = some g:=⟨_,zMf tO⟩
    have hgm : (l.map zb)[i - 1]? = some (zb g):=by rw [zMq,hg]; rfl
    rw [zMe hi0,hg] at hq
    have hq : (if (if zDQ g f = false then 5 else if f.text = [] then 3 else zB3 f.text) = 0 then zEw (some f) (l.drop (i + 1)) else if zDQ g f = false then 5 else if f.text = [] then 3 else zB3 f.text) = r:=hq
    have hls:=hL g f
    clear hL
    cases hlp : zDQ g f with
    | false=>
     rw [hlp] at hls hq
     have hq : 5 = r:=hq
     subst hq
     clear ht
     refine zP tT ?_; refine zHG i (zb f) hv1 rfl hfm (fun p hp=>?_)
     refine zz (zb f) hp rfl <| zF (v:=zb f) (AV.cells (zb f)) zD rfl rfl rfl rfl <| zB (AV.agg [zK f.col,zK f.row]) (zE zD) rfl <| zI (ha _) <| zS rfl ?_; refine zG <| zP tT <| zM (r:=i - 1) tO tO ?_; refine sIdxW (i - 1) (zb g) hvo rfl hgm ?_ (fun b2 j2 hp2=>?_)
     ·refine zk (zr g.col g.row) rfl <| zB (AV.agg [zK f.col,zK f.row]) (zE zD) rfl <| zI (hls _) <| zH <| zH ?_
      exact zBO rfl rfl rfl rfl (hH2 _ _)
     ·refine zz (zr g.col g.row) hp2 rfl <| zB (AV.agg [zK f.col,zK f.row]) (zE zD) rfl <| zI (hls _) <| zH <| zH ?_
      exact zBO rfl rfl rfl rfl (hH2 _ _)
    | true=>
     rw [hlp] at hls hq
     rw [zMe (by simp : ¬ (true = false))] at hq
     by_cases h0 : f.text = []
     ·rw [zMg h0] at hq
      have hq : 3 = r:=hq
      subst hq
      clear ht
      refine zP tT ?_; refine zHG i (zb f) hv1 rfl hfm (fun p hp=>?_)
      refine zz (zb f) hp rfl <| zF (v:=zb f) (AV.cells (zb f)) zD rfl rfl rfl rfl <| zB (AV.agg [zK f.col,zK f.row]) (zE zD) rfl <| zI (ha _) <| zS rfl ?_; refine zG <| zP tT <| zM (r:=i - 1) tO tO ?_; refine sIdxW (i - 1) (zb g) hvo rfl hgm ?_ (fun b2 j2 hp2=>?_)
      ·refine zk (zr g.col g.row) rfl <| zB (AV.agg [zK f.col,zK f.row]) (zE zD) rfl <| zI (hls _) <| zH <| zG <| zB (AV.str f.text) (zE zD) rfl ?_; refine zP (tE h0) ?_
       exact zBO rfl rfl rfl rfl (hH2 _ _)
      ·refine zz (zr g.col g.row) hp2 rfl <| zB (AV.agg [zK f.col,zK f.row]) (zE zD) rfl <| zI (hls _) <| zH <| zG <| zB (AV.str f.text) (zE zD) rfl ?_; refine zP (tE h0) ?_
       exact zBO rfl rfl rfl rfl (hH2 _ _)
     ·rw [zMe h0] at hq
      by_cases hz : zB3 f.text = 0
      ·rw [zMg hz] at hq
       rw [hz] at ht
       have ht : ∀ H,C zB5 [.str f.text] H .nili H:=ht
       refine zP tT ?_; refine zHG i (zb f) hv1 rfl hfm (fun p hp=>?_)
       refine zz (zb f) hp rfl <| zF (v:=zb f) (AV.cells (zb f)) zD rfl rfl rfl rfl <| zB (AV.agg [zK f.col,zK f.row]) (zE zD) rfl <| zI (ha _) <| zS rfl ?_; refine zG <| zP tT <| zM (r:=i - 1) tO tO ?_; refine sIdxW (i - 1) (zb g) hvo rfl hgm ?_ (fun b2 j2 hp2=>?_)
       ·refine zk (zr g.col g.row) rfl <| zB (AV.agg [zK f.col,zK f.row]) (zE zD) rfl <| zI (hls _) <| zH <| zG <| zB (AV.str f.text) (zE zD) rfl ?_; refine zO (tN h0) <| zB (AV.str f.text) (zE zD) rfl <| zI (ht _) <| zS rfl <| zG <| zM (r:=i + 1) rfl tO ?_; refine zAA (i + 1) rfl ⟨hH2 _ _,hvo,by omega, ?_⟩ tO
        rw [zMe tO,zNg,hf]
        exact hq
       ·refine zz (zr g.col g.row) hp2 rfl <| zB (AV.agg [zK f.col,zK f.row]) (zE zD) rfl <| zI (hls _) <| zH <| zG <| zB (AV.str f.text) (zE zD) rfl ?_; refine zO (tN h0) <| zB (AV.str f.text) (zE zD) rfl <| zI (ht _) <| zS rfl <| zG <| zM (r:=i + 1) rfl tO ?_; refine zAA (i + 1) rfl ⟨hH2 _ _,hvo,by omega, ?_⟩ tO
        rw [zMe tO,zNg,hf]
        exact hq
      ·rw [zMe hz] at hq
       subst hq
       have ht : ∀ H,C zB5 [.str f.text] H (zFX (zB3 f.text)) H:=fun H=>by have:=ht H; rwa [eV,zMe hz] at this
       rw [eV,zMe hz]
       refine zP tT ?_; refine zHG i (zb f) hv1 rfl hfm (fun p hp=>?_)
       refine zz (zb f) hp rfl <| zF (v:=zb f) (AV.cells (zb f)) zD rfl rfl rfl rfl <| zB (AV.agg [zK f.col,zK f.row]) (zE zD) rfl <| zI (ha _) <| zS rfl ?_; refine zG <| zP tT <| zM (r:=i - 1) tO tO ?_; refine sIdxW (i - 1) (zb g) hvo rfl hgm ?_ (fun b2 j2 hp2=>?_)
       ·refine zk (zr g.col g.row) rfl <| zB (AV.agg [zK f.col,zK f.row]) (zE zD) rfl <| zI (hls _) <| zH <| zG <| zB (AV.str f.text) (zE zD) rfl ?_; refine zO (tN h0) <| zB (AV.str f.text) (zE zD) rfl <| zI (ht _) <| zS rfl <| zH ?_
        exact zBO rfl rfl rfl rfl (hH2 _ _)
       ·refine zz (zr g.col g.row) hp2 rfl <| zB (AV.agg [zK f.col,zK f.row]) (zE zD) rfl <| zI (hls _) <| zH <| zG <| zB (AV.str f.text) (zE zD) rfl ?_; refine zO (tN h0) <| zB (AV.str f.text) (zE zD) rfl <| zI (ht _) <| zS rfl <| zH ?_
        exact zBO rfl rfl rfl rfl (hH2 _ _)
 ·have hd : l.drop i = []:=zNx tO
  rw [hd] at hq
  have hq : 0 = r:=hq
  subst hq
  clear hA hL hT
  refine zO tF ?_
  exact zBO rfl rfl rfl rfl hH
end
end Go.AM
set_option maxRecDepth 20000
namespace Go.AM
theorem cmpC_less (a b : Fil) : zDQ a b = if a.row ≠ b.row then decide (a.row < b.row) else decide (a.col < b.col):=by
 unfold zDQ cmpC cmp3
 by_cases h1 : a.row < b.row
 ·have h2 : a.row ≠ b.row:=by omega
  simp [h1,h2]
 ·by_cases h2 : b.row < a.row
  ·have h3 : a.row ≠ b.row:=by omega
   simp [h1,h2,h3]
  ·have h3 : a.row = b.row:=by omega
   by_cases h4 : a.col < b.col
   ·simp [h3,h4]
   ·by_cases h5 : b.col < a.col
    ·simp [h3,h4,h5]
    ·simp [h3,h4,h5]
theorem zCf {F : AF} {a s t1 t2 : Nat} {ag : Bool} {H H1 : Heap} {fr : Fr} {v v1 v2 : AV} {cs : List AV} {o : Nat} (hF : F.results = [.cell a s ag,.tmp t1,.tmp t2]) (hk : F.keep = false) (hp : zAC H1 (getF fr a) = some (cs,o)) (hpt : part cs o s ag = some v) (ht1 : getF fr t1 = v1) (ht2 : getF fr t2 = v2)
  (hf : zDR H.length (.tup [v,v1,v2]) H1 = some (.tup [v,v1,v2],H1)) (hb : (AV.tup [v,v1,v2]).bel H.length = true) (ho : Old H H1) : retP F H fr H1 (.tup [v,v1,v2]) H:=by
 refine zBO hk ?_ hf hb ho
 rw [zGF] at hp ht1 ht2
 simp only [hF,zBa,zLN,hp,hpt,ht1,ht2,zMv]
 rfl
section
variable {C : CSpec} {GT : Nat → Option AV}
theorem rin_ev (c r : Int) (H : Heap) : EFun C GT zHK [zr c r] H (.bool (okC c r)) H:=by
 refine zc ?_
 unfold okC
 by_cases h1 : 1 ≤ c
 ·rw [zM8 h1]
  by_cases h2 : c ≤ 26
  ·rw [zM8 h2]
   by_cases h3 : 1 ≤ r
   ·rw [zM8 h3]
    refine zD6 (x:=zr c r) rfl <| zB (zK c) zD rfl <| zP tT <| zB (zK c) zD rfl <| zH <| zP tT ?_; refine zB (zK r) zD rfl <| zH <| zP tT <| zB (zK r) zD rfl <| zH ?_
    exact zBO rfl rfl rfl rfl ((Old.refl _).push _)
   ·rw [zNI h3]
    refine zD6 (x:=zr c r) rfl <| zB (zK c) zD rfl <| zP tT <| zB (zK c) zD rfl <| zH <| zP tT ?_; refine zB (zK r) zD rfl <| zH <| zO tF <| zG ?_
    exact zBO rfl rfl rfl rfl ((Old.refl _).push _)
  ·rw [zNI h2]
   refine zD6 (x:=zr c r) rfl <| zB (zK c) zD rfl <| zP tT <| zB (zK c) zD rfl ?_; refine zH <| zO tF <| zG <| zG <| zG ?_
   exact zBO rfl rfl rfl rfl ((Old.refl _).push _)
 ·rw [zNI h1]
  refine zD6 (x:=zr c r) rfl <| zB (zK c) zD rfl ?_; refine zO tF <| zG <| zG <| zG <| zG <| zG ?_
  exact zBO rfl rfl rfl rfl ((Old.refl _).push _)
theorem rahead_ev (a b : Fil) (H : Heap) : EFun C GT zEX [zr a.col a.row,zr b.col b.row] H (.bool (zDQ a b)) H:=by
 rw [cmpC_less]
 refine zc ?_
 by_cases h : a.row ≠ b.row
 ·rw [zMg h]
  refine zD6 (x:=zr a.col a.row) rfl <| zD6 (x:=zr b.col b.row) rfl <| zB (zK a.row) (zC zD) rfl <| zB (zK b.row) zD rfl <| zP (zNP.2 h) <| zB (zK a.row) (zC zD) rfl ?_; refine zB (zK b.row) zD rfl ?_
  exact zBO rfl rfl rfl rfl (((Old.refl _).push _).push _)
 ·rw [zMe h]
  have h : a.row = b.row:=Classical.not_not.1 h
  refine zD6 (x:=zr a.col a.row) rfl <| zD6 (x:=zr b.col b.row) rfl <| zB (zK a.row) (zC zD) rfl <| zB (zK b.row) zD rfl <| zO (zNA.2 h) <| zB (zK a.col) (zC zD) rfl ?_; refine zB (zK b.col) zD rfl ?_
  exact zBO rfl rfl rfl rfl (((Old.refl _).push _).push _)
def RPar (C : CSpec) (s : Bs) : Prop:=
 (∀ n,zEG s = some n → ∀ H,C zCY [.str s] H (.tup [ndV n,zK 0,zK 0]) H) ∧ (zEG s = none → ∀ H,∃ w e : Int,e ≠ 0 ∧ C zCY [.str s] H (.tup [ndV zY,zK w,zK e]) H)
theorem rparse_ok (hT : ∀ s a H,a ≤ s.length → s.length ≤ 1000 → C zV [.str s,zJ a] H (tkV s a) H) (s : Bs) (hl : s.length ≤ 200) (h61 : s[0]? = some 61) (n : Nd) (e : Nat) (he : e ≤ s.length) (hk : tok s e = .fin)
  (hLo : ∀ b H,H[b]? = some (rP s 1 0) → C zW [pR b,.int .i64 1] H (ndV n) (H.set b (rP s e 0))) (H : Heap) : EFun C GT zCZ [.str s] H (.tup [ndV n,zK 0,zK 0]) H:=by
 have htk:=fun H=>hT s e H he tO
 rw [zFE,hk] at htk
 clear hT
 refine zc ?_
 have hne : s ≠ []:=fun x=>by subst x; cases h61
 generalize skip s e = q at *
 refine zO tF <| zO (tN hne) <| zn rfl h61 <| zG <| zG <| zS (v:=[AV.str s,.int .i64 1,.int .i64 0,.int .i64 0,.int .i64 0]) rfl ?_; refine zD6 (x:=AV.agg [AV.str s,.int .i64 1,.int .i64 0,.int .i64 0,.int .i64 0]) rfl <| zp (hLo _ _ hP) (fun h=>by cases h) <| zF (v:=ndV n) (AV.cells (ndV n)) zD rfl rfl rfl rfl <| zB (zK ↑e) (zA tA (zC (zE zD))) rfl <| zI (htk _) <| zF (v:=kV (tkK Tok.fin) q (tkE q Tok.fin) (tkT Tok.fin)) (AV.cells (kV (tkK Tok.fin) q (tkE q Tok.fin) (tkT Tok.fin))) zD rfl rfl rfl rfl ?_
 refine zB (zK 0) (zA tA (zC (zA tA (zC (zE zD))))) rfl <| zH <| zB (zJ (tkK Tok.fin)) (zE zD) rfl <| zH <| zG <| zB (zK 0) (zA tA (zC (zA tA (zC (zE zD))))) rfl ?_; refine zG <| zB (ndV n) (zA tA (zC (zE zD))) rfl <| zF (v:=ndV n) (AV.cells (ndV n)) (zA tA (zC (zA tA (zC (zA tA (zC zD)))))) rfl rfl rfl rfl ?_
 exact zCf (o:=0) rfl rfl (zL hP) rfl rfl rfl rfl rfl (by repeat' (first | exact Old.refl _ | refine Old.set ?_ tC _ | refine Old.push ?_ _))
theorem rparse_tail (hT : ∀ s a H,a ≤ s.length → s.length ≤ 1000 → C zV [.str s,zJ a] H (tkV s a) H)
  (hF : ∀ b s p d a e H,H[b]? = some (pB s p 0 0 d) → C ze [pR b,zK a,zK e] H (.tup []) (H.set b (pB s p a e d)))
  (s : Bs) (hl : s.length ≤ 200) (h61 : s[0]? = some 61) (n : Nd) (e : Nat) (he : e ≤ s.length) (hk : tkK (tok s e) ≠ 0)
  (hLo : ∀ b H,H[b]? = some (rP s 1 0) → C zW [pR b,.int .i64 1] H (ndV n) (H.set b (rP s e 0))) (H : Heap) : EFun C GT zCZ [.str s] H (.tup [ndV zY,zJ (skip s e),zK 2]) H:=by
 have htk:=fun H=>hT s e H he tO
 rw [zFE] at htk
 have hf:=fun b H=>hF b s e 0 (skip s e : Nat) 2 H
 clear hT hF
 refine zc ?_
 have hne : s ≠ []:=fun x=>by subst x; cases h61
 generalize tkE (skip s e) (tok s e) = ee at *
 generalize tkK (tok s e) = kk at *
 generalize tkT (tok s e) = t at *
 generalize skip s e = q at *
 refine zO tF <| zO (tN hne) <| zn rfl h61 <| zG <| zG <| zS (v:=[AV.str s,.int .i64 1,.int .i64 0,.int .i64 0,.int .i64 0]) rfl ?_; refine zD6 (x:=AV.agg [AV.str s,.int .i64 1,.int .i64 0,.int .i64 0,.int .i64 0]) rfl <| zp (hLo _ _ hP) (fun h=>by cases h) <| zF (v:=ndV n) (AV.cells (ndV n)) zD rfl rfl rfl rfl <| zB (zK ↑e) (zA tA (zC (zE zD))) rfl <| zI (htk _) <| zF (v:=kV kk q ee t) (AV.cells (kV kk q ee t)) zD rfl rfl rfl rfl ?_
 refine zB (zK 0) (zA tA (zC (zA tA (zC (zE zD))))) rfl <| zP (tE (by rfl)) <| zB (zJ kk) (zE zD) rfl <| zH <| zP (zNP.2 tO) <| zB (zJ q) (zE zD) rfl ?_; refine zp (hf _ _ hP) (fun h=>by cases h) <| zB (zK 2) (zE (zA tA (zC (zA tA (zC (zE zD)))))) rfl <| zP (zNP.2 tO) <| zS (v:=zV0) rfl ?_
 refine zG7 ?_ ?_
 ·refine zB (zK ↑q) (zE (zA tA (zC (zA tA (zC (zE zD)))))) rfl ?_; refine zG7 ?_ ?_
  ·refine zB (zK 2) (zE (zA tA (zC (zA tA (zC (zE zD)))))) rfl <| zF (v:=AV.agg zV0) (AV.cells (AV.agg zV0)) (zA tA (zA tA (zC (zA tA (zC (zA tA (zC zD))))))) rfl rfl rfl rfl ?_
   exact zCf (o:=0) rfl rfl (zL hP) rfl rfl rfl rfl rfl (by repeat' (first | exact Old.refl _ | refine Old.set ?_ tC _ | refine Old.push ?_ _))
  ·refine zF (v:=AV.agg zV0) (AV.cells (AV.agg zV0)) (zA tA (zA tA (zC (zA tA (zC (zA tA (zC zD))))))) rfl rfl rfl rfl <| zB (zK 2) (zA tA (zE (zA tA (zC (zA tA (zC (zE zD))))))) rfl ?_
   exact zCf (o:=0) rfl rfl (zL hP) rfl rfl rfl rfl rfl (by repeat' (first | exact Old.refl _ | refine Old.set ?_ tC _ | refine Old.push ?_ _))
 ·refine zG7 ?_ ?_
  ·refine zB (zK 2) (zE (zA tA (zC (zA tA (zC (zE zD)))))) rfl ?_; refine zG7 ?_ ?_
   ·refine zB (zK ↑q) (zE (zA tA (zC (zA tA (zC (zE zD)))))) rfl <| zF (v:=AV.agg zV0) (AV.cells (AV.agg zV0)) (zA tA (zA tA (zC (zA tA (zC (zA tA (zC zD))))))) rfl rfl rfl rfl ?_
    exact zCf (o:=0) rfl rfl (zL hP) rfl rfl rfl rfl rfl (by repeat' (first | exact Old.refl _ | refine Old.set ?_ tC _ | refine Old.push ?_ _))
   ·refine zF (v:=AV.agg zV0) (AV.cells (AV.agg zV0)) (zA tA (zA tA (zC (zA tA (zC (zA tA (zC zD))))))) rfl rfl rfl rfl <| zB (zK ↑q) (zA tA (zE (zA tA (zC (zA tA (zC (zE zD))))))) rfl ?_
    exact zCf (o:=0) rfl rfl (zL hP) rfl rfl rfl rfl rfl (by repeat' (first | exact Old.refl _ | refine Old.set ?_ tC _ | refine Old.push ?_ _))
  ·refine zF (v:=AV.agg zV0) (AV.cells (AV.agg zV0)) (zA tA (zA tA (zC (zA tA (zC (zA tA (zC zD))))))) rfl rfl rfl rfl <| zB (zK ↑q) (zA tA (zE (zA tA (zC (zA tA (zC (zE zD))))))) rfl <| zB (zK 2) (zA tA (zE (zA tA (zC (zA tA (zC (zE zD))))))) rfl ?_
   exact zCf (o:=0) rfl rfl (zL hP) rfl rfl rfl rfl rfl (by repeat' (first | exact Old.refl _ | refine Old.set ?_ tC _ | refine Old.push ?_ _))
theorem rparse_bad (hT : ∀ s a H,a ≤ s.length → s.length ≤ 1000 → C zV [.str s,zJ a] H (tkV s a) H)
  (s : Bs) (hl : s.length ≤ 200) (h61 : s[0]? = some 61) (n : Nd) (a : Nat) (w e d : Int) (ha : a ≤ s.length) (he : e ≠ 0) (H : Heap)
  (hLo : ∀ H',H'[(H ++ [ABlk.box (ndC zY)]).length]? = some (rP s 1 0) → C zW [pR (H ++ [ABlk.box (ndC zY)]).length,.int .i64 1] H' (ndV n) (H'.set (H ++ [ABlk.box (ndC zY)]).length (pB s a w e d))) : EFun C GT zCZ [.str s] H (.tup [ndV zY,zK w,zK e]) H:=by
 have htk:=fun H=>hT s a H ha tO
 rw [zFE] at htk
 clear hT
 refine zc ?_
 have hne : s ≠ []:=fun x=>by subst x; cases h61
 generalize tkE (skip s a) (tok s a) = ee at *
 generalize tkK (tok s a) = kk at *
 generalize tkT (tok s a) = t at *
 generalize skip s a = q at *
 refine zO tF <| zO (tN hne) <| zn rfl h61 <| zG <| zG <| zS (v:=[AV.str s,.int .i64 1,.int .i64 0,.int .i64 0,.int .i64 0]) rfl ?_; refine zD6 (x:=AV.agg [AV.str s,.int .i64 1,.int .i64 0,.int .i64 0,.int .i64 0]) rfl <| zp (hLo _ hP) (fun h=>by cases h) <| zF (v:=ndV n) (AV.cells (ndV n)) zD rfl rfl rfl rfl <| zB (zK ↑a) (zA tA (zC (zE zD))) rfl <| zI (htk _) <| zF (v:=kV kk q ee t) (AV.cells (kV kk q ee t)) zD rfl rfl rfl rfl ?_
 refine zB (zK e) (zA tA (zC (zA tA (zC (zE zD))))) rfl <| zO tF <| zG <| zG <| zB (zK e) (zA tA (zC (zA tA (zC (zE zD))))) rfl <| zP (zNP.2 he) ?_; refine zS (v:=zV0) rfl ?_; refine zG7 ?_ ?_
 ·refine zB (zK w) (zA tA (zC (zA tA (zC (zE zD))))) rfl ?_; refine zG7 ?_ ?_
  ·refine zB (zK e) (zA tA (zC (zA tA (zC (zE zD))))) rfl <| zF (v:=AV.agg zV0) (AV.cells (AV.agg zV0)) (zA tA (zC (zA tA (zC (zA tA (zC zD)))))) rfl rfl rfl rfl ?_
   exact zCf (o:=0) rfl rfl (zL hP) rfl rfl rfl rfl rfl (by repeat' (first | exact Old.refl _ | refine Old.set ?_ tC _ | refine Old.push ?_ _))
  ·refine zF (v:=AV.agg zV0) (AV.cells (AV.agg zV0)) (zA tA (zC (zA tA (zC (zA tA (zC zD)))))) rfl rfl rfl rfl <| zB (zK e) (zA tA (zA tA (zC (zA tA (zC (zE zD)))))) rfl ?_
   exact zCf (o:=0) rfl rfl (zL hP) rfl rfl rfl rfl rfl (by repeat' (first | exact Old.refl _ | refine Old.set ?_ tC _ | refine Old.push ?_ _))
 ·refine zG7 ?_ ?_
  ·refine zB (zK e) (zA tA (zC (zA tA (zC (zE zD))))) rfl ?_; refine zG7 ?_ ?_
   ·refine zB (zK w) (zA tA (zC (zA tA (zC (zE zD))))) rfl <| zF (v:=AV.agg zV0) (AV.cells (AV.agg zV0)) (zA tA (zC (zA tA (zC (zA tA (zC zD)))))) rfl rfl rfl rfl ?_
    exact zCf (o:=0) rfl rfl (zL hP) rfl rfl rfl rfl rfl (by repeat' (first | exact Old.refl _ | refine Old.set ?_ tC _ | refine Old.push ?_ _))
   ·refine zF (v:=AV.agg zV0) (AV.cells (AV.agg zV0)) (zA tA (zC (zA tA (zC (zA tA (zC zD)))))) rfl rfl rfl rfl <| zB (zK w) (zA tA (zA tA (zC (zA tA (zC (zE zD)))))) rfl ?_
    exact zCf (o:=0) rfl rfl (zL hP) rfl rfl rfl rfl rfl (by repeat' (first | exact Old.refl _ | refine Old.set ?_ tC _ | refine Old.push ?_ _))
  ·refine zF (v:=AV.agg zV0) (AV.cells (AV.agg zV0)) (zA tA (zC (zA tA (zC (zA tA (zC zD)))))) rfl rfl rfl rfl <| zB (zK w) (zA tA (zA tA (zC (zA tA (zC (zE zD)))))) rfl <| zB (zK e) (zA tA (zA tA (zC (zA tA (zC (zE zD)))))) rfl ?_
   exact zCf (o:=0) rfl rfl (zL hP) rfl rfl rfl rfl rfl (by repeat' (first | exact Old.refl _ | refine Old.set ?_ tC _ | refine Old.push ?_ _))
end
end Go.AM
