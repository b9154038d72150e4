/- Several texts of mine in one (Rfc, Rfd, Rfe, Rff, Chk). Own work. -/
import Derived.Test.YtaohficjbicfgaaGreatDoorGRf9Rfb
import Derived.Test.YtaohficjbicfgaaGreatDoorGFr7Am24
import Derived.Test.YtaohficjbicfgaaGreatDoorGAm31Rf1
set_option linter.all false
set_option maxRecDepth 20000
namespace Go.AM
theorem box_in {s : Bs} {a e1 : Nat} {w1 : Bs} {r1 : RefP} (ht : tok s a = .word e1 w1) (hr : zCa w1 = some r1) (h58 : s[e1]? = some 58) :
  zDj s a = some (if skip s (e1 + 1) = e1 + 1 ∧ tkK (tok s (e1 + 1)) = 1 then (zCa (tkT (tok s (e1 + 1)))).map fun r2=>(boxN r1 r2,tkE (skip s (e1 + 1)) (tok s (e1 + 1))) else none):=by
 unfold zDj
 rw [ht]
 simp only [hr,h58,if_true]
 by_cases h32 : s[e1 + 1]? = some 32
 ·have h1 : skip s (e1 + 1) ≠ e1 + 1:=by
   have:=zJE h32
   have:=zEC s (e1 + 1 + 1)
   omega
  rw [if_neg (fun x=>h1 x.1)]
  have : zCF s (e1 + 1) = .sign (e1 + 2) [32]:=by
   unfold zCF
   rw [h32]
   have w32 : zu 32 = false:=by decide
   have n1 : ¬ ((32 : UInt8) = 34):=by decide
   have n2 : ¬ ((32 : UInt8) = 35):=by decide
   simp only [w32,Bool.false_eq_true,if_false,n1,n2]
   cases s[e1 + 1 + 1]? with
   | none=>rfl
   | some d=>
    simp only
    rw [if_neg (by rintro (⟨h,_⟩ | ⟨h,_⟩ | ⟨h,_⟩) <;> revert h <;> decide)]
  rw [this]
 ·have h1:=zDH h32
  have h2:=zJb h32
  rw [h1,h2]
  cases zCF s (e1 + 1) with
  | word e2 t2=>simp [tkK,tkT,tkE]
  | fin=>simp [tkK]
  | txt e2 t2=>simp [tkK]
  | bad e2 t2=>simp [tkK]
  | sign e2 t2=>simp [tkK]
  | none=>simp [tkK]
theorem box_out {s : Bs} {a : Nat} (h : ¬ ∃ e1 w1 r1,tok s a = .word e1 w1 ∧ zCa w1 = some r1 ∧ s[e1]? = some 58) : zDj s a = none:=by
 unfold zDj
 split
 ·rename_i e t ht
  split
  ·rename_i r hr
   split
   ·rename_i h58
    exact absurd ⟨e,t,r,ht,hr,h58⟩ h
   ·rfl
  ·rfl
 ·rfl
def emB (s : Bs) (e1 : Nat) : Nat:=tkE (skip s (e1 + 1)) (tok s (e1 + 1))
def clB (s : Bs) (a : Nat) (w e d : Int) : ABlk:=pB s (tkE (skip s a) (tok s a) : Nat) w e (IntKind.wrap .i64 (d - 1))
inductive AF' (C : CSpec) (b : Nat) (s : Bs) (d : Nat) : List Nd → Nat → List Nd → ABlk → Prop where
 | box (ks : List Nd) (a e1 : Nat) (w1 : Bs) (r1 : RefP) (ht : tok s a = .word e1 w1) (hr : zCa w1 = some r1) (h58 : s[e1]? = some 58) (hn : zDj s a = some none) :
   AF' C b s d ks a (ks ++ [boxN r1 ((zCa (tkT (tok s (e1 + 1)))).getD noRef)]) (clB s (emB s e1) (e1 + 1 : Nat) 2 (d + 1 : Nat))
 | lo (ks : List Nd) (a : Nat) (nw : Nd) (W : Bd) (hn : zDj s a = none) (hl : (P s).loose 1 a (d + 1) = none) (hW : W.ok s) (h : ∀ H,H[b]? = some (rP s a (d + 1)) → C zW [pR b,.int .i64 1] H (ndV nw) (H.set b (W.blk s))) :
   AF' C b s d ks a (ks ++ [nw]) (clB s W.a W.w W.e W.d)
 | close (ks : List Nd) (a : Nat) (m : Nd) (e2 : Nat) (h : zEF s (P s) a (d + 1) = some (m,e2)) (h44 : ¬ ∃ e3,tok s e2 = .sign e3 [44]) (h41 : ¬ ∃ e3,tok s e2 = .sign e3 [41]) :
   AF' C b s d ks a (ks ++ [m]) (pB s (tkE (skip s e2) (tok s e2) : Nat) (skip s e2 : Nat) 2 d)
 | later (ks : List Nd) (a : Nat) (m : Nd) (e2 e3 : Nat) (L : List Nd) (RB : ABlk) (h : zEF s (P s) a (d + 1) = some (m,e2)) (h44 : tok s e2 = .sign e3 [44]) (k : AF' C b s d (ks ++ [m]) e3 L RB) : AF' C b s d ks a L RB
theorem args_fail {C : CSpec} {b : Nat} {s : Bs} {d : Nat} {t : Bs} (e0 : Nat) (hLo : ∀ a,e0 < a → a ≤ s.length → CF C zW [pR b,.int .i64 1] b s a (d + 1) ((P s).loose 1 a (d + 1))) : ∀ (k : Nat) (ks : List Nd) (a : Nat),e0 < a → a ≤ s.length → s.length - a ≤ k → (P s).args t ks a (d + 1) = none → ∃ L RB,AF' C b s d ks a L RB:=by
 intro k
 induction k with
 | zero=>
  intro ks a h0 ha hk h
  have hae : a = s.length:=by omega
  have hb : zDj s a = none:=by
   refine box_out ?_
   rintro ⟨e1,w1,r1,ht,_⟩
   have:=zBb s a
   rw [ht] at this
   simp only [Tok.endsBy] at this
   omega
  have hl : (P s).loose 1 a (d + 1) = none:=by
   cases hl : (P s).loose 1 a (d + 1) with
   | none=>rfl
   | some q=>have:=(zBx s).loose 1 a (d + 1) q ha hl; omega
  obtain ⟨n',a',w,e',d',h1,h2,h3⟩:=(hLo a h0 ha).2 hl
  exact ⟨_,_,.lo ks a n' ⟨a',w,e',d'⟩ hb hl ⟨h1,h2⟩ h3⟩
 | succ k ih=>
  intro ks a h0 ha hk h
  rw [zK6 t ks (d + 1) ha] at h
  unfold zFR at h
  cases hpa : zEF s (P s) a (d + 1) with
  | none=>
   have hpa':=hpa
   unfold zEF at hpa'
   cases hb : zDj s a with
   | some r=>
    rw [hb] at hpa'
    simp only at hpa'
    subst hpa'
    have : ∃ e1 w1 r1,tok s a = .word e1 w1 ∧ zCa w1 = some r1 ∧ s[e1]? = some 58:=Classical.byContradiction fun x=>by rw [box_out x] at hb; cases hb
    obtain ⟨e1,w1,r1,ht,hr,h58⟩:=this
    exact ⟨_,_,.box ks a e1 w1 r1 ht hr h58 hb⟩
   | none=>
    rw [hb] at hpa'
    simp only at hpa'
    obtain ⟨n',a',w,e',d',h1,h2,h3⟩:=(hLo a h0 ha).2 hpa'
    exact ⟨_,_,.lo ks a n' ⟨a',w,e',d'⟩ hb hpa' ⟨h1,h2⟩ h3⟩
  | some x=>
   obtain ⟨m,e2⟩:=x
   have hx:=zG1 (zBx s) a (d + 1) _ ha hpa
   simp only at hx
   rw [hpa,Option.bind_some] at h
   by_cases h44 : ∃ e3,tok s e2 = .sign e3 [44]
   ·obtain ⟨e3,h44⟩:=h44
    have ht:=zBb s e2
    simp only [h44] at h
    rw [h44] at ht
    simp only [Tok.endsBy] at ht
    obtain ⟨L,RB,hL⟩:=ih (ks ++ [m]) e3 tO tO tO h
    exact ⟨L,RB,.later ks a m e2 e3 L RB hpa h44 hL⟩
   ·by_cases h41 : ∃ e3,tok s e2 = .sign e3 [41]
    ·obtain ⟨e3,h41⟩:=h41
     simp only [h41] at h
     cases h
    ·exact ⟨_,_,.close ks a m e2 hpa h44 h41⟩
def AR (C : CSpec) (b : Nat) (s : Bs) (d : Nat) (t : Bs) (ks : List Nd) (a : Nat) (RV : AV) (RB : ABlk) : Prop:=
 (∃ n' e',(P s).args t ks a (d + 1) = some (n',e') ∧ RV = ndV n' ∧ RB = rP s e' d) ∨ (∃ L,AF' C b s d ks a L RB ∧ RV = ndV (zEE t L))
def AN (C : CSpec) (b : Nat) (s : Bs) (d : Nat) (t : Bs) (L : List Nd) (e2 : Nat) (RV : AV) (RB : ABlk) : Prop:=
 (∃ e3,tok s e2 = .sign e3 [44] ∧ AR C b s d t L e3 RV RB) ∨ (∃ e3,tok s e2 = .sign e3 [41] ∧ RV = ndV (zEE t L) ∧ RB = rP s e3 d) ∨
 ((¬ ∃ e3,tok s e2 = .sign e3 [44]) ∧ (¬ ∃ e3,tok s e2 = .sign e3 [41]) ∧ RV = ndV (zEE t L) ∧ RB = pB s (tkE (skip s e2) (tok s e2) : Nat) (skip s e2 : Nat) 2 d)
theorem AR.ok {C : CSpec} {b : Nat} {s : Bs} {d : Nat} {t : Bs} {ks : List Nd} {a : Nat} {RV : AV} {RB : ABlk} (h : AR C b s d t ks a RV RB) (ha : a ≤ s.length) {m : Nd} {e2 : Nat} (hp : zEF s (P s) a (d + 1) = some (m,e2)) : AN C b s d t (ks ++ [m]) e2 RV RB:=by
 rcases h with ⟨n',e',h1,h2,h3⟩ | ⟨L,hL,hv⟩
 ·rw [zK6 t ks (d + 1) ha] at h1
  unfold zFR at h1
  rw [hp,Option.bind_some] at h1
  by_cases h44 : ∃ e3,tok s e2 = .sign e3 [44]
  ·obtain ⟨e3,h44⟩:=h44
   simp only [h44] at h1
   exact .inl ⟨e3,h44,.inl ⟨n',e',h1,h2,h3⟩⟩
  ·by_cases h41 : ∃ e3,tok s e2 = .sign e3 [41]
   ·obtain ⟨e3,h41⟩:=h41
    simp only [h41] at h1
    obtain ⟨rfl,rfl⟩ : zEE t (ks ++ [m]) = n' ∧ e3 = e':=by cases h1; exact ⟨rfl,rfl⟩
    exact .inr (.inl ⟨_,h41,h2,h3⟩)
   ·exfalso
    split at h1
    ·rename_i e3 hk; exact h44 ⟨e3,hk⟩
    ·rename_i e3 hk; exact h41 ⟨e3,hk⟩
    ·cases h1
 ·cases hL with
  | box _ _ e1 w1 r1 ht hr h58 hn=>unfold zEF at hp; rw [hn] at hp; cases hp
  | lo _ _ nw W hn hl hW h=>unfold zEF at hp; rw [hn] at hp; simp only at hp; rw [hl] at hp; cases hp
  | close _ _ m' e2' h h44 h41=>rw [hp] at h; cases h; exact .inr (.inr ⟨h44,h41,hv,rfl⟩)
  | later _ _ m' e2' e3 _ _ h h44 k=>rw [hp] at h; cases h; exact .inl ⟨_,h44,.inr ⟨L,k,hv⟩⟩
theorem AR.bx {C : CSpec} {b : Nat} {s : Bs} {d : Nat} {t : Bs} {ks : List Nd} {a : Nat} {RV : AV} {RB : ABlk} (h : AR C b s d t ks a RV RB) (ha : a ≤ s.length) (hb : zDj s a = some none) {e1 : Nat} {w1 : Bs} {r1 : RefP} (ht : tok s a = .word e1 w1) (hr : zCa w1 = some r1) :
  RV = ndV (zEE t (ks ++ [boxN r1 ((zCa (tkT (tok s (e1 + 1)))).getD noRef)])) ∧ RB = clB s (emB s e1) (e1 + 1 : Nat) 2 (d + 1 : Nat):=by
 have hp : zEF s (P s) a (d + 1) = none:=by unfold zEF; rw [hb]
 rcases h with ⟨n',e',h1,h2,h3⟩ | ⟨L,hL,hv⟩
 ·rw [zK6 t ks (d + 1) ha] at h1
  unfold zFR at h1
  rw [hp] at h1; cases h1
 ·cases hL with
  | box _ _ e1' w1' r1' ht' hr' h58 hn=>rw [ht] at ht'; cases ht'; rw [hr] at hr'; cases hr'; exact ⟨hv,rfl⟩
  | lo _ _ nw W hn hl hW h=>rw [hb] at hn; cases hn
  | close _ _ m' e2' h h44 h41=>rw [hp] at h; cases h
  | later _ _ m' e2' e3 _ _ h h44 k=>rw [hp] at h; cases h
theorem AR.lw {C : CSpec} {b : Nat} {s : Bs} {d : Nat} {t : Bs} {ks : List Nd} {a : Nat} {RV : AV} {RB : ABlk} (h : AR C b s d t ks a RV RB) (ha : a ≤ s.length) (hb : zDj s a = none) (hl : (P s).loose 1 a (d + 1) = none) :
  ∃ (nw : Nd) (W : Bd),W.ok s ∧ (∀ H,H[b]? = some (rP s a (d + 1)) → C zW [pR b,.int .i64 1] H (ndV nw) (H.set b (W.blk s))) ∧ RV = ndV (zEE t (ks ++ [nw])) ∧ RB = clB s W.a W.w W.e W.d:=by
 have hp : zEF s (P s) a (d + 1) = none:=by unfold zEF; rw [hb]; exact hl
 rcases h with ⟨n',e',h1,h2,h3⟩ | ⟨L,hL,hv⟩
 ·rw [zK6 t ks (d + 1) ha] at h1
  unfold zFR at h1
  rw [hp] at h1; cases h1
 ·cases hL with
  | box _ _ e1' w1' r1' ht' hr' h58 hn=>rw [hb] at hn; cases hn
  | lo _ _ nw W hn hl' hW h=>exact ⟨nw,W,hW,h,hv,rfl⟩
  | close _ _ m' e2' h h44 h41=>rw [hp] at h; cases h
  | later _ _ m' e2' e3 _ _ h h44 k=>rw [hp] at h; cases h
structure CaS where
 a : Nat
 v : AV
 ks : List Nd
section
variable {C : CSpec} {GT : Nat → Option AV}
theorem call_c0 (X : AC) (K : Post) (b n4 n5 n6 : Nat) (s : Bs) (a d : Nat) (H : Heap) (hb : H[b]? = some (rP s a d)) (h : ∀ fr',zZ fr' [6,0,4,5] = [(6,pR n6),(0,pR b),(4,pR n4),(5,pR n5)] → EW C GT X K fr' H) :
  EW C GT (.seq zA9.first X) K [(6,pR n6),(0,pR b),(4,pR n4),(5,pR n5)] H:=by
 refine zB (zK 0) hb rfl ?_; refine zP (tE (by rfl)) ?_
 exact h _ rfl
theorem call_s1 (T : AC) (K : Post) (b : Nat) (s t : Bs) (e d kk q e2 : Nat) (tt : Bs) (H : Heap) (hb : H[b]? = some (rP s e d)) (hel : e ≤ 200) (htk : ∀ H,C zV [.str s,zJ (e + 1)] H (kV kk q e2 tt) H)
  (h : ∀ fr' H' n4 n5 n6,n4 = H.length → n5 = H.length + 1 → n6 = H.length + 2 → zZ fr' [4,5,0,6] = [(4,pR n4),(5,pR n5),(0,pR b),(6,pR n6)] → OldB H b (rP s (e + 1) d) H' → H'[b]? = some (rP s (e + 1) d) → H'[n4]? = some (.box (ndC zY)) → H'[n5]? = some (.box (zAH t (.lst (some true) 0 []))) → H'[n6]? = some (.box [zJ kk,zJ q,zJ e2,.str tt]) → EW C GT T K fr' H') :
  EW C GT (.seq zA2.first (.seq zA2.rest.first (.seq zA2.rest.rest.first (.seq zA2.rest.rest.rest.first T)))) K [(0,pR b),(1,.str t)] H:=by
 have hbl : b < H.length:=(zg hb).1
 refine zU (v:=[.int .i64 9,.int .i64 0,AV.str t,.int .i64 0,.int .i64 0,AV.bool false,AV.bool false,.int .i64 0,.int .i64 0,AV.bool false,AV.bool false,AV.lst (some true) 0 []]) rfl ?_; refine zF (v:=AV.agg [.int .i64 9,.int .i64 0,AV.str t,.int .i64 0,.int .i64 0,AV.bool false,AV.bool false,.int .i64 0,.int .i64 0,AV.bool false,AV.bool false,AV.lst (some true) 0 []]) (AV.cells (AV.agg [.int .i64 9,.int .i64 0,AV.str t,.int .i64 0,.int .i64 0,AV.bool false,AV.bool false,.int .i64 0,.int .i64 0,AV.bool false,AV.bool false,AV.lst (some true) 0 []])) zC rfl rfl rfl rfl ?_
 refine zB (zK ↑e) (zA tA (zD (zD hb))) rfl ?_; refine zM (r:=e + 1) rfl tO ?_; refine zF (v:=.int .i64 ↑(e + 1)) [AV.str s,.int .i64 ↑(e + 1),zK 0,zK 0,zK ↑d] (zA tA (zD (zD hb))) rfl rfl rfl rfl ?_; refine zB (AV.str s) (zE (zA tA (zD (zD hb)))) rfl ?_; refine zB (.int .i64 ↑(e + 1)) (zE (zA tA (zD (zD hb)))) rfl ?_; refine zGU ?_ ?_
 ·refine zI (htk _) ?_; refine zF (v:=kV kk q e2 tt) [zJ kk,zJ q,zJ e2,.str tt] hP rfl rfl rfl rfl ?_
  exact h _ _ _ _ _ rfl (by simp) (by simp) rfl (by have hob:=OldB.start hb; repeat' (first | exact ⟨_,hob⟩ | apply zAI | apply zAJ | refine zAZ ?_ tC _ | apply OldB.push | apply OldB.setE | refine OldB.set ?_ tC _)) hP hP hP hP
 ·refine zI (htk _) ?_; refine zF (v:=kV kk q e2 tt) [zJ kk,zJ q,zJ e2,.str tt] hP rfl rfl rfl rfl ?_
  exact h _ _ _ _ _ rfl (by simp) (by simp) rfl (by have hob:=OldB.start hb; repeat' (first | exact ⟨_,hob⟩ | apply zAI | apply zAJ | refine zAZ ?_ tC _ | apply OldB.push | apply OldB.setE | refine OldB.set ?_ tC _)) hP hP hP hP
abbrev caE : AC:=zA2.rest.rest.rest.rest
theorem call_s2 (T : AC) (K : Post) (b n4 n5 n6 kk q e2 : Nat) (tt : Bs) (H : Heap) (fr : Fr) (hfr : zZ fr [4,5,0,6] = [(4,pR n4),(5,pR n5),(0,pR b),(6,pR n6)]) (h6 : H[n6]? = some (.box [zJ kk,zJ q,zJ e2,.str tt])) (hno : ¬ (kk = 4 ∧ tt = [41]))
  (h : ∀ fr',zZ fr' [6,0,4,5] = [(6,pR n6),(0,pR b),(4,pR n4),(5,pR n5)] → EW C GT T K fr' H) : EW C GT (.seq caE.first T) K fr H:=by
 refine zE0 (fr2:=[(4,pR n4),(5,pR n5),(0,pR b),(6,pR n6)]) hfr ?_
 by_cases h4 : kk = 4
 ·have h41 : tt ≠ [41]:=fun x=>hno ⟨h4,x⟩
  refine zB (zJ kk) h6 rfl ?_; refine zP tE ?_; refine zB (AV.str tt) h6 rfl ?_; refine zH <| zN (tN h41) ?_
  exact h _ rfl
 ·refine zB (zJ kk) h6 rfl ?_; refine zN tN <| zG <| zG ?_
  exact h _ rfl
theorem call_s3 (T : AC) (K : Post) (b n4 n5 n6 kk q e2 : Nat) (t tt : Bs) (B RB : ABlk) (H0 H : Heap) (fr : Fr) (hfr : zZ fr [4,5,0,6] = [(4,pR n4),(5,pR n5),(0,pR b),(6,pR n6)]) (h6 : H[n6]? = some (.box [zJ kk,zJ q,zJ e2,.str tt])) (hk : kk = 4) (ht : tt = [41])
  (hob : OldB H0 b B H) (hb : H[b]? = some B) (h4 : H[n4]? = some (.box (ndC zY))) (h5 : H[n5]? = some (.box (zAH t (.lst (some true) 0 [])))) (g4 : H0.length ≤ n4) (g5 : H0.length ≤ n5) (d45 : n4 ≠ n5) (hc : ∀ H,H[b]? = some B → C zb [pR b] H (.tup []) (H.set b RB))
  (hret : ∀ fr' H',getF fr' 4 = pR n4 → H'[n4]? = some (.box (zAH t (.lst (some true) 0 []))) → OldB H0 b RB H' → K .ret fr' H') : EW C GT (.seq caE.first T) K fr H:=by
 refine zE0 (fr2:=[(4,pR n4),(5,pR n5),(0,pR b),(6,pR n6)]) hfr ?_
 have hbl:=hob.lt
 have hl4:=(zg h4).1
 have hl5:=(zg h5).1
 refine zB (zJ kk) h6 rfl ?_; refine zP tE ?_; refine zB (AV.str tt) h6 rfl ?_; refine zH <| zP tE ?_; refine zm (hc _ hb) (fun h=>by cases h) ?_; refine zB (AV.agg [.int .i64 9,.int .i64 0,AV.str t,.int .i64 0,.int .i64 0,AV.bool false,AV.bool false,.int .i64 0,.int .i64 0,AV.bool false,AV.bool false,AV.lst (some true) 0 []]) (zA tA h5) rfl ?_; refine zF (v:=.agg (zAH t (.lst (some true) 0 []))) (zAH t (.lst (some true) 0 [])) hP rfl rfl rfl rfl ?_
 exact hret _ _ rfl hP ((hob.setB _).set g4 _)
end
end Go.AM
set_option maxRecDepth 20000
namespace Go.AM
theorem Kp.owns {H0 H H' : Heap} {b n9 : Nat} {v : AV} {xs cs cs9 : List AV} (k : Kp H H' b n9) (how : Owns H0 H v 12 xs) (hb : H[b]? = some (.box cs)) (h9 : H[n9]? = some (.box cs9)) : Owns H0 H' v 12 xs:=by
 rcases how with h | ⟨nb,h1,h2,h3,h4⟩
 ·exact .inl h
 ·exact .inr ⟨nb,h1,h2,k.1 nb _ h3 (fun e=>by subst e; rw [hb] at h3; cases h3) (fun e=>by subst e; rw [h9] at h3; cases h3),h4⟩
theorem Kp.old {H0 H H' : Heap} {b n9 : Nat} {B0 B : ABlk} (k : Kp H H' b n9) (hob : OldB H0 b B0 H) (g9 : H0.length ≤ n9) (hB : H'[b]? = some B) : OldB H0 b B H':=by
 have hl:=hob.old.1
 rw [List.length_set] at hl
 refine ⟨hob.lt,by rw [List.length_set]; exact Nat.le_trans hl k.2,fun c hc=>?_⟩
 rw [List.length_set] at hc
 by_cases e : b = c
 ·subst e; rw [List.getElem?_set_self hc]; exact hB
 ·rw [List.getElem?_set_ne e]
  have h1:=hob.old.2 c (by rw [List.length_set]; exact hc)
  rw [List.getElem?_set_ne e] at h1
  obtain ⟨x,hx⟩ : ∃ x,H0[c]? = some x:=⟨_,List.getElem?_eq_getElem hc⟩
  rw [hx] at h1 ⊢
  exact k.1 c x h1 (Ne.symm e) tO
section
variable {C : CSpec} {GT : Nat → Option AV}
theorem rcall_loop (hT : ∀ s a H,a ≤ s.length → s.length ≤ 1000 → C zV [.str s,zJ a] H (tkV s a) H)
  (hR : ∀ s H,s.length ≤ 200 → C zj [.str s] H (refRV (zCa s)) H)
  (hF : ∀ b s p d a e H,H[b]? = some (pB s p 0 0 d) → C zd [pR b,zK a,zK e] H (.tup []) (H.set b (pB s p a e d)))
  (hC1 : ∀ b s p d e H,H[b]? = some (rP s p (d + 1)) → p ≤ s.length → s.length ≤ 200 → d ≤ 1000 → tok s p = .sign e [41] → C zb [pR b] H (.tup []) (H.set b (rP s e d)))
  (hC2 : ∀ b s p d H,H[b]? = some (rP s p (d + 1)) → p ≤ s.length → s.length ≤ 200 → d ≤ 1000 → (¬ ∃ e,tok s p = .sign e [41]) → C zb [pR b] H (.tup []) (H.set b (pB s (tkE (skip s p) (tok s p) : Nat) (skip s p : Nat) 2 d)))
  (hC3 : ∀ b s (p : Nat) w e d H,H[b]? = some (pB s p w e d) → e ≠ 0 → p ≤ s.length → s.length ≤ 200 → C zb [pR b] H (.tup []) (H.set b (pB s (tkE (skip s p) (tok s p) : Nat) w e (IntKind.wrap .i64 (d - 1)))))
  (E : AC) (b : Nat) (s t : Bs) (d e0 a0 n4 n5 n6 : Nat) (v0 : AV) (ks0 : List Nd) (H0 H : Heap) (fr : Fr) (hfr : zZ fr [6,0,4,5] = [(6,pR n6),(0,pR b),(4,pR n4),(5,pR n5)]) (hl : s.length ≤ 200) (hd : d ≤ 1000)
  (hn4 : n4 = H0.length) (hn5 : n5 = H0.length + 1) (hn6 : n6 = H0.length + 2) (hob : OldB H0 b (rP s a0 (d + 1)) H) (hb : H[b]? = some (rP s a0 (d + 1))) (h4 : H[n4]? = some (.box (ndC zY))) (h5 : H[n5]? = some (.box (zAH t v0))) (h6 : ∃ c0 c1 c2 c3,H[n6]? = some (.box [c0,c1,c2,c3])) (how : Owns H0 H v0 12 (ks0.map ndV))
  (hea : e0 < a0) (hal : a0 ≤ s.length) (hkl : ks0.length ≤ a0) (hLo : ∀ a,e0 < a → a ≤ s.length → CF C zW [pR b,.int .i64 1] b s a (d + 1) ((P s).loose 1 a (d + 1)))
  (RV : AV) (RB : ABlk) (hRB : ∀ k,zE2 k RB = true) (hAR : AR C b s d t ks0 a0 RV RB) :
  EW C GT (.seq (.block 0 [4,5] (.loop [6,0,4,5] zA9)) E) (zHI zA3 H0 b [] .undef (some (RV,RB))) fr H:=by
 have hT:=fun a H h=>hT s a H h tO
 refine zBu (fun x : CaS=>[(6,pR n6),(0,pR b),(4,pR n4),(5,pR n5)])
  (fun x H'=>OldB H0 b (rP s x.a (d + 1)) H' ∧ H'[b]? = some (rP s x.a (d + 1)) ∧ H'[n4]? = some (.box (ndC zY)) ∧ H'[n5]? = some (.box (zAH t x.v)) ∧ (∃ c0 c1 c2 c3,H'[n6]? = some (.box [c0,c1,c2,c3])) ∧ Owns H0 H' x.v 12 (x.ks.map ndV) ∧ e0 < x.a ∧ x.a ≤ s.length ∧ x.ks.length ≤ x.a ∧ AR C b s d t x.ks x.a RV RB)
  (fun x=>s.length - x.a) ⟨a0,v0,ks0⟩ hfr ⟨hob,hb,h4,h5,h6,how,hea,hal,hkl,hAR⟩ (fun ⟨a,v,ks⟩ H1 ⟨hob,hb,h4,h5,⟨c0,c1,c2,c3,h6⟩,how,hea,hal,hkl,hAR⟩=>?_)
 dsimp only at hob hb h4 h5 h6 how hea hal hkl hAR ⊢
 have hbl:=hob.lt
 have hl4:=(zg h4).1
 have hl5:=(zg h5).1
 have hl6:=(zg h6).1
 refine call_c0 (.block 1 [6,0,4,5] caI) _ b n4 n5 n6 s a (d + 1) H1 hb (fun fr1 hfr1=>?_)
 suffices key : ∀ K : Post,(∀ (m : Nd) (fr' : Fr) (H' : Heap) (v' : AV),RV = ndV (zEE t (ks ++ [m])) → getF fr' 4 = pR n4 → H'[n4]? = some (.box (zAH t v')) → Owns H0 H' v' 12 ((ks ++ [m]).map ndV) → OldB H0 b RB H' → K .ret fr' H') →
   (∀ (m : Nd) (e3 : Nat) (fr' : Fr) (H' : Heap) (v' : AV),zZ fr' [6,0,4,5] = [(6,pR n6),(0,pR b),(4,pR n4),(5,pR n5)] → H'[b]? = some (rP s e3 (d + 1)) → H'[n5]? = some (.box (zAH t v')) → H'[n4]? = some (.box (ndC zY)) → (∃ c0 c1 c2 c3,H'[n6]? = some (.box [c0,c1,c2,c3])) → Owns H0 H' v' 12 ((ks ++ [m]).map ndV) → OldB H0 b (rP s e3 (d + 1)) H' → a < e3 → e3 ≤ s.length → AR C b s d t (ks ++ [m]) e3 RV RB → K (.exit 1) fr' H') →
   EW C GT caI K [(6,pR n6),(0,pR b),(4,pR n4),(5,pR n5)] H1 by
  have hgo:=fun K x y=>zLC (fr2:=[(6,pR n6),(0,pR b),(4,pR n4),(5,pR n5)]) hfr1 (key K x y)
  refine hgo _ (fun m fr' H' v' hv g1 g2 g3 g4=>?_) (fun m e3 fr' H' v' g1 g2 g3 g4 g5 g6 g7 g8 g9 g10=>?_)
  ·obtain ⟨H2',hz,hob2⟩:=zIj t g3 rfl g4
   exact zy (o:=0) (.agg (zAH t v')) (by rw [hv,zIi]) rfl rfl (by rw [g1]; exact zL g2) rfl hz (zGt _ _ _) hob2 (hRB _)
  ·exact zAM (CaS.mk e3 v' (ks ++ [m])) (by show zZ (zZ fr' [6,0,4,5]) [6,0,4,5] = _; rw [g1]; rfl) ⟨g7,g2,g4,g3,g5,g6,by simp only; omega,g9,by simp only [List.length_append,List.length_cons,List.length_nil]; omega,g10⟩ (by simp only; omega)
 intro K hret hcont
 clear hfr1 fr1
 have htk:=fun H=>hT a H hal
 rw [zEi] at htk
 have htl:=tkT_len hal hl
 have hel:=zHV hal
 have p1 : ∀ (rv : List AV) (ok : Bool),(∃ r0 r1 r2 r3,rv = [r0,r1,r2,r3]) → (AV.agg rv).cells.all AV.one = true → (∀ H,C zj [.str (tkT (tok s a))] H (.tup [.agg rv,.bool ok]) H) →
   (∀ fr' H' n7 n9,zZ fr' [6,0,4,5,9,7,8] = [(6,pR n6),(0,pR b),(4,pR n4),(5,pR n5),(9,pR n9),(7,pR n7),(8,.bool ok)] → n7 = H1.length → n9 = H1.length + 1 → H'[n7]? = some (.box rv) → H'[n9]? = some (.box (ndC zY)) → H'[n6]? = some (.box [zJ (tkK (tok s a)),zJ (skip s a),zJ (tkE (skip s a) (tok s a)),.str (tkT (tok s a))]) → H'[b]? = some (rP s a (d + 1)) → H'[n4]? = some (.box (ndC zY)) → H'[n5]? = some (.box (zAH t v)) → Owns H0 H' v 12 (ks.map ndV) → OldB H0 b (rP s a (d + 1)) H' →
    EW C GT (.seq caA caT) K fr' H') → EW C GT caI K [(6,pR n6),(0,pR b),(4,pR n4),(5,pR n5)] H1:=by
  intro rv ok ⟨r0,r1,r2,r3,hrv⟩ hro hr h
  refine call_p1 (.seq caA caT) _ b n4 n5 n6 s a (d + 1) _ _ _ _ rv ok H1 [c0,c1,c2,c3] rfl c0 c1 c2 c3 rfl hb h6 tO htk hr r0 r1 r2 r3 hrv hro (fun fr' H' n7 n9 g1 g2 g3 g4=>?_)
  subst g2 g3 g4
  have ho1:=(((how.setBox h6 (.box [zJ (tkK (tok s a)),zJ (skip s a),zJ (tkE (skip s a) (tok s a)),.str (tkT (tok s a))])).push (ABlk.box [.int .i64 0,.int .i64 0,.bool false,.bool false])).setBox (c:=H1.length) (cs:=[.int .i64 0,.int .i64 0,.bool false,.bool false]) (by have:=zC (H:=H1.set n6 (.box [zJ (tkK (tok s a)),zJ (skip s a),zJ (tkE (skip s a) (tok s a)),.str (tkT (tok s a))])) (x:=ABlk.box [.int .i64 0,.int .i64 0,.bool false,.bool false]); rw [List.length_set] at this; exact this) (.box rv)).push (ABlk.box (ndC zY))
  have hO1:=(((hob.set (c:=n6) tO (.box [zJ (tkK (tok s a)),zJ (skip s a),zJ (tkE (skip s a) (tok s a)),.str (tkT (tok s a))])).push [ABlk.box [.int .i64 0,.int .i64 0,.bool false,.bool false]]).set (c:=H1.length) tO (.box rv)).push [ABlk.box (ndC zY)]
  exact h fr' _ _ _ g1 rfl rfl hP (by have:=zC (H:=((H1.set n6 (.box [zJ (tkK (tok s a)),zJ (skip s a),zJ (tkE (skip s a) (tok s a)),.str (tkT (tok s a))])) ++ [ABlk.box [.int .i64 0,.int .i64 0,.bool false,.bool false]]).set H1.length (.box rv)) (x:=ABlk.box (ndC zY)); rw [show (((H1.set n6 (.box [zJ (tkK (tok s a)),zJ (skip s a),zJ (tkE (skip s a) (tok s a)),.str (tkT (tok s a))])) ++ [ABlk.box [.int .i64 0,.int .i64 0,.bool false,.bool false]]).set H1.length (.box rv)).length = H1.length + 1 from by simp] at this; exact this) hP hP hP hP ho1 hO1
 have fin : ∀ (m : Nd) (e2 : Nat) (fr2 : Fr) (H' H2 : Heap) (n9 : Nat),a < e2 → e2 ≤ s.length → AN C b s d t (ks ++ [m]) e2 RV RB → zZ fr2 [6,0,4,5,9] = [(6,pR n6),(0,pR b),(4,pR n4),(5,pR n5),(9,pR n9)] → H0.length ≤ n9 → n4 ≠ n9 → n5 ≠ n9 → n6 ≠ n9 → H'[n9]? = some (.box (ndC zY)) → H'[n6]? = some (.box [zJ (tkK (tok s a)),zJ (skip s a),zJ (tkE (skip s a) (tok s a)),.str (tkT (tok s a))]) → H'[b]? = some (rP s a (d + 1)) → H'[n4]? = some (.box (ndC zY)) → H'[n5]? = some (.box (zAH t v)) → Owns H0 H' v 12 (ks.map ndV) → OldB H0 b (rP s a (d + 1)) H' →
   H2[b]? = some (rP s e2 (d + 1)) → H2[n9]? = some (.box (ndC m)) → Kp H' H2 b n9 → EW C GT caT K fr2 H2:=by
  intro m e2 fr2 H' H2 n9 ha2 he2 hAN g1 g9 d49 d59 d69 k9 k6 kb k4 k5 ko kO f1 f2 kp
  have htk2:=fun H=>hT e2 H he2
  rw [zEi] at htk2
  have hend:=zBb s e2
  rcases hAN with ⟨e3,hk,hA⟩ | ⟨e3,hk,hv,hB⟩ | ⟨n44,n41,hv,hB⟩
  ·rw [hk] at htk2 hend
   have hend : e2 < e3 ∧ e3 ≤ s.length:=hend
   exact call_tcont K b n4 n5 n6 n9 s (d + 1) t m ks v _ H0 H2 fr2 g1 (kp.old kO g9 f1) (kp.owns ko kb k9) tO (kp.1 _ _ k4 tO d49) (kp.1 _ _ k5 tO d59) _ _ _ _ (kp.1 _ _ k6 tO d69) f2 tO tO tO g9 tO tO tO e2 _ _ e3 _ htk2 rfl rfl rfl f1
    (fun fr' H' v' g1 g2 g3 g4 g5 g6 g7=>hcont m e3 fr' H' v' g1 g2 g3 g4 g5 g6 g7 tO hend.2 hA)
  ·rw [hk] at htk2
   have hc:=fun H h=>hC1 b s e2 d e3 H h he2 hl hd hk
   rw [← hB] at hc
   exact call_trb K b n4 n5 n6 n9 s (d + 1) t m ks v _ H0 H2 fr2 g1 (kp.old kO g9 f1) (kp.owns ko kb k9) tO (kp.1 _ _ k4 tO d49) (kp.1 _ _ k5 tO d59) _ _ _ _ (kp.1 _ _ k6 tO d69) f2 tO tO tO g9 tO tO tO e2 _ _ e3 _ htk2 rfl (fun h=>by cases h) rfl f1 RB hc
    (fun fr' H' v' g1 g2 g3 g4=>hret m fr' H' v' hv g1 g2 g3 g4)
  ·have hc:=fun H h=>hC2 b s e2 d H h he2 hl hd n41
   rw [← hB] at hc
   by_cases h4 : tkK (tok s e2) = 4
   ·have h44 : tkT (tok s e2) ≠ [44]:=fun x=>by
     cases hk : tok s e2 <;> rw [hk] at h4 x <;> simp only [tkK,tkT] at h4 x
     all_goals first | omega | (subst x; exact n44 ⟨_,hk⟩)
    exact call_trb K b n4 n5 n6 n9 s (d + 1) t m ks v _ H0 H2 fr2 g1 (kp.old kO g9 f1) (kp.owns ko kb k9) tO (kp.1 _ _ k4 tO d49) (kp.1 _ _ k5 tO d59) _ _ _ _ (kp.1 _ _ k6 tO d69) f2 tO tO tO g9 tO tO tO e2 _ _ _ _ htk2 h4 h44 rfl f1 RB hc
     (fun fr' H' v' g1 g2 g3 g4=>hret m fr' H' v' hv g1 g2 g3 g4)
   ·exact call_tra K b n4 n5 n6 n9 s (d + 1) t m ks v _ H0 H2 fr2 g1 (kp.old kO g9 f1) (kp.owns ko kb k9) tO (kp.1 _ _ k4 tO d49) (kp.1 _ _ k5 tO d59) _ _ _ _ (kp.1 _ _ k6 tO d69) f2 tO tO tO g9 tO tO tO e2 _ _ _ _ htk2 h4 rfl f1 RB hc
     (fun fr' H' v' g1 g2 g3 g4=>hret m fr' H' v' hv g1 g2 g3 g4)
 have fbad : ∀ (m : Nd) (a2 : Nat) (w ee dd : Int) (fr2 : Fr) (H' H2 : Heap) (n9 : Nat),ee ≠ 0 → a2 ≤ s.length → RV = ndV (zEE t (ks ++ [m])) → RB = clB s a2 w ee dd → zZ fr2 [6,0,4,5,9] = [(6,pR n6),(0,pR b),(4,pR n4),(5,pR n5),(9,pR n9)] → H0.length ≤ n9 → n4 ≠ n9 → n5 ≠ n9 → n6 ≠ n9 → H'[n9]? = some (.box (ndC zY)) → H'[n6]? = some (.box [zJ (tkK (tok s a)),zJ (skip s a),zJ (tkE (skip s a) (tok s a)),.str (tkT (tok s a))]) → H'[b]? = some (rP s a (d + 1)) → H'[n4]? = some (.box (ndC zY)) → H'[n5]? = some (.box (zAH t v)) → Owns H0 H' v 12 (ks.map ndV) → OldB H0 b (rP s a (d + 1)) H' →
   H2[b]? = some (pB s a2 w ee dd) → H2[n9]? = some (.box (ndC m)) → Kp H' H2 b n9 → EW C GT caT K fr2 H2:=by
  intro m a2 w ee dd fr2 H' H2 n9 hee he2 hv hB g1 g9 d49 d59 d69 k9 k6 kb k4 k5 ko kO f1 f2 kp
  have htk2:=fun H=>hT a2 H he2
  rw [zEi] at htk2
  have hc:=fun H h=>hC3 b s a2 w ee dd H h hee he2 hl
  have hB' : pB s (tkE (skip s a2) (tok s a2) : Nat) w ee (IntKind.wrap .i64 (dd - 1)) = RB:=hB.symm
  rw [hB'] at hc
  exact call_tbad K b n4 n5 n6 n9 s (d + 1) t m ks v _ H0 H2 fr2 g1 (kp.old kO g9 f1) (kp.owns ko kb k9) tO (kp.1 _ _ k4 tO d49) (kp.1 _ _ k5 tO d59) _ _ _ _ (kp.1 _ _ k6 tO d69) f2 tO tO tO g9 tO tO tO a2 _ _ _ _ htk2 w ee dd hee rfl f1 RB hc
   (fun fr' H' v' g1 g2 g3 g4=>hret m fr' H' v' hv g1 g2 g3 g4)
 have hD30 : (d + 1 : Nat) = d + 1:=rfl
 have hRr:=fun H=>hR (tkT (tok s a)) H htl
 have lo : zDj s a = none → (∀ (fr' : Fr) (H' : Heap) (n9 : Nat) (m : Nd) (B : ABlk),(∀ H,H[b]? = some (rP s a (d + 1)) → C zW [pR b,.int .i64 1] H (ndV m) (H.set b B)) → (∀ fr2 H2,zZ fr2 [6,0,4,5,9] = [(6,pR n6),(0,pR b),(4,pR n4),(5,pR n5),(9,pR n9)] → H2[b]? = some B → H2[n9]? = some (.box (ndC m)) → Kp H' H2 b n9 → EW C GT caT K fr2 H2) → True) → True:=fun _ _=>trivial
 have outs : zDj s a = none → ∃ (m : Nd) (B : ABlk),(∀ H,H[b]? = some (rP s a (d + 1)) → C zW [pR b,.int .i64 1] H (ndV m) (H.set b B)) ∧
   (∀ (fr2 : Fr) (H' H2 : Heap) (n9 : Nat),zZ fr2 [6,0,4,5,9] = [(6,pR n6),(0,pR b),(4,pR n4),(5,pR n5),(9,pR n9)] → H0.length ≤ n9 → n4 ≠ n9 → n5 ≠ n9 → n6 ≠ n9 → H'[n9]? = some (.box (ndC zY)) → H'[n6]? = some (.box [zJ (tkK (tok s a)),zJ (skip s a),zJ (tkE (skip s a) (tok s a)),.str (tkT (tok s a))]) → H'[b]? = some (rP s a (d + 1)) → H'[n4]? = some (.box (ndC zY)) → H'[n5]? = some (.box (zAH t v)) → Owns H0 H' v 12 (ks.map ndV) → OldB H0 b (rP s a (d + 1)) H' →
    H2[b]? = some B → H2[n9]? = some (.box (ndC m)) → Kp H' H2 b n9 → EW C GT caT K fr2 H2):=by
  intro hbn
  cases hlr : (P s).loose 1 a (d + 1) with
  | some x=>
   obtain ⟨m,e2⟩:=x
   have hx:=(zBx s).loose 1 a (d + 1) _ hal hlr
   simp only at hx
   have hps : zEF s (P s) a (d + 1) = some (m,e2):=by unfold zEF; rw [hbn]; exact hlr
   exact ⟨m,rP s e2 (d + 1),(hLo a hea hal).1 m e2 hlr,fun fr2 H' H2 n9=>fin m e2 fr2 H' H2 n9 hx.1 hx.2 (hAR.ok hal hps)⟩
  | none=>
   obtain ⟨nw,W,hW,hlo,hv,hB⟩:=hAR.lw hal hbn hlr
   exact ⟨nw,W.blk s,hlo,fun fr2 H' H2 n9=>fbad nw W.a W.w W.e W.d fr2 H' H2 n9 hW.1 hW.2 hv hB⟩
 clear lo
 by_cases hbx : ∃ e1 w1 r1,tok s a = .word e1 w1 ∧ zCa w1 = some r1 ∧ s[e1]? = some 58
 ·obtain ⟨e1,w1,r1,ht,hr1,h58⟩:=hbx
  have he1:=(zg h58).1
  have hbi:=box_in ht hr1 h58
  have hal2 : e1 + 1 ≤ s.length:=by omega
  have htk2:=fun H=>hT (e1 + 1) H hal2
  rw [zEi] at htk2
  have hel2:=zHV hal2
  have hends:=zBb s (e1 + 1)
  have hend1:=zBb s a
  rw [ht] at hend1
  have hend1 : a < e1 ∧ e1 ≤ s.length:=hend1
  have hRr2:=fun H=>hR (tkT (tok s (e1 + 1))) H (tkT_len hal2 hl)
  have hsk2:=zEC s (e1 + 1)
  have hem : e1 < tkE (skip s (e1 + 1)) (tok s (e1 + 1)):=by
   cases hk : tok s (e1 + 1) <;> rw [hk] at hends <;> simp only [tkE,Tok.endsBy] at hends ⊢ <;> omega
  have hff:=fun H (h : H[b]? = some (rP s a (d + 1)))=>hF b s a (d + 1 : Nat) (e1 + 1 : Nat) 2 H h
  rw [ht] at hRr
  have hRr : ∀ H,C zj [.str w1] H (refRV (zCa w1)) H:=hRr
  rw [hr1] at hRr
  refine p1 [zK r1.col,zK r1.row,.bool r1.fc,.bool r1.fr] true ⟨_,_,_,_,rfl⟩ rfl (fun H=>by rw [ht]; exact hRr H) (fun fr' H' n7 n9 g1 g2 g3 k7 k9 k6 kb k4 k5 ko kO=>?_)
  have k6' : H'[n6]? = some (.box [zJ 1,zJ (skip s a),zJ e1,.str w1]):=by rw [k6,ht]; rfl
  have q9 : H0.length ≤ n9:=by omega
  by_cases hq : skip s (e1 + 1) = e1 + 1
  ·by_cases hk1 : tkK (tok s (e1 + 1)) = 1
   ·cases hx2 : zCa (tkT (tok s (e1 + 1))) with
    | some r2=>
     rw [hx2] at hRr2
     have hps : zEF s (P s) a (d + 1) = some (boxN r1 r2,tkE (skip s (e1 + 1)) (tok s (e1 + 1))):=by unfold zEF; rw [hbi,if_pos ⟨hq,hk1⟩,hx2]; rfl
     have hAN:=hAR.ok hal hps
     exact call_xok caT K b n4 n5 n6 n7 n9 true s a (d + 1) 1 _ e1 w1 H' fr' g1 kb k6' k9 tO tO tO hend1.2 hl r1 r2 k7 tO tO _ _ _ _ htk2 hRr2 hq hk1 rfl rfl h58 _ rfl _ rfl
      (fun fr2 H2 z1 z2 z3 z4=>fin _ _ fr2 H' H2 n9 tO hel2 hAN z1 q9 tO tO tO k9 k6 kb k4 k5 ko kO z2 z3 z4)
    | none=>
     rw [hx2] at hRr2
     have hbn : zDj s a = some none:=by rw [hbi,if_pos ⟨hq,hk1⟩,hx2]; rfl
     obtain ⟨hv,hB⟩:=hAR.bx hal hbn ht hr1
     rw [hx2] at hv
     exact call_xfc caT K b n4 n5 n6 n7 n9 true s a (d + 1) 1 _ e1 w1 H' fr' g1 kb k6' k9 tO tO tO hend1.2 hl r1 noRef k7 tO tO _ _ _ _ htk2 hRr2 hq hk1 hff rfl rfl h58 _ rfl _ rfl
      (fun fr2 H2 z1 z2 z3 z4=>fbad _ _ _ 2 _ fr2 H' H2 n9 (by decide) hel2 hv hB z1 q9 tO tO tO k9 k6 kb k4 k5 ko kO z2 z3 z4)
   ·have hbn : zDj s a = some none:=by rw [hbi,if_neg (fun x=>hk1 x.2)]
    obtain ⟨hv,hB⟩:=hAR.bx hal hbn ht hr1
    have hrr : ∀ H,C zj [.str (tkT (tok s (e1 + 1)))] H (.tup [.agg [zK ((zCa (tkT (tok s (e1 + 1)))).getD noRef).col,zK ((zCa (tkT (tok s (e1 + 1)))).getD noRef).row,.bool ((zCa (tkT (tok s (e1 + 1)))).getD noRef).fc,.bool ((zCa (tkT (tok s (e1 + 1)))).getD noRef).fr],.bool (zCa (tkT (tok s (e1 + 1)))).isSome]) H:=fun H=>by
     have:=hRr2 H
     cases hx2 : zCa (tkT (tok s (e1 + 1))) with
     | some r2=>rw [hx2] at this; exact this
     | none=>rw [hx2] at this; exact this
    exact call_xfb caT K b n4 n5 n6 n7 n9 true s a (d + 1) 1 _ e1 w1 H' fr' g1 kb k6' k9 tO tO tO hend1.2 hl r1 _ k7 tO tO _ _ _ _ htk2 _ hrr hq hk1 hff rfl rfl h58 _ rfl _ rfl
     (fun fr2 H2 z1 z2 z3 z4=>fbad _ _ _ 2 _ fr2 H' H2 n9 (by decide) hel2 hv hB z1 q9 tO tO tO k9 k6 kb k4 k5 ko kO z2 z3 z4)
  ·have hbn : zDj s a = some none:=by rw [hbi,if_neg (fun x=>hq x.1)]
   obtain ⟨hv,hB⟩:=hAR.bx hal hbn ht hr1
   have hrr : ∀ H,C zj [.str (tkT (tok s (e1 + 1)))] H (.tup [.agg [zK ((zCa (tkT (tok s (e1 + 1)))).getD noRef).col,zK ((zCa (tkT (tok s (e1 + 1)))).getD noRef).row,.bool ((zCa (tkT (tok s (e1 + 1)))).getD noRef).fc,.bool ((zCa (tkT (tok s (e1 + 1)))).getD noRef).fr],.bool (zCa (tkT (tok s (e1 + 1)))).isSome]) H:=fun H=>by
    have:=hRr2 H
    cases hx2 : zCa (tkT (tok s (e1 + 1))) with
    | some r2=>rw [hx2] at this; exact this
    | none=>rw [hx2] at this; exact this
   exact call_xfa caT K b n4 n5 n6 n7 n9 true s a (d + 1) 1 _ e1 w1 H' fr' g1 kb k6' k9 tO tO tO hend1.2 hl r1 _ k7 tO tO _ _ _ _ htk2 _ hrr hq hff rfl rfl h58 _ rfl _ rfl
    (fun fr2 H2 z1 z2 z3 z4=>fbad _ _ _ 2 _ fr2 H' H2 n9 (by decide) hel2 hv hB z1 q9 tO tO tO k9 k6 kb k4 k5 ko kO z2 z3 z4)
 ·obtain ⟨m,B,hlo,hfin⟩:=outs (box_out hbx)
  cases hx : zCa (tkT (tok s a)) with
  | none=>
   rw [hx] at hRr
   refine p1 [.int .i64 0,.int .i64 0,.bool false,.bool false] false ⟨_,_,_,_,rfl⟩ rfl hRr (fun fr' H' n7 n9 g1 g2 g3 k7 k9 k6 kb k4 k5 ko kO=>?_)
   have q9 : H0.length ≤ n9:=by omega
   by_cases hk1 : tkK (tok s a) = 1
   ·exact call_nb caT K b n4 n5 n6 n7 n9 false s a (d + 1) _ _ _ _ H' fr' g1 kb k6 k9 tO tO tO hel hl m B hlo hk1 rfl
     (fun fr2 H2 z1 z2 z3 z4=>hfin fr2 H' H2 n9 z1 q9 tO tO tO k9 k6 kb k4 k5 ko kO z2 z3 z4)
   ·exact call_na caT K b n4 n5 n6 n7 n9 false s a (d + 1) _ _ _ _ H' fr' g1 kb k6 k9 tO tO tO hel hl m B hlo hk1
     (fun fr2 H2 z1 z2 z3 z4=>hfin fr2 H' H2 n9 z1 q9 tO tO tO k9 k6 kb k4 k5 ko kO z2 z3 z4)
  | some r1=>
   rw [hx] at hRr
   refine p1 [zK r1.col,zK r1.row,.bool r1.fc,.bool r1.fr] true ⟨_,_,_,_,rfl⟩ rfl hRr (fun fr' H' n7 n9 g1 g2 g3 k7 k9 k6 kb k4 k5 ko kO=>?_)
   have q9 : H0.length ≤ n9:=by omega
   by_cases hk1 : tkK (tok s a) = 1
   ·by_cases hle : s.length ≤ tkE (skip s a) (tok s a)
    ·exact call_nc caT K b n4 n5 n6 n7 n9 true s a (d + 1) _ _ _ _ H' fr' g1 kb k6 k9 tO tO tO hel hl m B hlo hk1 rfl hle
      (fun fr2 H2 z1 z2 z3 z4=>hfin fr2 H' H2 n9 z1 q9 tO tO tO k9 k6 kb k4 k5 ko kO z2 z3 z4)
    ·obtain ⟨c,hc⟩ : ∃ c,s[tkE (skip s a) (tok s a)]? = some c:=⟨_,List.getElem?_eq_getElem tO⟩
     have hc58 : c.toNat ≠ 58:=fun h=>by
      have h58 : c = 58:=UInt8.toNat_inj.1 h
      subst h58
      cases hk : tok s a <;> rw [hk] at hk1 hc hx <;> simp only [tkK,tkE,tkT] at hk1 hc hx
      all_goals first | omega | exact hbx ⟨_,_,_,hk,hx,hc⟩
     exact call_nd caT K b n4 n5 n6 n7 n9 true s a (d + 1) _ _ _ _ H' fr' g1 kb k6 k9 tO tO tO hel hl m B hlo hk1 rfl c hc hc58
      (fun fr2 H2 z1 z2 z3 z4=>hfin fr2 H' H2 n9 z1 q9 tO tO tO k9 k6 kb k4 k5 ko kO z2 z3 z4)
   ·exact call_na caT K b n4 n5 n6 n7 n9 true s a (d + 1) _ _ _ _ H' fr' g1 kb k6 k9 tO tO tO hel hl m B hlo hk1
     (fun fr2 H2 z1 z2 z3 z4=>hfin fr2 H' H2 n9 z1 q9 tO tO tO k9 k6 kb k4 k5 ko kO z2 z3 z4)
end
end Go.AM
set_option maxRecDepth 20000
namespace Go.AM
theorem AF'.shape {C : CSpec} {b : Nat} {s : Bs} {d : Nat} {ks : List Nd} {a : Nat} {L : List Nd} {RB : ABlk} (h : AF' C b s d ks a L RB) : a ≤ s.length → ∃ (a' : Nat) (w e d' : Int),e ≠ 0 ∧ a' ≤ s.length ∧ RB = pB s a' w e d':=by
 induction h with
 | box ks a e1 w1 r1 ht hr h58 hn=>
  intro ha
  have h1 : e1 < s.length:=(zg h58).1
  exact ⟨_,_,2,_,by decide,zHV (zHV tO),rfl⟩
 | lo ks a nw W hn hl hW h=>intro ha; exact ⟨_,_,_,_,hW.1,zHV hW.2,rfl⟩
 | close ks a m e2 h h44 h41=>
  intro ha
  have hx:=zG1 (zBx s) a (d + 1) _ ha h
  exact ⟨_,_,2,_,by decide,zHV hx.2,rfl⟩
 | later ks a m e2 e3 L RB h h44 k ih=>
  intro ha
  have ht:=zBb s e2
  rw [h44] at ht
  simp only [Tok.endsBy] at ht
  exact ih tO
section
variable {C : CSpec} {GT : Nat → Option AV}
theorem rcall_ef (hT : ∀ s a H,a ≤ s.length → s.length ≤ 1000 → C zV [.str s,zJ a] H (tkV s a) H)
  (hR : ∀ s H,s.length ≤ 200 → C zj [.str s] H (refRV (zCa s)) H)
  (hF : ∀ b s p d a e H,H[b]? = some (pB s p 0 0 d) → C zd [pR b,zK a,zK e] H (.tup []) (H.set b (pB s p a e d)))
  (hC1 : ∀ b s p d e H,H[b]? = some (rP s p (d + 1)) → p ≤ s.length → s.length ≤ 200 → d ≤ 1000 → tok s p = .sign e [41] → C zb [pR b] H (.tup []) (H.set b (rP s e d)))
  (hC2 : ∀ b s p d H,H[b]? = some (rP s p (d + 1)) → p ≤ s.length → s.length ≤ 200 → d ≤ 1000 → (¬ ∃ e,tok s p = .sign e [41]) → C zb [pR b] H (.tup []) (H.set b (pB s (tkE (skip s p) (tok s p) : Nat) (skip s p : Nat) 2 d)))
  (hC3 : ∀ b s (p : Nat) w e d H,H[b]? = some (pB s p w e d) → e ≠ 0 → p ≤ s.length → s.length ≤ 200 → C zb [pR b] H (.tup []) (H.set b (pB s (tkE (skip s p) (tok s p) : Nat) w e (IntKind.wrap .i64 (d - 1)))))
  (b : Nat) (s t : Bs) (e d : Nat) (h40 : s[e]? = some 40) (hl : s.length ≤ 200) (hd : d ≤ 1000)
  (hLo : ∀ a,e < a → a ≤ s.length → CF C zW [pR b,.int .i64 1] b s a (d + 1) ((P s).loose 1 a (d + 1))) :
  (∀ n e2,zGQ s t e (d + 1) = some (n,e2) → ∀ H,H[b]? = some (rP s e (d + 1)) → zBt C GT zA3 [pR b,.str t] H b [] .undef (some (ndV n,rP s e2 d))) ∧
  (zGQ s t e (d + 1) = none → ∃ (n : Nd) (a : Nat) (w e' d' : Int),e' ≠ 0 ∧ a ≤ s.length ∧ ∀ H,H[b]? = some (rP s e (d + 1)) → zBt C GT zA3 [pR b,.str t] H b [] .undef (some (ndV n,pB s a w e' d'))):=by
 have he : e < s.length:=(zg h40).1
 have htk:=fun H=>hT s (e + 1) H tO tO
 have main : (¬ ∃ e2,tok s (e + 1) = .sign e2 [41]) → ∀ (RV : AV) (RB : ABlk),(∀ k,zE2 k RB = true) → AR C b s d t [] (e + 1) RV RB → ∀ H,H[b]? = some (rP s e (d + 1)) → zBt C GT zA3 [pR b,.str t] H b [] .undef (some (RV,RB)):=by
  intro hno RV RB hRB hAR H hb
  have htk:=htk
  rw [zEi] at htk
  refine z7 ?_; refine call_s1 caE _ b s t e (d + 1) _ _ _ _ H hb tO (by exact_mod_cast htk) (fun fr' H' n4 n5 n6 e4 e5 e6 hfr hob hb1 h4 h5 h6=>?_)
  refine call_s2 (.seq (.block 0 [4,5] (.loop [6,0,4,5] zA9)) caE.rest.rest) _ b n4 n5 n6 _ _ _ _ H' fr' hfr h6 (fun hx=>?_) (fun fr2 hfr2=>?_)
  ·cases hk : tok s (e + 1) <;> rw [hk] at hx <;> simp only [tkK,tkT] at hx
   all_goals first | omega | (obtain ⟨_,rfl⟩:=hx; exact hno ⟨_,hk⟩)
  ·exact rcall_loop hT hR hF hC1 hC2 hC3 _ b s t d e (e + 1) n4 n5 n6 _ [] H H' fr2 hfr2 hl hd e4 e5 e6 hob hb1 h4 h5 ⟨_,_,_,_,h6⟩ (.inl ⟨rfl,rfl⟩) tO tO (by simp) hLo RV RB hRB hAR
 by_cases h41 : ∃ e2,tok s (e + 1) = .sign e2 [41]
 ·obtain ⟨e2,h41⟩:=h41
  have hcs : zGQ s t e (d + 1) = some (zEE t [],e2):=by unfold zGQ; simp only [h41]
  rw [hcs]
  refine ⟨fun n e3 h H hb=>?_,fun h=>by cases h⟩
  cases h
  have htk:=htk
  rw [zEi,h41] at htk
  refine z7 ?_; refine call_s1 caE _ b s t e (d + 1) _ _ _ _ H hb tO (by exact_mod_cast htk) (fun fr' H' n4 n5 n6 e4 e5 e6 hfr hob hb1 h4 h5 h6=>?_)
  refine call_s3 caE.rest _ b n4 n5 n6 _ _ _ t _ (rP s (e + 1) (d + 1)) (rP s e2 d) H H' fr' hfr h6 rfl rfl hob hb1 h4 h5 tO tO tO (fun H h=>hC1 b s (e + 1) d e2 H h tO hl hd h41) (fun fr2 H2 g1 g2 g3=>?_)
  obtain ⟨H2',hz,hob2⟩:=zIj (H0:=H) (xs:=[]) t (.inl ⟨rfl,rfl⟩) rfl g3
  exact zy (o:=0) (.agg (zAH t (.lst (some true) 0 []))) rfl rfl rfl (by rw [g1]; exact zL g2) rfl hz (zGt _ _ []) hob2 rfl
 ·have hcs : zGQ s t e (d + 1) = (P s).args t [] (e + 1) (d + 1):=by
   unfold zGQ
   split
   ·rename_i e2 hk; exact absurd ⟨e2,hk⟩ h41
   ·rfl
  rw [hcs]
  refine ⟨fun n e2 h H hb=>main h41 _ _ (fun _=>rfl) (.inl ⟨n,e2,h,rfl,rfl⟩) H hb,fun h=>?_⟩
  obtain ⟨L,RB,hL⟩:=args_fail (C:=C) (t:=t) e hLo (s.length - (e + 1)) [] (e + 1) tO tO (Nat.le_refl _) h
  obtain ⟨a',w,ee,d',g1,g2,g3⟩:=hL.shape tO
  exact ⟨zEE t L,a',w,ee,d',g1,g2,fun H hb=>by rw [← g3]; exact main h41 _ _ (by rw [g3]; exact fun _=>rfl) (.inr ⟨L,hL,rfl⟩) H hb⟩
end
end Go.AM
set_option maxRecDepth 20000
namespace Go.AM
section
variable {C : CSpec} {GT : Nat → Option AV}
theorem rloose_bad (b : Nat) (s : Bs) (p d l : Nat) (n0 : Nd) (W : Bd) (hW : W.ok s) (H : Heap) (hb : H[b]? = some (rP s p d)) (ho : ∀ H,H[b]? = some (rP s p d) → C zAB [pR b] H (ndV n0) (H.set b (W.blk s))) :
  zBt C GT zBN [pR b,zJ l] H b [] .undef (some (ndV zY,W.blk s)):=by
 have hbl : b < H.length:=(zg hb).1
 have hwe:=hW.1
 refine z7 ?_; refine zm (ho _ hP) (fun h=>by cases h) ?_; refine zF (v:=ndV n0) (AV.cells (ndV n0)) zC rfl rfl rfl rfl ?_; refine zBu (fun m : Nat=>[(4,pR H.length),(5,pR m),(0,pR b),(1,zJ l)])
  (fun _ H'=>OldB H b (W.blk s) H' ∧ H'[b]? = some (W.blk s) ∧ H'[H.length]? = some (.box (ndC zY)))
  (fun _=>0) _ rfl ⟨((((((OldB.start hb).push _).setB _).push _).set (by simp) _)),hP,hP⟩ (fun _ H1 ⟨hob,hb1,h4⟩=>?_)
 have h4l:=(zg h4).1
 have hb1' : H1[b]? = some (.box [.str s,zK W.a,zK W.w,zK W.e,zK W.d]):=hb1
 refine zB (zK W.e) hb1' rfl ?_; refine zN (tN hwe) ?_; refine zU (v:=[.int .i64 0,.int .i64 0,AV.str [],.int .i64 0,.int .i64 0,AV.bool false,AV.bool false,.int .i64 0,.int .i64 0,AV.bool false,AV.bool false,AV.lst (some true) 0 []]) rfl ?_; refine zF (v:=AV.agg [.int .i64 0,.int .i64 0,AV.str [],.int .i64 0,.int .i64 0,AV.bool false,AV.bool false,.int .i64 0,.int .i64 0,AV.bool false,AV.bool false,AV.lst (some true) 0 []]) (AV.cells (AV.agg [.int .i64 0,.int .i64 0,AV.str [],.int .i64 0,.int .i64 0,AV.bool false,AV.bool false,.int .i64 0,.int .i64 0,AV.bool false,AV.bool false,AV.lst (some true) 0 []])) h4 rfl rfl rfl rfl ?_
 exact zy (o:=0) (ndV zY) rfl rfl rfl (zL hP) rfl rfl rfl (by repeat' (first | assumption | exact ⟨_,hob⟩ | apply zAI | apply zAJ | refine zAZ ?_ tC _ | apply OldB.push | apply OldB.setE | refine OldB.set ?_ tC _)) rfl
theorem rloose_ef (hT : ∀ s a H,a ≤ s.length → s.length ≤ 1000 → C zV [.str s,zJ a] H (tkV s a) H)
  (hSg : ∀ t H,C zBz [.str t] H (zJ (zA4 t)) H) (hTi : ∀ op H,op ≤ 1000 → C zA7 [zJ op] H (zJ (tight op)) H)
  (b : Nat) (s : Bs) (p d l : Nat) (hp : p ≤ s.length) (hl : s.length ≤ 200)
  (hLo : ∀ a l',p < a → a ≤ s.length → CF C zW [pR b,zJ l'] b s a d ((P s).loose l' a d))
  (hOne : CF C zAB [pR b] b s p d ((P s).one p d)) : EF C GT zBN [pR b,zJ l] b s p d ((P s).loose l p d):=by
 rw [zHn l d hp]
 unfold zDk
 cases h1 : (P s).one p d with
 | none=>
  obtain ⟨n,a,w,e,d',h2,h3,h4⟩:=hOne.2 h1
  exact ⟨fun n e h=>(by cases h),fun _=>⟨zY,a,w,e,d',h2,h3,fun H hb=>rloose_bad b s p d l n ⟨a,w,e,d'⟩ ⟨h2,h3⟩ H hb h4⟩⟩
 | some x=>
  obtain ⟨n0,e0⟩:=x
  have hx:=(zBx s).one p d _ hp h1
  simp only at hx
  have ho:=hOne.1 n0 e0 h1
  have go:=fun RV RB h2 h3 h4 H hb=>rloose_ev (GT:=GT) hT hSg hTi b s p d l hp hl (fun a l' m e h1 h2 h3=>(hLo a l' h1 h2).1 m e h3) n0 e0 hx.1 hx.2 RV RB h2 h3 h4 H hb ho
  simp only [Option.bind_some]
  cases h2 : (P s).ll l n0 e0 d with
  | some y=>
   obtain ⟨n',e'⟩:=y
   refine ⟨fun n e h H hb=>?_,fun h=>by cases h⟩
   cases h
   exact go _ _ (fun _=>rfl) ⟨n',rfl⟩ (.inl ⟨n',e',h2,rfl,rfl⟩) H hb
  | none=>
   obtain ⟨W,hW⟩:=ll_fail (C:=C) p hLo (s.length - e0) n0 e0 hx.1 hx.2 (Nat.le_refl _) h2
   exact ⟨fun n e h=>(by cases h),fun _=>⟨zY,W.a,W.w,W.e,W.d,hW.ok.1,hW.ok.2,fun H hb=>go _ _ (fun _=>rfl) ⟨zY,rfl⟩ (.inr ⟨W,hW,rfl,rfl⟩) H hb⟩⟩
end
structure RefK (PR : Program) : Prop where
 hm : PR.follows .mixedOrders = true
 wordly : zAC PR zBF zCj = true
 wrongs : zAC PR zAv zDg = true
 bad : zAC PR zC6 zFm = true
 named : zAC PR zBf zD6 = true
 token : zAC PR zV zD4 = true
 called : zAC PR zh zDh = true
 whole : zAC PR zT zCL = true
 ref : zAC PR zj zFi = true
 sign : zAC PR zBz zEq = true
 tight : zAC PR zA7 zD5 = true
 fail : zAC PR zd zDP = true
 deeper : zAC PR ze zCp = true
 close : zAC PR zb zBP = true
 one : zAC PR zAB zQ = true
 call : zAC PR zBe zA3 = true
 loose : zAC PR zW zBN = true
structure BigG (PR : Program) (GT : Nat → Option AV) : Prop where
 new : ∀ v H,zCz v → Good PR GT zAU [zK v] H (.ref H.length 0 0 0) (H ++ [.box (zFZ v)])
 mul : ∀ b t v av H,H[b]? = some (.box [.bool false,av]) → H[t]? = some (.box (zFZ 10)) → Mag av v → (wds v).length ≤ 1000 → Good PR GT zAc [.ref b 0 0 0,.ref b 0 0 0,.ref t 0 0 0] H (.ref b 0 0 0) (H.set b (.box [.bool false,mulV v]))
 add : ∀ (b t v d : Nat) (av : AV) (H : Heap),H[b]? = some (.box [.bool false,av]) → H[t]? = some (.box (zFZ d)) → Mag av v → (wds v).length ≤ 1000 → (wds d).length ≤ 1000 → Good PR GT zAd [.ref b 0 0 0,.ref b 0 0 0,.ref t 0 0 0] H (.ref b 0 0 0) (H.set b (.box (zFZ ((v + d : Nat) : Int))))
 fit : ∀ b v H,H[b]? = some (.box (zFZ v)) → (wds v.natAbs).length ≤ 100 → Good PR GT zCb [.ref b 0 0 0] H (.bool (decide (zCz v))) H
 i64 : ∀ b v H,H[b]? = some (.box (zFZ v)) → zCz v → Good PR GT zAQ [.ref b 0 0 0] H (zK v) H
section
variable {PR : Program} {GT : Nat → Option AV}
theorem cf_of (hm : PR.follows .mixedOrders = true) {f : Nat} {F : AF} {args : List AV} {b : Nat} {s : Bs} {p d : Nat} {r : Option (Nd × Nat)} (hc : zAC PR f F = true) (h : EF (Good PR GT) GT F args b s p d r) (hn : zHa args = true:=by rfl) : CF (Good PR GT) f args b s p d r:=
 ⟨fun n e hr H hb=>(zAT hm hc (h.1 n e hr H hb) hn).1 _ _ rfl,fun hr=>by
  obtain ⟨n,a,w,e,d',h1,h2,h3⟩:=h.2 hr
  exact ⟨n,a,w,e,d',h1,h2,fun H hb=>(zAT hm hc (h3 H hb) hn).1 _ _ rfl⟩⟩
theorem q_wordly (k : RefK PR) (c : UInt8) (H : Heap) : Good PR GT zBF [byV c] H (.bool (zu c)) H:=zO k.hm k.wordly (rwordly_ev c H)
theorem q_wrongs (k : RefK PR) (H : Heap) : Good PR GT zAv [] H (.lst (some false) 1 (wrL.map AV.str)) H:=zO k.hm k.wrongs (rwrongs_ev H)
theorem q_bad (k : RefK PR) (n : Nat) (H : Heap) : Good PR GT zC6 [zJ n] H (.agg [.int .i64 4,zJ n,.str []]) H:=zO k.hm k.bad (rbad_ev n H)
theorem q_named (k : RefK PR) (n : Nat) (H : Heap) (h1 : 1 ≤ n) (h6 : n ≤ 6) : Good PR GT zBf [.str (wrongs.getD (n - 1) [])] H (.tup [.agg [.int .i64 4,zJ n,.str []],.bool true]) H:=zO k.hm k.named (rnamed_ev (q_wrongs k) (q_bad k) n h1 h6 H)
theorem zF3 (k : RefK PR) (s : Bs) (a : Nat) (H : Heap) (ha : a ≤ s.length) (hl : s.length ≤ 1000) : Good PR GT zV [.str s,zJ a] H (tkV s a) H:=zO k.hm k.token (rtoken_ev (q_wordly k) (q_wrongs k) s a H ha hl)
theorem q_called (k : RefK PR) (s : Bs) (H : Heap) (hl : s.length ≤ 1000) : Good PR GT zh [.str s] H (.bool (zBD s)) H:=zO k.hm k.called (rcalled_ev s H hl)
theorem q_whole (k : RefK PR) (g : BigG PR GT) (s : Bs) (H : Heap) (hl : s.length ≤ 200) : Good PR GT zT [.str s,.bool false] H (zJL (zAx s)) H:=zO k.hm k.whole (rwhole_ev g.new g.mul g.add g.fit g.i64 s H hl)
theorem q_ref (k : RefK PR) (g : BigG PR GT) (s : Bs) (H : Heap) (hl : s.length ≤ 200) : Good PR GT zj [.str s] H (refRV (zCa s)) H:=zO k.hm k.ref (rref_ev (q_whole k g) s H hl)
theorem q_sign (k : RefK PR) (t : Bs) (H : Heap) : Good PR GT zBz [.str t] H (zJ (zA4 t)) H:=zO k.hm k.sign (rsign_ev t H)
theorem q_tight (k : RefK PR) (op : Nat) (H : Heap) (h : op ≤ 1000) : Good PR GT zA7 [zJ op] H (zJ (tight op)) H:=zO k.hm k.tight (rtight_ev op H h)
theorem q_fail (k : RefK PR) (b : Nat) (s : Bs) (p d a e : Int) (H : Heap) (hb : H[b]? = some (pB s p 0 0 d)) : Good PR GT zd [pR b,zK a,zK e] H (.tup []) (H.set b (pB s p a e d)):=(zAT k.hm k.fail (rfail_ev b s p d a 0 e H hb .undef [])).1 _ _ rfl
theorem q_deeper (k : RefK PR) (b : Nat) (s : Bs) (p : Int) (d : Nat) (a : Int) (H : Heap) (hb : H[b]? = some (pB s p 0 0 d)) (hd : d ≤ 1000) :
  (d = 30 → Good PR GT ze [pR b,zK a] H (.bool false) (H.set b (pB s p a 4 d))) ∧ (d ≠ 30 → Good PR GT ze [pR b,zK a] H (.bool true) (H.set b (pB s p 0 0 (d + 1 : Nat)))):=
 have h:=zAT k.hm k.deeper (rdeeper_ev (GT:=GT) (q_fail k) b s p d a H hb hd .undef [])
 ⟨fun e=>h.1 _ _ (by rw [if_pos e]),fun e=>h.1 _ _ (by rw [if_neg e])⟩
theorem q_close1 (k : RefK PR) (b : Nat) (s : Bs) (p d e : Nat) (H : Heap) (hb : H[b]? = some (rP s p (d + 1))) (hp : p ≤ s.length) (hl : s.length ≤ 200) (hd : d ≤ 1000) (hk : tok s p = .sign e [41]) : Good PR GT zb [pR b] H (.tup []) (H.set b (rP s e d)):=(zAT k.hm k.close (rclose_ok (zF3 k) b s p d e H hb hp hl hd hk)).1 _ _ rfl
theorem q_close2 (k : RefK PR) (b : Nat) (s : Bs) (p d : Nat) (H : Heap) (hb : H[b]? = some (rP s p (d + 1))) (hp : p ≤ s.length) (hl : s.length ≤ 200) (hd : d ≤ 1000) (hk : ¬ ∃ e,tok s p = .sign e [41]) : Good PR GT zb [pR b] H (.tup []) (H.set b (pB s (tkE (skip s p) (tok s p) : Nat) (skip s p : Nat) 2 d)):=(zAT k.hm k.close (rclose_no (zF3 k) (q_fail k) b s p d H hb hp hl hd hk)).1 _ _ rfl
theorem q_close3 (k : RefK PR) (b : Nat) (s : Bs) (p : Nat) (w e d : Int) (H : Heap) (hb : H[b]? = some (pB s p w e d)) (he : e ≠ 0) (hp : p ≤ s.length) (hl : s.length ≤ 200) : Good PR GT zb [pR b] H (.tup []) (H.set b (pB s (tkE (skip s p) (tok s p) : Nat) w e (IntKind.wrap .i64 (d - 1)))):=(zAT k.hm k.close (rclose_bad (zF3 k) b s p w e d H hb he hp hl)).1 _ _ rfl
theorem q_all (k : RefK PR) (g : BigG PR GT) (b : Nat) (s : Bs) (hl : s.length ≤ 200) : ∀ n p,p ≤ s.length → s.length - p = n → ∀ d,d + (s.length - p) ≤ 500 →
  CF (Good PR GT) zAB [pR b] b s p d ((P s).one p d) ∧ ∀ l,CF (Good PR GT) zW [pR b,zJ l] b s p d ((P s).loose l p d):=by
 intro n
 induction n using Nat.strongRecOn with
 | _ n ih=>
  intro p hp hn d hd
  have ih':=fun p' (h1 : p < p') (h2 : p' ≤ s.length) d' h3=>ih (s.length - p') tO p' h2 rfl d' h3
  clear ih
  have one : CF (Good PR GT) zAB [pR b] b s p d ((P s).one p d):=by
   refine cf_of k.hm k.one (rone_ef (zF3 k) (q_called k) (q_whole k g) (q_ref k g) (fun n H=>q_named k n H) (q_fail k) (fun b s p d a H=>q_deeper k b s p d a H) (q_close1 k) (q_close2 k) (q_close3 k) b s p d hp hl tO (fun a h1 h2=>(ih' a h1 h2 (d + 1) tO).1) (fun a h1 h2=>(ih' a h1 h2 (d + 1) tO).2 1) (fun e t h40 h1 h2=>?_))
   have he:=(zg h40).1
   have h:=rcall_ef (GT:=GT) (zF3 k) (q_ref k g) (q_fail k) (q_close1 k) (q_close2 k) (q_close3 k) b s t e d h40 hl tO (fun a h1 h2=>(ih' a tO h2 (d + 1) tO).2 1)
   refine ⟨fun n e2 hr H hb=>(zAT k.hm k.call (h.1 n e2 hr H hb)).1 _ _ rfl,fun hr=>?_⟩
   obtain ⟨n,a,w,e',d',g1,g2,g3⟩:=h.2 hr
   exact ⟨n,a,w,e',d',g1,g2,fun H hb=>(zAT k.hm k.call (g3 H hb)).1 _ _ rfl⟩
  exact ⟨one,fun l=>cf_of k.hm k.loose (rloose_ef (zF3 k) (q_sign k) (q_tight k) b s p d l hp hl (fun a l' h1 h2=>(ih' a h1 h2 d tO).2 l') one)⟩
end
end Go.AM
set_option maxRecDepth 20000
namespace Go.AM
structure Fil where
 col : Int
 row : Int
 text : Bs
 deriving DecidableEq
def zBH (c r : Int) : AV:=.agg [zK c,zK r]
def zk (f : Fil) : AV:=.agg [zK f.col,zK f.row,.str f.text]
def okC (c r : Int) : Bool:=decide (1 ≤ c) && decide (c ≤ 26) && decide (1 ≤ r) && decide (r ≤ 99)
def cmp3 (a b : Int) : Int:=if a < b then -1 else if b < a then 1 else 0
def cmpC (c1 r1 c2 r2 : Int) : Int:=if cmp3 r1 r2 ≠ 0 then cmp3 r1 r2 else cmp3 c1 c2
def zE1 (a b : Fil) : Bool:=decide (cmpC a.col a.row b.col b.row < 0)
def zBE (s : Bs) : Nat:=if 200 < s.length then 4 else if s.head? = some 61 then (match zDn s with
 | some _=>0
 | none=>2) else 0
def eV (n : Nat) : AV:=if n = 0 then .nili else zF7 n
def filN (prev : Option Fil) (f : Fil) : Nat:=if okC f.col f.row = false then 1 else if (match prev with
 | some p=>zE1 p f
 | none=>true) = false then 5 else if f.text = [] then 3 else zBE f.text
def zHK (prev : Option Fil) : List Fil → Nat
 | []=>0
 | f :: r=>if filN prev f = 0 then zHK (some f) r else filN prev f
def zCW (l : List Fil) : Nat:=if 200 < l.length then 4 else zHK none l
theorem filsN_drop (l : List Fil) (i : Nat) (f : Fil) (h : l[i]? = some f) (prev : Option Fil) : zHK prev (l.drop i) = if filN prev f = 0 then zHK (some f) (l.drop (i + 1)) else filN prev f:=by
 have hi:=(zg h).1
 have e : l.drop i = f :: l.drop (i + 1):=by
  rw [List.drop_eq_getElem_cons hi]
  rw [(zg h).2]
 rw [e]; rfl
theorem sIdxW {v : AV} {H : Heap} {k : Nat} {xs : List AV} {n : Int} {K : AV → Prop} (i : Nat) (x : AV) (hv : view H k v = some xs) (hn : n = (i : Int)) (hx : xs[i]? = some x) (q1 : K (.lref x 0)) (q2 : ∀ b j,z6 H (.ref b k j 0) = some (x.cells,0) → K (.ref b k j 0)) : idxN k v n K:=by
 have hlt:=(zg hx).1
 unfold view at hv
 split at hv
 ·split at hv
  ·rename_i hk
   cases hv; subst hk
   exact sIdx hn hx q1
  ·split at hv
   ·cases hv; simp at hlt
   ·cases hv
 ·rw [zG0]; unfold idxNW
  simp only
  split at hv
  ·rename_i hk
   subst hk
   split at hv
   ·rename_i hb
    split at hv
    ·rename_i hc
     cases hv
     rw [List.length_take,List.length_drop] at hlt
     rw [List.getElem?_take,if_pos tO,List.getElem?_drop] at hx
     subst hn
     rw [hc.1] at hb
     refine zFc ⟨rfl,by omega,by omega⟩ (q2 _ _ (ptr_row hb hx))
    ·cases hv
   ·rename_i hb
    split at hv
    ·rename_i hc
     cases hv
     rw [List.length_take,List.length_drop] at hlt
     rw [List.getElem?_take,if_pos tO,List.getElem?_drop] at hx
     subst hn
     rw [hc.1] at hb
     refine zFc ⟨rfl,by omega,by omega⟩ (q2 _ _ ?_)
     show z6 H (.ref _ _ _ _) = _
     simp only [z6,hb,if_true,Int.toNat_natCast,hx,Option.map_some]
    ·cases hv
   ·cases hv
  ·cases hv
 ·cases hv
section
variable {C : CSpec} {GT : Nat → Option AV}
theorem aok_ev (c r : Int) (H : Heap) : EFun C GT a_addr_ok [zBH c r] H (.bool (okC c r)) H:=by
 refine zf ?_
 unfold okC
 by_cases h1 : 1 ≤ c
 ·rw [decide_eq_true h1]
  by_cases h2 : c ≤ 26
  ·rw [decide_eq_true h2]
   by_cases h3 : 1 ≤ r
   ·rw [decide_eq_true h3]
    refine zDl (x:=zBH c r) rfl ?_; refine zB (zK c) zC rfl ?_; refine zP tT ?_; refine zB (zK c) zC rfl ?_; refine zH <| zP tT ?_; refine zB (zK r) zC rfl ?_; refine zH <| zP tT ?_; refine zB (zK r) zC rfl ?_; refine zH ?_
    exact zc rfl rfl rfl rfl ((Old.refl _).push _)
   ·rw [decide_eq_false h3]
    refine zDl (x:=zBH c r) rfl ?_; refine zB (zK c) zC rfl ?_; refine zP tT ?_; refine zB (zK c) zC rfl ?_; refine zH <| zP tT ?_; refine zB (zK r) zC rfl ?_; refine zH <| zN tF <| zG ?_
    exact zc rfl rfl rfl rfl ((Old.refl _).push _)
  ·rw [decide_eq_false h2]
   refine zDl (x:=zBH c r) rfl ?_; refine zB (zK c) zC rfl ?_; refine zP tT ?_; refine zB (zK c) zC rfl ?_; refine zH <| zN tF <| zG <| zG <| zG ?_
   exact zc rfl rfl rfl rfl ((Old.refl _).push _)
 ·rw [decide_eq_false h1]
  refine zDl (x:=zBH c r) rfl ?_; refine zB (zK c) zC rfl ?_; refine zN tF <| zG <| zG <| zG <| zG <| zG ?_
  exact zc rfl rfl rfl rfl ((Old.refl _).push _)
theorem acheck_ev (hO : ∀ c r H,C zID [zBH c r] H (.bool (okC c r)) H) (c r : Int) (H : Heap) : EFun C GT zJX [zBH c r] H (if okC c r = true then .nili else zF7 1) H:=by
 have ho:=hO c r
 clear hO
 refine zf ?_
 cases hk : okC c r with
 | true=>
  rw [hk] at ho
  refine zDl (x:=zBH c r) rfl ?_; refine zB (zBH c r) zC rfl ?_; refine zI (ho _) ?_; refine zG ?_
  exact zc rfl rfl rfl rfl ((Old.refl _).push _)
 | false=>
  rw [hk] at ho
  refine zDl (x:=zBH c r) rfl ?_; refine zB (zBH c r) zC rfl ?_; refine zI (ho _) ?_; refine zH ?_
  exact zc rfl rfl rfl rfl ((Old.refl _).push _)
theorem nan_ev (a : Int) (H : Heap) : EFun C GT zF6 [zK a] H (.bool false) H:=by
 refine zf ?_; refine sRetE ?_ rfl rfl rfl rfl (Old.refl _)
 show AV.bool false = AV.bool (a != a)
 simp
theorem ccmp_ev (hN : ∀ a H,C zBv [zK a] H (.bool false) H) (a b : Int) (H : Heap) : EFun C GT zEW [zK a,zK b] H (zK (cmp3 a b)) H:=by
 have hn:=hN
 clear hN
 refine zf ?_
 unfold cmp3
 by_cases h1 : a < b
 ·rw [if_pos h1]
  refine zI (hn _ _) ?_; refine zI (hn _ _) ?_; refine zG <| zG <| zP tT ?_
  exact zc rfl rfl rfl rfl (Old.refl _)
 ·rw [if_neg h1]
  by_cases h2 : b < a
  ·rw [if_pos h2]
   refine zI (hn _ _) ?_; refine zI (hn _ _) ?_; refine zG <| zG <| zN tF <| zP tT ?_
   exact zc rfl rfl rfl rfl (Old.refl _)
  ·rw [if_neg h2]
   refine zI (hn _ _) ?_; refine zI (hn _ _) ?_; refine zG <| zG <| zN tF <| zN tF ?_
   exact zc rfl rfl rfl rfl (Old.refl _)
theorem cor_ev (b : Nat) (x y : Int) (H : Heap) (hb : H[b]? = some (.row 1 [zK x,zK y])) : EFun C GT zIL [.sl (some false) b 1 0 2] H (zK (if x ≠ 0 then x else y)) H:=by
 refine zf ?_
 obtain ⟨r,hr⟩ : ∃ r,(if x ≠ 0 then x else y) = r:=⟨_,rfl⟩
 rw [hr]
 refine zKb ?_; refine zBu (fun i : Nat=>[(8,zJ i),(3,zK 0),(6,.sl (some false) b 1 0 2),(7,zJ 2)]) (fun i H'=>H' = H ∧ i ≤ 2 ∧ (1 ≤ i → x = 0) ∧ (2 ≤ i → y = 0)) (fun i=>2 - i) 0 rfl ⟨rfl,by omega,fun h=>by omega,fun h=>by omega⟩ (fun i H1 ⟨hH,hi,hx,hy⟩=>?_)
 subst hH
 dsimp only
 rcases (show i = 0 ∨ i = 1 ∨ i = 2 by omega) with rfl | rfl | rfl
 ·by_cases h0 : x = 0
  ·refine zP tT ?_; refine sAt ⟨by omega,by omega⟩ ?_; refine zC1 0 (zK x) (zK x) rfl hb rfl rfl ?_; refine zN (bne_eq_false_iff_eq.2 tO) ?_; refine zM (r:=1) rfl tO ?_; refine zAM 1 rfl ⟨rfl,by omega,fun _=>h0,fun h=>by omega⟩ tO
  ·rw [if_pos h0] at hr
   subst hr
   refine zP tT ?_; refine sAt ⟨by omega,by omega⟩ ?_; refine zC1 0 (zK x) (zK x) rfl hb rfl rfl ?_; refine zP (bne_iff_ne.2 tO) ?_
   exact zc rfl rfl rfl rfl (Old.refl _)
 ·have h0:=hx tO
  rw [if_neg (fun h=>h h0)] at hr
  subst hr
  by_cases h1 : y = 0
  ·refine zP tT ?_; refine sAt ⟨by omega,by omega⟩ ?_; refine zC1 1 (zK y) (zK y) rfl hb rfl rfl ?_; refine zN (bne_eq_false_iff_eq.2 tO) ?_; refine zM (r:=2) rfl tO ?_; refine zAM 2 rfl ⟨rfl,by omega,fun _=>h0,fun _=>h1⟩ tO
  ·refine zP tT ?_; refine sAt ⟨by omega,by omega⟩ ?_; refine zC1 1 (zK y) (zK y) rfl hb rfl rfl ?_; refine zP (bne_iff_ne.2 tO) ?_
   exact zc rfl rfl rfl rfl (Old.refl _)
 ·have h0:=hx tO
  have h1:=hy tO
  rw [if_neg (fun h=>h h0),h1] at hr
  subst hr
  refine zN tF ?_
  exact zc rfl rfl rfl rfl (Old.refl _)
theorem acomp_ev (hC : ∀ a b H,C zBK [zK a,zK b] H (zK (cmp3 a b)) H) (hO : ∀ b x y H,H[b]? = some (.row 1 [zK x,zK y]) → C zDr [.sl (some false) b 1 0 2] H (zK (if x ≠ 0 then x else y)) H) (c1 r1 c2 r2 : Int) (H : Heap) :
  EFun C GT zHR [zBH c1 r1,zBH c2 r2] H (zK (cmpC c1 r1 c2 r2)) H:=by
 have hc:=hC
 have ho:=fun b H h=>hO b (cmp3 r1 r2) (cmp3 c1 c2) H h
 clear hO hC
 refine zf ?_
 unfold cmpC
 refine zDl (x:=zBH c1 r1) rfl ?_; refine zDl (x:=zBH c2 r2) rfl ?_; refine zB (zK r1) (zD zC) rfl ?_; refine zB (zK r2) zC rfl ?_; refine zI (hc _ _ _) ?_; refine zB (zK c1) (zD zC) rfl ?_; refine zB (zK c2) zC rfl ?_; refine zI (hc _ _ _) ?_; refine zAi (vs':=[zK (cmp3 r1 r2),zK (cmp3 c1 c2)]) rfl rfl ?_; refine zI (ho _ _ hP) ?_
 exact zc rfl rfl rfl rfl ((((Old.refl _).push _).push _).push _)
theorem aless_ev (hC : ∀ c1 r1 c2 r2 H,C zDT [zBH c1 r1,zBH c2 r2] H (zK (cmpC c1 r1 c2 r2)) H) (a b : Fil) (H : Heap) : EFun C GT zKl [zBH a.col a.row,zBH b.col b.row] H (.bool (zE1 a b)) H:=by
 have hc:=hC a.col a.row b.col b.row
 clear hC
 refine zf ?_
 unfold zE1
 refine zDl (x:=zBH a.col a.row) rfl ?_; refine zDl (x:=zBH b.col b.row) rfl ?_; refine zB (zBH a.col a.row) (zD zC) rfl ?_; refine zB (zBH b.col b.row) zC rfl ?_; refine zI (hc _) ?_
 exact zc rfl rfl rfl rfl (((Old.refl _).push _).push _)
theorem gtext_ev (hCo : ∀ s H,C zAb [.str s] H (.bool (decide (s.head? ≠ some 61))) H) (hP : ∀ s H,C zAs [.str s] H (zF2 s) H) (s : Bs) (H : Heap) : EFun C GT zJW [.str s] H (eV (zBE s)) H:=by
 have hc:=hCo s
 have hp:=hP s
 clear hCo hP
 refine zf ?_
 unfold zBE
 by_cases hl : 200 < s.length
 ·rw [if_pos hl]
  refine zP tT ?_
  exact zc rfl rfl rfl rfl (Old.refl _)
 ·rw [if_neg hl]
  by_cases h : s.head? = some 61
  ·rw [if_pos h]
   rw [tF (fun x=>x h)] at hc
   unfold zF2 at hp
   cases hq : zDn s with
   | some n=>
    rw [hq] at hp
    have hp : ∀ H,C zAs [.str s] H (.tup [ndV n,.int .i64 0,.nili]) H:=hp
    refine zN tF ?_; refine zI (hc _) ?_; refine zH ?_; refine zI (hp _) ?_; refine zU rfl ?_; refine zU rfl ?_; refine zU rfl ?_; refine zF (v:=ndV n) (AV.cells (ndV n)) zC rfl rfl rfl rfl ?_; refine zU rfl ?_; refine zG ?_
    exact zc rfl rfl rfl rfl (((Old.refl _).push _).set tA _)
   | none=>
    rw [hq] at hp
    have hp : ∀ H,C zAs [.str s] H (.tup [ndV zY,.sca,.iface zS .undef]) H:=hp
    refine zN tF ?_; refine zI (hc _) ?_; refine zH ?_; refine zI (hp _) ?_; refine zU rfl ?_; refine zU rfl ?_; refine zU rfl ?_; refine zF (v:=ndV zY) (AV.cells (ndV zY)) zC rfl rfl rfl rfl ?_; refine zU rfl ?_; refine zH ?_
    exact zc rfl rfl rfl rfl (((Old.refl _).push _).set tA _)
  ·rw [if_neg h]
   rw [decide_eq_true h] at hc
   refine zN tF ?_; refine zI (hc _) ?_; refine zG ?_
   exact zc rfl rfl rfl rfl (Old.refl _)
theorem gcheck_ev (hA : ∀ c r H,C zDb [zBH c r] H (if okC c r = true then .nili else zF7 1) H) (hL : ∀ a b H,C zFe [zBH a.col a.row,zBH b.col b.row] H (.bool (zE1 a b)) H) (hT : ∀ s H,C zAr [.str s] H (eV (zBE s)) H)
  (lv : AV) (l : List Fil) (H : Heap) (hv : view H 3 lv = some (l.map zk)) : EFun C GT zIF [lv] H (eV (zCW l)) H:=by
 have hlm : (l.map zk).length = l.length:=List.length_map _
 refine zf ?_
 unfold zCW
 by_cases hl : 200 < l.length
 ·rw [if_pos hl]
  clear hA hL hT
  refine zBp hv ?_; refine zP tT ?_
  exact zc rfl rfl rfl rfl (Old.refl _)
 rw [if_neg hl]
 obtain ⟨r,hr⟩ : ∃ r,zHK none l = r:=⟨_,rfl⟩
 rw [hr]
 refine zBp hv ?_; refine zN tF ?_; refine zBp hv ?_; refine zBu (fun i : Nat=>[(12,zJ i),(0,lv),(10,lv),(11,.int .i64 ((l.map zk).length : Nat))]) (fun i H'=>Old H H' ∧ view H' 3 lv = some (l.map zk) ∧ i ≤ l.length ∧ zHK (if i = 0 then none else l[i - 1]?) (l.drop i) = r) (fun i=>l.length - i) 0 rfl ⟨Old.refl _,hv,by omega,hr⟩ (fun i H1 ⟨hH,hv1,hi,hq⟩=>?_)
 dsimp only
 by_cases hlt : i < l.length
 ·obtain ⟨f,hf⟩ : ∃ f,l[i]? = some f:=⟨_,List.getElem?_eq_getElem hlt⟩
  have hfm : (l.map zk)[i]? = some (zk f):=by rw [List.getElem?_map,hf]; rfl
  rw [filsN_drop l i f hf] at hq
  have hvo : view ((H1 ++ [ABlk.box [.int .i64 0,.int .i64 0,AV.str []]]).set (List.length H1) (ABlk.box (zk f).cells)) 3 lv = some (l.map zk):=view_old (((Old.refl H1).push _).set (Nat.le_refl _) _) hv1
  have ha:=hA f.col f.row
  have ht:=hT f.text
  have hH2 : ∀ X Y,Old H ((H1 ++ [X]).set H1.length Y):=fun X Y=>(hH.push _).set hH.1 _
  clear hA hT
  unfold filN at hq
  cases hok : okC f.col f.row with
  | false=>
   rw [hok] at ha hq
   have hq : 1 = r:=hq
   subst hq
   clear hL ht
   refine zP tT ?_; refine zCy i (zk f) hv1 rfl hfm (fun p hp=>?_)
   refine zw (zk f) hp rfl ?_; refine zF (v:=zk f) (AV.cells (zk f)) zC rfl rfl rfl rfl ?_; refine zB (AV.agg [zK f.col,zK f.row]) (zE zC) rfl ?_; refine zI (ha _) ?_; refine zU rfl ?_; refine zH ?_
   exact zc rfl rfl rfl rfl (hH2 _ _)
  | true=>
   rw [hok] at ha hq
   rw [if_neg (by simp : ¬ (true = false))] at hq
   have ha : ∀ H,C zDb [zBH f.col f.row] H .nili H:=ha
   by_cases hi0 : i = 0
   ·rw [if_pos hi0] at hq
    have hq : (if (if f.text = [] then 3 else zBE f.text) = 0 then zHK (some f) (l.drop (i + 1)) else if f.text = [] then 3 else zBE f.text) = r:=hq
    clear hL
    by_cases h0 : f.text = []
    ·rw [if_pos h0] at hq
     have hq : 3 = r:=hq
     subst hq
     clear ht
     refine zP tT ?_; refine zCy i (zk f) hv1 rfl hfm (fun p hp=>?_)
     refine zw (zk f) hp rfl ?_; refine zF (v:=zk f) (AV.cells (zk f)) zC rfl rfl rfl rfl ?_; refine zB (AV.agg [zK f.col,zK f.row]) (zE zC) rfl ?_; refine zI (ha _) ?_; refine zU rfl ?_; refine zG <| zN tF <| zG <| zG ?_; refine zB (AV.str f.text) (zE zC) rfl ?_; refine zP (tE h0) ?_
     exact zc rfl rfl rfl rfl (hH2 _ _)
    ·rw [if_neg h0] at hq
     by_cases hz : zBE f.text = 0
     ·rw [if_pos hz] at hq
      rw [hz] at ht
      have ht : ∀ H,C zAr [.str f.text] H .nili H:=ht
      refine zP tT ?_; refine zCy i (zk f) hv1 rfl hfm (fun p hp=>?_)
      refine zw (zk f) hp rfl ?_; refine zF (v:=zk f) (AV.cells (zk f)) zC rfl rfl rfl rfl ?_; refine zB (AV.agg [zK f.col,zK f.row]) (zE zC) rfl ?_; refine zI (ha _) ?_; refine zU rfl ?_; refine zG <| zN tF <| zG <| zG ?_; refine zB (AV.str f.text) (zE zC) rfl ?_; refine zN (tN h0) ?_; refine zB (AV.str f.text) (zE zC) rfl ?_; refine zI (ht _) ?_; refine zU rfl ?_; refine zG ?_; refine zM (r:=i + 1) rfl tO ?_
      refine zAM (i + 1) rfl ⟨hH2 _ _,hvo,by omega, ?_⟩ tO
      rw [if_neg tO,Nat.add_sub_cancel,hf]
      exact hq
     ·rw [if_neg hz] at hq
      subst hq
      have ht : ∀ H,C zAr [.str f.text] H (zF7 (zBE f.text)) H:=fun H=>by have:=ht H; rwa [eV,if_neg hz] at this
      rw [eV,if_neg hz]
      refine zP tT ?_; refine zCy i (zk f) hv1 rfl hfm (fun p hp=>?_)
      refine zw (zk f) hp rfl ?_; refine zF (v:=zk f) (AV.cells (zk f)) zC rfl rfl rfl rfl ?_; refine zB (AV.agg [zK f.col,zK f.row]) (zE zC) rfl ?_; refine zI (ha _) ?_; refine zU rfl ?_; refine zG <| zN tF <| zG <| zG ?_; refine zB (AV.str f.text) (zE zC) rfl ?_; refine zN (tN h0) ?_; refine zB (AV.str f.text) (zE zC) rfl ?_; refine zI (ht _) ?_; refine zU rfl ?_; refine zH ?_
      exact zc rfl rfl rfl rfl (hH2 _ _)
   ·obtain ⟨g,hg⟩ : ∃ g,l[i - 1]? = some g:=⟨_,List.getElem?_eq_getElem tO⟩
    have hgm : (l.map zk)[i - 1]? = some (zk g):=by rw [List.getElem?_map,hg]; rfl
    rw [if_neg hi0,hg] at hq
    have hq : (if (if zE1 g f = false then 5 else if f.text = [] then 3 else zBE f.text) = 0 then zHK (some f) (l.drop (i + 1)) else if zE1 g f = false then 5 else if f.text = [] then 3 else zBE f.text) = r:=hq
    have hls:=hL g f
    clear hL
    cases hlp : zE1 g f with
    | false=>
     rw [hlp] at hls hq
     have hq : 5 = r:=hq
     subst hq
     clear ht
     refine zP tT ?_; refine zCy i (zk f) hv1 rfl hfm (fun p hp=>?_)
     refine zw (zk f) hp rfl ?_; refine zF (v:=zk f) (AV.cells (zk f)) zC rfl rfl rfl rfl ?_; refine zB (AV.agg [zK f.col,zK f.row]) (zE zC) rfl ?_; refine zI (ha _) ?_; refine zU rfl ?_; refine zG <| zP tT ?_; refine zM (r:=i - 1) tO tO ?_; refine sIdxW (i - 1) (zk g) hvo rfl hgm ?_ (fun b2 j2 hp2=>?_)
     ·refine zz (zBH g.col g.row) rfl ?_; refine zB (AV.agg [zK f.col,zK f.row]) (zE zC) rfl ?_; refine zI (hls _) ?_; refine zH <| zH ?_
      exact zc rfl rfl rfl rfl (hH2 _ _)
     ·refine zw (zBH g.col g.row) hp2 rfl ?_; refine zB (AV.agg [zK f.col,zK f.row]) (zE zC) rfl ?_; refine zI (hls _) ?_; refine zH <| zH ?_
      exact zc rfl rfl rfl rfl (hH2 _ _)
    | true=>
     rw [hlp] at hls hq
     rw [if_neg (by simp : ¬ (true = false))] at hq
     by_cases h0 : f.text = []
     ·rw [if_pos h0] at hq
      have hq : 3 = r:=hq
      subst hq
      clear ht
      refine zP tT ?_; refine zCy i (zk f) hv1 rfl hfm (fun p hp=>?_)
      refine zw (zk f) hp rfl ?_; refine zF (v:=zk f) (AV.cells (zk f)) zC rfl rfl rfl rfl ?_; refine zB (AV.agg [zK f.col,zK f.row]) (zE zC) rfl ?_; refine zI (ha _) ?_; refine zU rfl ?_; refine zG <| zP tT ?_; refine zM (r:=i - 1) tO tO ?_; refine sIdxW (i - 1) (zk g) hvo rfl hgm ?_ (fun b2 j2 hp2=>?_)
      ·refine zz (zBH g.col g.row) rfl ?_; refine zB (AV.agg [zK f.col,zK f.row]) (zE zC) rfl ?_; refine zI (hls _) ?_; refine zH <| zG ?_; refine zB (AV.str f.text) (zE zC) rfl ?_; refine zP (tE h0) ?_
       exact zc rfl rfl rfl rfl (hH2 _ _)
      ·refine zw (zBH g.col g.row) hp2 rfl ?_; refine zB (AV.agg [zK f.col,zK f.row]) (zE zC) rfl ?_; refine zI (hls _) ?_; refine zH <| zG ?_; refine zB (AV.str f.text) (zE zC) rfl ?_; refine zP (tE h0) ?_
       exact zc rfl rfl rfl rfl (hH2 _ _)
     ·rw [if_neg h0] at hq
      by_cases hz : zBE f.text = 0
      ·rw [if_pos hz] at hq
       rw [hz] at ht
       have ht : ∀ H,C zAr [.str f.text] H .nili H:=ht
       refine zP tT ?_; refine zCy i (zk f) hv1 rfl hfm (fun p hp=>?_)
       refine zw (zk f) hp rfl ?_; refine zF (v:=zk f) (AV.cells (zk f)) zC rfl rfl rfl rfl ?_; refine zB (AV.agg [zK f.col,zK f.row]) (zE zC) rfl ?_; refine zI (ha _) ?_; refine zU rfl ?_; refine zG <| zP tT ?_; refine zM (r:=i - 1) tO tO ?_; refine sIdxW (i - 1) (zk g) hvo rfl hgm ?_ (fun b2 j2 hp2=>?_)
       ·refine zz (zBH g.col g.row) rfl ?_; refine zB (AV.agg [zK f.col,zK f.row]) (zE zC) rfl ?_; refine zI (hls _) ?_; refine zH <| zG ?_; refine zB (AV.str f.text) (zE zC) rfl ?_; refine zN (tN h0) ?_; refine zB (AV.str f.text) (zE zC) rfl ?_; refine zI (ht _) ?_; refine zU rfl ?_; refine zG ?_; refine zM (r:=i + 1) rfl tO ?_; refine zAM (i + 1) rfl ⟨hH2 _ _,hvo,by omega, ?_⟩ tO
        rw [if_neg tO,Nat.add_sub_cancel,hf]
        exact hq
       ·refine zw (zBH g.col g.row) hp2 rfl ?_; refine zB (AV.agg [zK f.col,zK f.row]) (zE zC) rfl ?_; refine zI (hls _) ?_; refine zH <| zG ?_; refine zB (AV.str f.text) (zE zC) rfl ?_; refine zN (tN h0) ?_; refine zB (AV.str f.text) (zE zC) rfl ?_; refine zI (ht _) ?_; refine zU rfl ?_; refine zG ?_; refine zM (r:=i + 1) rfl tO ?_; refine zAM (i + 1) rfl ⟨hH2 _ _,hvo,by omega, ?_⟩ tO
        rw [if_neg tO,Nat.add_sub_cancel,hf]
        exact hq
      ·rw [if_neg hz] at hq
       subst hq
       have ht : ∀ H,C zAr [.str f.text] H (zF7 (zBE f.text)) H:=fun H=>by have:=ht H; rwa [eV,if_neg hz] at this
       rw [eV,if_neg hz]
       refine zP tT ?_; refine zCy i (zk f) hv1 rfl hfm (fun p hp=>?_)
       refine zw (zk f) hp rfl ?_; refine zF (v:=zk f) (AV.cells (zk f)) zC rfl rfl rfl rfl ?_; refine zB (AV.agg [zK f.col,zK f.row]) (zE zC) rfl ?_; refine zI (ha _) ?_; refine zU rfl ?_; refine zG <| zP tT ?_; refine zM (r:=i - 1) tO tO ?_; refine sIdxW (i - 1) (zk g) hvo rfl hgm ?_ (fun b2 j2 hp2=>?_)
       ·refine zz (zBH g.col g.row) rfl ?_; refine zB (AV.agg [zK f.col,zK f.row]) (zE zC) rfl ?_; refine zI (hls _) ?_; refine zH <| zG ?_; refine zB (AV.str f.text) (zE zC) rfl ?_; refine zN (tN h0) ?_; refine zB (AV.str f.text) (zE zC) rfl ?_; refine zI (ht _) ?_; refine zU rfl ?_; refine zH ?_
        exact zc rfl rfl rfl rfl (hH2 _ _)
       ·refine zw (zBH g.col g.row) hp2 rfl ?_; refine zB (AV.agg [zK f.col,zK f.row]) (zE zC) rfl ?_; refine zI (hls _) ?_; refine zH <| zG ?_; refine zB (AV.str f.text) (zE zC) rfl ?_; refine zN (tN h0) ?_; refine zB (AV.str f.text) (zE zC) rfl ?_; refine zI (ht _) ?_; refine zU rfl ?_; refine zH ?_
        exact zc rfl rfl rfl rfl (hH2 _ _)
 ·have hd : l.drop i = []:=List.drop_eq_nil_of_le tO
  rw [hd] at hq
  have hq : 0 = r:=hq
  subst hq
  clear hA hL hT
  refine zN tF ?_
  exact zc rfl rfl rfl rfl hH
end
end Go.AM
