/- Several texts of mine in one (Fr7, Fm, ToldQ). Own work. -/
import Derived.Test.YtljipljfelkodaaGreatDoorGFq0Bg0
import Derived.Test.YtljipljfelkodaaGreatDoorGFp3Fr6
import Derived.Test.YtljipljfelkodaaGreatDoorAsQ
import Derived.Test.YtljipljfelkodaaGreatDoorVk
import Derived.Test.YtljipljfelkodaaGreatDoorGAm23Am29
set_option linter.all false
set_option maxRecDepth 20000
namespace Go.AM
theorem tw_bind {s : Bs} {l e d : Nat} (hl : l ≤ 3) (he : e ≤ s.length) (g : Nd → Nd) : (((P s).loose (l + 2) e d).bind fun q=>bl s ((P s).ll (l + 1) (g q.1) q.2 d)) = (twS s (l + 1) e d).bind fun q=>bl s ((P s).ll (l + 1) (g q.1) q.2 d):=by
 unfold twS
 by_cases h3 : l = 3
 ·subst h3
  rw [zLx rfl,loose_top d he]
 ·rw [zLv tO]
  cases h : (P s).loose (l + 2) e d with
  | none=>rfl
  | some q=>
   have:=(zBz s).loose _ e d q he h
   show bl s ((P s).ll (l + 1) (g q.1) q.2 d) = bl s ((P s).ll (l + 1) (g q.1) (skip s q.2) d)
   rw [ll_skip _ _ _ this.2]
theorem tw_ends {s : Bs} {l e d : Nat} (hl : l ≤ 3) (he : e ≤ s.length) {q : Nd × Nat} (h : twS s (l + 1) e d = some q) : (e < q.2 ∧ q.2 ≤ s.length) ∧ ∀ op e',zGn s q.2 = some (op,e') → tight op < l + 2:=by
 unfold twS at h
 by_cases h3 : l = 3
 ·subst h3
  rw [zLx rfl] at h
  exact ⟨(zBz s).one e d q he h,fun op e' _=>by have:=(tight_le op).2; omega⟩
 ·rw [zLv tO] at h
  unfold bl at h
  rw [zL2] at h
  obtain ⟨q',h1,rfl⟩:=h
  have h2:=(zBz s).loose _ e d q' he h1
  have h4:=zDw s q'.2
  have h5:=zBi h2.2
  refine ⟨⟨by simp only; omega,h5⟩,fun op e' ho=>?_⟩
  simp only [zLk] at ho
  exact loose_exit _ d he h1 op e' ho
theorem tw_start {s : Bs} {l p d : Nat} (hl : l ≤ 3) (hp : p ≤ s.length) : twS s l p d = (twS s (l + 1) p d).bind fun q=>bl s ((P s).ll (l + 1) q.1 q.2 d):=by
 rw [← tw_bind hl hp (fun n=>n)]
 conv=>lhs; unfold twS
 rw [zLv tO,loose_split (l + 1) d hp]
 cases (P s).loose (l + 2) p d <;> rfl
theorem ll_done {s : Bs} {l d a : Nat} {n : Nd} (ha : a ≤ s.length) (hx : ∀ op e,zGn s a = some (op,e) → tight op < l + 2) (hno : ∀ t,t ∈ sgn l → t.isPrefixOf (s.drop (skip s a)) = false) : bl s ((P s).ll (l + 1) n a d) = some (n,skip s a):=by
 rw [P_ll _ n d ha]
 unfold psLl
 cases h : zGn s a with
 | none=>rfl
 | some x=>
  obtain ⟨op,e⟩:=x
  have h1:=hx op e h
  have h2:=op_none (skip_at s a) hno (by rw [zLk]; exact h)
  simp only
  rw [zLx tO]; rfl
theorem ll_more {s : Bs} {l d a i : Nat} {n : Nd} {t : Bs} (hl : l ≤ 3) (ha : a ≤ s.length) (ht : (sgn l)[i]? = some t) (hp : t.isPrefixOf (s.drop (skip s a)) = true) (hno : ∀ j u,j < i → (sgn l)[j]? = some u → u.isPrefixOf (s.drop (skip s a)) = false) :
  (skip s a + t.length ≤ s.length ∧ skip s a < skip s a + t.length) ∧ zBO t ≠ 0 ∧ bl s ((P s).ll (l + 1) n a d) = (twS s (l + 1) (skip s a + t.length) d).bind fun q=>bl s ((P s).ll (l + 1) (zFl (zBO t) n q.1) q.2 d):=by
 obtain ⟨h1,h2,h3⟩:=op_match ht hp hno
 have he:=zCT h1
 refine ⟨⟨he.2,he.1⟩,h3, ?_⟩
 rw [← ll_skip _ _ _ ha,P_ll _ n d (zBi ha)]
 unfold psLl
 rw [h1]
 simp only
 rw [zLv tO,← tw_bind hl he.2 (fun m=>zFl (zBO t) n m),h2]
 cases (P s).loose (l + 1 + 1) (skip s a + t.length) d <;> rfl
def ndX (n : Nd) (x : AV) : List AV:=[.int .i64 n.kind,.int .i64 n.num,.str n.text,.int .i64 n.ref.col,.int .i64 n.ref.row,.bool n.ref.fc,.bool n.ref.fr,.int .i64 n.to.col,.int .i64 n.to.row,.bool n.to.fc,.bool n.to.fr,x]
def NdO (H0 H : Heap) (n : Nd) (x : AV) : Prop:=x = .lst (some n.kq) n.kk (kxs n) ∨ ∃ op a c nb,n = zFl op a c ∧ x = .sl (some false) nb 12 0 2 ∧ H[nb]? = some (.row 12 [ndV a,ndV c]) ∧ H0.length ≤ nb
theorem NdO.keep {H0 H H' : Heap} {n : Nd} {x : AV} (h : NdO H0 H n x) (hk : ∀ (nb : Nat) (ys : List AV),H[nb]? = some (ABlk.row 12 ys) → H'[nb]? = some (ABlk.row 12 ys)) : NdO H0 H' n x:=by
 rcases h with h | ⟨op,a,c,nb,h1,h2,h3,h4⟩
 ·exact .inl h
 ·exact .inr ⟨op,a,c,nb,h1,h2,hk _ _ h3,h4⟩
theorem NdO.set {H0 H : Heap} {n : Nd} {x : AV} {b : Nat} {cs : List AV} (h : NdO H0 H n x) (hb : H[b]? = some (.box cs)) (y : ABlk) : NdO H0 (H.set b y) n x:=
 h.keep fun nb ys h1=>zA (fun e=>by subst e; rw [hb] at h1; cases h1) h1
theorem NdO.push {H0 H : Heap} {n : Nd} {x : AV} (h : NdO H0 H n x) (y : ABlk) : NdO H0 (H ++ [y]) n x:=h.keep fun nb ys h1=>zC h1
theorem NdO.one {H0 H : Heap} {n : Nd} {x : AV} (h : NdO H0 H n x) : (AV.agg (ndX n x)).cells.all AV.one = true:=by
 rcases h with rfl | ⟨op,a,c,nb,rfl,rfl,h3,h4⟩ <;> rfl
theorem NdO.frz {H0 H : Heap} {n : Nd} {x : AV} (h : NdO H0 H n x) (k : Nat) (hk : k ≤ H0.length) : ∃ H',zDq k (.agg (ndX n x)) H = some (ndV n,H') ∧ H'.length = H.length ∧ (∀ (c : Nat) (cs : List AV),H[c]? = some (ABlk.box cs) → H'[c]? = some (ABlk.box cs)) ∧ ∀ {b B},b < H0.length → Old (H0.set b B) H → Old (H0.set b B) H':=by
 rcases h with rfl | ⟨op,a,c,nb,rfl,rfl,h3,h4⟩
 ·exact ⟨H,rfl,rfl,fun _ _ h=>h,fun _ h=>h⟩
 ·refine ⟨H.set nb (.frz 12 [ndV a,ndV c]), ?_,zL3,fun c' cs hc=>zA (fun e=>by subst e; rw [h3] at hc; cases hc) hc,fun hb ho=>?_⟩
  ·have : ¬ nb < k:=by omega
   simp only [ndX,zDq,zJH,this,zMP,h3]
   simp [frzQ,ndV,ndC,zFl,Nd.kind,Nd.num,Nd.text,Nd.ref,Nd.to,Nd.kq,Nd.kk,kxs,kidL]
  ·exact ho.set (by rw [zL3]; exact h4) _
theorem zHE (k : Nat) (n : Nd) : (ndV n).bel k = true:=rfl
def looseV : AV:=.agg ((List.range 4).map fun l=>.lst (some false) 1 ((sgn l).map AV.str))
theorem loose_part {l o : Nat} (hl : l ≤ 3) (ho : o = l) : part looseV.cells o 1 false = some (.lst (some false) 1 ((sgn l).map AV.str)):=by
 subst ho
 rcases o with _ | _ | _ | _ | o
 ·rfl
 ·rfl
 ·rfl
 ·rfl
 ·omega
theorem sgn_len (l : Nat) : (sgn l).length ≤ 6:=by rcases l with _ | _ | _ | _ | l <;> simp [sgn]
theorem sOffG {GT : Nat → Option AV} {fr : Fr} {g o : Nat} {x : AV} {K : AV → Prop} (h : GT g = some x) (q : K (.lref x (0 + o))) : offN o (evF GT fr (.glob g)) K:=by
 have e : evF GT fr (.glob g) = .lref x 0:=by simp only [evF,h]
 rw [e]; exact q
structure T2St where
 m : Nat
 a : Nat
 n : Nd
 x : AV
structure L2St where
 i : Nat
 m : Nat
def two_r : AC:=match zDk with
 | .seq _ (.scope _ _ _ r)=>r
 | x=>x
def TwI (H : Heap) (b : Nat) (s : Bs) (d : Nat) (l : Nat) (r : Option (Nd × Nat)) (a : Nat) (n : Nd) (x : AV) (H1 : Heap) : Prop:=
 OldB H b (rdB s a d) H1 ∧ H1[b]? = some (rdB s a d) ∧ H1[H.length]? = some (.box (ndC zW)) ∧ H1[H.length + 1]? = some (.box (ndX n x)) ∧ NdO H H1 n x ∧ a ≤ s.length ∧ (∀ op e,zGn s a = some (op,e) → tight op < l + 2) ∧ bl s ((P s).ll (l + 1) n a d) = r
section
variable {C : CSpec} {GT : Nat → Option AV}
theorem two_ev (hB : ∀ b s p d H,H[b]? = some (rdB s p d) → p ≤ s.length → s.length ≤ 200 → C za [pR b] H (.tup []) (H.set b (rdB s (skip s p) d)))
  (hO : ∀ t H,zBO t ≠ 0 → C zB9 [.str t] H (zK (zBO t)) H)
  (hX : ∀ s p H,C zAO [.str s,.str p] H (.bool (p.isPrefixOf s)) H)
  (hG : GT zDK = some looseV)
  (l b : Nat) (s : Bs) (p d : Nat) (H : Heap) (hb : H[b]? = some (rdB s p d)) (hp : p ≤ s.length) (hl : s.length ≤ 200) (hl4 : l ≤ 4)
  (hN : ∀ H',l = 4 → H'[b]? = some (rdB s p d) → CR C zAE [pR b] H' b s d ((P s).one p d))
  (hT : ∀ a H',l ≤ 3 → p ≤ a → a ≤ s.length → (a = p ∨ p < a) → H'[b]? = some (rdB s a d) → CR C zi [pR b,zK (l + 1)] H' b s d (twS s (l + 1) a d)) :
  zB3 C GT zBb [pR b,zK l] H b (wkC s) zEs (mkR s d (twS s l p d)):=by
 have hbl : b < H.length:=(zg hb).1
 have hbk:=fun a d H' h1 h2=>hB b s a d H' h1 h2 hl
 clear hB
 refine zz ?_
 by_cases h4 : l = 4
 ·subst h4
  have e1 : twS s 4 p d = (P s).one p d:=zLx rfl
  rw [e1]
  generalize (P s).one p d = r at *
  have hn:=fun H'=>hN H' rfl
  clear hN hT hX hO hbk hG
  cases r with
  | none=>
   have hc:=fun H' h1=>(hn H' h1).2 rfl
   have e : mkR s d none = none:=rfl
   rw [e]
   clear hn
   refine sW ?_; refine zAV (hc _ hP) ?_
   exact sP
  | some q=>
   obtain ⟨n,e⟩:=q
   have hc:=fun H' h1=>(hn H' h1).1 n e rfl
   have e0 : mkR s d (some (n,e)) = some (ndV n,rdB s e d):=rfl
   rw [e0]
   clear hn
   refine sW ?_; refine zBj (hc _ hP) <| sS (ndV n) (AV.cells (ndV n)) ?_
   exact zx (o:=0) (ndV n) (by first | rfl | assumption) rfl rfl (zJ (zE (zA tA zB))) rfl rfl rfl hO rfl
 have hl3 : l ≤ 3:=by omega
 have hT:=fun a H' h1 h2 h3 h4=>hT a H' hl3 h1 h2 h3 h4
 clear hN
 rw [tw_start hl3 hp]
 have ht0:=fun H' h1=>hT p H' (zL0 _) hp (.inl rfl) h1
 cases hr : twS s (l + 1) p d with
 | none=>
  rw [hr] at ht0
  have hc:=fun H' h1=>(ht0 H' h1).2 rfl
  have e : mkR s d (Option.bind none fun q : Nd × Nat=>bl s ((P s).ll (l + 1) q.1 q.2 d)) = none:=rfl
  rw [e]
  clear hbk hO hX hG hT ht0
  refine sW ?_; refine zN (r:=l + 1) rfl tO <| zAV (hc _ hP) ?_
  exact sP
 | some q0=>
 obtain ⟨n0,e0⟩:=q0
 have hq0:=tw_ends hl3 hp hr
 rw [hr] at ht0
 have hc0:=fun H' h1=>(ht0 H' h1).1 n0 e0 rfl
 clear ht0 hr
 obtain ⟨hq1,hq2⟩:=hq0
 simp only at hq1 hq2
 have e1 : (Option.bind (some (n0,e0)) fun q : Nd × Nat=>bl s ((P s).ll (l + 1) q.1 q.2 d)) = bl s ((P s).ll (l + 1) n0 e0 d):=rfl
 rw [e1]
 clear e1
 obtain ⟨r,hr⟩ : ∃ r,bl s ((P s).ll (l + 1) n0 e0 d) = r:=⟨_,rfl⟩
 rw [hr]
 have hZ : ∀ (X Y : ABlk),((H ++ [X]).set b Y).length = H.length + 1:=fun X Y=>by simp
 have hmk : ∀ st H1,st.m = H.length + 1 ∧ TwI H b s d l r st.a st.n st.x H1 → p < st.a →
   gotoP C GT [5,1,0,4] 0 two_r (zHe zBb H b (wkC s) zEs (mkR s d r)) ((fun st : T2St=>[(5,pR st.m),(1,zK l),(0,pR b),(4,pR H.length)]) st) H1:=by
  intro st0 H1 hst hpa0
  refine sGoto (fun st : T2St=>[(5,pR st.m),(1,zK l),(0,pR b),(4,pR H.length)]) (fun st H1=>(st.m = H.length + 1 ∧ TwI H b s d l r st.a st.n st.x H1) ∧ p < st.a) (fun st=>s.length - st.a) st0 rfl ⟨hst,hpa0⟩ (fun ⟨m,a,n,x⟩ H1 ⟨⟨hm,hob,hb1,h4,h5,hnd,hal,hx,hq⟩,hpa⟩=>?_)
  clear hst hpa0 st0 hc0 hr hb
  dsimp only at hm hob hb1 h4 h5 hnd hal hx hq hpa ⊢
  subst hm
  have hA1:=zDw s a
  have hA2:=zBi hal
  have h5l:=(zg h5).1
  have hbk1:=hbk a d H1 hb1 hal
  refine sW ?_; refine zFp ⟨by omega,by omega⟩ <| sOffG hG <| zt (.lst (some false) 1 ((sgn l).map AV.str)) (loose_part hl3 (by simp)) <| sLenL ?_; refine zBm (fun st : L2St=>[(5,pR st.m),(1,zK l),(0,pR b),(4,pR H.length),(22,zK st.i),(20,.lst (some false) 1 ((sgn l).map AV.str)),(21,.int .i64 ((sgn l).map AV.str).length)])
   (fun st H'=>st.m = H.length + 1 ∧ (OldB H b (rdB s (skip s a) d) H' ∧ H'[b]? = some (rdB s (skip s a) d) ∧ H'[H.length]? = some (.box (ndC zW)) ∧ H'[H.length + 1]? = some (.box (ndX n x)) ∧ NdO H H' n x) ∧ st.i ≤ (sgn l).length ∧ ∀ j u,j < st.i → (sgn l)[j]? = some u → u.isPrefixOf (s.drop (skip s a)) = false)
   (fun st=>(sgn l).length - st.i) ⟨0,H.length + 1⟩ rfl ⟨rfl,⟨hob.setB _,hP,hP,hP,hnd.set hb1 _⟩,zMm _,fun j u h=>absurd h (zMx _)⟩ (fun ⟨i,m⟩ H2 ⟨hm,⟨hob2,hb2,h42,h52,hnd2⟩,hi,hno⟩=>?_)
  clear hob hb1 h4 h5 hnd h5l hbk1
  dsimp only at hm hi hno ⊢
  subst hm
  have h5l:=(zg h52).1
  have hlm : ((sgn l).map AV.str).length = (sgn l).length:=zL6 _
  have hsg : (sgn l).length ≤ 6:=sgn_len l
  by_cases hlt : i < (sgn l).length
  ·obtain ⟨t,ht⟩ : ∃ t,(sgn l)[i]? = some t:=⟨_,zLy hlt⟩
   have htm : ((sgn l).map AV.str)[i]? = some (AV.str t):=by rw [zL9,ht]; rfl
   have hsl : zAx none (.str s) (some (zK (skip s a))) none = some (.str (s.drop (skip s a))):=zCw s _ hA2
   have hxx:=hX (s.drop (skip s a)) t H2
   cases hpre : t.isPrefixOf (s.drop (skip s a)) with
   | false=>
    rw [hpre] at hxx
    clear hT hbk hO hX
    refine sW ?_; refine sIdx rfl htm <| sW ?_; refine zl hsl <| sW ?_; refine zN (r:=i + 1) rfl tO ?_; refine zAU (L2St.mk (i + 1) (H.length + 1)) rfl ⟨rfl,⟨hob2,hb2,h42,h52,hnd2⟩,by simp only; omega,fun j u hj hu=>?_⟩ (by simp only; omega)
    by_cases hji : j = i
    ·subst hji; rw [ht] at hu; cases hu; exact hpre
    ·exact hno j u (by simp only at hj; omega) hu
   | true=>
    rw [hpre] at hxx
    obtain ⟨⟨hm1,hm2⟩,hm3,hm4⟩:=ll_more (n:=n) (d:=d) hl3 hal ht hpre hno
    rw [hm4] at hq
    have hoo:=fun H'=>hO t H' hm3
    have htw:=fun H'=>hT (skip s a + t.length) H' tO hm1 (.inr tO)
    have hee:=fun q=>tw_ends (d:=d) (q:=q) hl3 hm1
    clear hT hbk hO hX hm4 hx
    have hpa2 : p < skip s a + t.length:=by omega
    generalize hA3 : skip s a + t.length = a2 at *
    generalize skip s a = a1 at *
    refine sW ?_; refine sIdx rfl htm <| sW ?_; refine zl hsl <| sW ?_; refine zN (r:=a2) tO tO <| sS (.int .i64 ↑a2) [AV.str s,.int .i64 ↑a2,zK d] ?_; refine sW ?_; refine zN (r:=l + 1) rfl tO ?_
    cases hr2 : twS s (l + 1) a2 d with
    | none=>
     rw [hr2] at htw hq
     have hq : none = r:=hq
     subst hq
     have hc:=fun H' h1=>(htw H' h1).2 rfl
     clear htw hee
     have e0 : mkR s d none = none:=rfl
     rw [e0]
     refine zGk ?_ ?_
     ·refine sW ?_; refine zAV (hc _ hP) ?_
      exact sP
     ·refine zAV (hc _ hP) ?_
      exact sP
    | some q2=>
     obtain ⟨n2,e2⟩:=q2
     have hee2:=hee _ hr2
     rw [hr2] at htw hq
     have hq : bl s ((P s).ll (l + 1) (zFl (zBO t) n n2) e2 d) = r:=hq
     have hc:=fun H' h1=>(htw H' h1).1 n2 e2 rfl
     clear htw hee hr2
     obtain ⟨⟨hk1,hk2⟩,hk3⟩:=hee2
     simp only at hk1 hk2 hk3
     have hnd3:=(hnd2.set hb2 (rdB s a2 d)).set (b:=b) (cs:=[.str s,zK a2,zK d]) hP (rdB s e2 d)
     have hob3:=(hob2.setB (rdB s a2 d)).setB (rdB s e2 d)
     have hb3 : ((H2.set b (rdB s a2 d)).set b (rdB s e2 d))[b]? = some (rdB s e2 d):=hP
     have h43 : ((H2.set b (rdB s a2 d)).set b (rdB s e2 d))[H.length]? = some (.box (ndC zW)):=hP
     have h53 : ((H2.set b (rdB s a2 d)).set b (rdB s e2 d))[H.length + 1]? = some (.box (ndX n x)):=hP
     obtain ⟨H4,hz,hl4',hbx,hol⟩:=hnd3.frz 0 (zMm _)
     have hz2 : zJH 0 [.agg (ndX n x),ndV n2] ((H2.set b (rdB s a2 d)).set b (rdB s e2 d)) = some ([ndV n,ndV n2],H4):=zFM hz rfl
     have hob4 : OldB H b (rdB s e2 d) H4:=⟨hbl,hol hbl hob3.old⟩
     have hb4:=hbx _ _ hb3
     have h44:=hbx _ _ h43
     have h54:=hbx _ _ h53
     have h44l:=(zg h54).1
     clear hbx hol hz hnd3 hnd2 hob2
     refine zGk ?_ ?_
     ·refine sW ?_; refine zBj (hc _ hP) <| zEf [ndV n,ndV n2] H4 hz2 rfl <| sW ?_; refine sS (.agg (ndX (zFl (zBO t) n n2) (.sl (some false) H4.length 12 0 2))) (ndX (zFl (zBO t) n n2) (.sl (some false) H4.length 12 0 2)) ?_; refine ⟨rfl,zAU (T2St.mk (H.length + 1) e2 (zFl (zBO t) n n2) (.sl (some false) H4.length 12 0 2)) rfl ⟨⟨rfl,⟨(hob4.push _).set tO _,hP,hP,hP,.inr ⟨zBO t,n,n2,H4.length,rfl,rfl,hP,by omega⟩,hk2,hk3,hq⟩⟩,by simp only; omega⟩ (by simp only; omega)⟩
     ·refine zBj (hc _ hP) <| sW ?_; refine zEf [ndV n,ndV n2] H4 hz2 rfl <| sW ?_; refine sS (.agg (ndX (zFl (zBO t) n n2) (.sl (some false) H4.length 12 0 2))) (ndX (zFl (zBO t) n n2) (.sl (some false) H4.length 12 0 2)) ?_; refine ⟨rfl,zAU (T2St.mk (H.length + 1) e2 (zFl (zBO t) n n2) (.sl (some false) H4.length 12 0 2)) rfl ⟨⟨rfl,⟨(hob4.push _).set tO _,hP,hP,hP,.inr ⟨zBO t,n,n2,H4.length,rfl,rfl,hP,by omega⟩,hk2,hk3,hq⟩⟩,by simp only; omega⟩ (by simp only; omega)⟩
  ·have hdone : bl s ((P s).ll (l + 1) n a d) = some (n,skip s a):=ll_done hal hx fun t ht=>by
    obtain ⟨j,hj⟩:=zMi ht
    exact hno j t (by have:=(zg hj).1; omega) hj
   rw [hdone] at hq
   subst hq
   have e0 : mkR s d (some (n,skip s a)) = some (ndV n,rdB s (skip s a) d):=rfl
   rw [e0]
   clear hT hbk hO hX hdone
   generalize skip s a = a1 at *
   refine sW ?_; refine zH (v:=.agg (ndX n x)) (ndX n x) hP rfl hnd2.one rfl rfl ?_
   obtain ⟨H4,hz,hl4',hbx,hol⟩:=(hnd2.set h42 (.box (ndX n x))).frz H.length (zL0 _)
   have hob3:=hob2.set (c:=H.length) (zL0 _) (.box (ndX n x))
   exact zx (o:=0) (.agg (ndX n x)) rfl rfl rfl (zJ hP) rfl hz (zHE _ _) ⟨hbl,hol hbl hob3.old⟩ rfl
 generalize n0 = n at *
 generalize e0 = a at *
 have hal:=hq1.2
 have hx:=hq2
 have hq:=hr
 obtain ⟨x,hxe⟩ : ∃ x,x = AV.lst (some n.kq) n.kk (kxs n):=⟨_,rfl⟩
 have hA1:=zDw s a
 have hA2:=zBi hal
 refine sW ?_; refine zN (r:=l + 1) rfl tO <| zBj (hc0 _ hP) <| sS (ndV n) (AV.cells (ndV n)) ?_; refine sW ?_; refine zFp ⟨by omega,by omega⟩ <| sOffG hG <| zt (.lst (some false) 1 ((sgn l).map AV.str)) (loose_part hl3 (by simp)) <| sLenL ?_; refine zBm (fun st : L2St=>[(5,pR st.m),(1,zK l),(0,pR b),(4,pR H.length),(22,zK st.i),(20,.lst (some false) 1 ((sgn l).map AV.str)),(21,.int .i64 ((sgn l).map AV.str).length)])
  (fun st H'=>st.m = H.length + 1 ∧ (OldB H b (rdB s (skip s a) d) H' ∧ H'[b]? = some (rdB s (skip s a) d) ∧ H'[H.length]? = some (.box (ndC zW)) ∧ H'[H.length + 1]? = some (.box (ndX n x)) ∧ NdO H H' n x) ∧ st.i ≤ (sgn l).length ∧ ∀ j u,j < st.i → (sgn l)[j]? = some u → u.isPrefixOf (s.drop (skip s a)) = false)
  (fun st=>(sgn l).length - st.i) ⟨0,_⟩ rfl ⟨hZ _ _,⟨((((((OldB.start hb).push _).setB _).push _).set (by simp) _).setB _),hP,hP,by rw [hxe,← hZ (.box (ndC zW)) (rdB s a d)]; exact hP,.inl hxe⟩,zMm _,fun j u h=>absurd h (zMx _)⟩ (fun ⟨i,m⟩ H2 ⟨hm,⟨hob2,hb2,h42,h52,hnd2⟩,hi,hno⟩=>?_)
 clear hb
 dsimp only at hm hi hno ⊢
 subst hm
 have h5l:=(zg h52).1
 have hlm : ((sgn l).map AV.str).length = (sgn l).length:=zL6 _
 have hsg : (sgn l).length ≤ 6:=sgn_len l
 by_cases hlt : i < (sgn l).length
 ·obtain ⟨t,ht⟩ : ∃ t,(sgn l)[i]? = some t:=⟨_,zLy hlt⟩
  have htm : ((sgn l).map AV.str)[i]? = some (AV.str t):=by rw [zL9,ht]; rfl
  have hsl : zAx none (.str s) (some (zK (skip s a))) none = some (.str (s.drop (skip s a))):=zCw s _ hA2
  have hxx:=hX (s.drop (skip s a)) t H2
  cases hpre : t.isPrefixOf (s.drop (skip s a)) with
  | false=>
   rw [hpre] at hxx
   clear hT hbk hO hX hc0
   refine sW ?_; refine sIdx rfl htm <| sW ?_; refine zl hsl <| sW ?_; refine zN (r:=i + 1) rfl tO ?_; refine zAU (L2St.mk (i + 1) (H.length + 1)) rfl ⟨rfl,⟨hob2,hb2,h42,h52,hnd2⟩,by simp only; omega,fun j u hj hu=>?_⟩ (by simp only; omega)
   by_cases hji : j = i
   ·subst hji; rw [ht] at hu; cases hu; exact hpre
   ·exact hno j u (by simp only at hj; omega) hu
  | true=>
   rw [hpre] at hxx
   obtain ⟨⟨hm1,hm2⟩,hm3,hm4⟩:=ll_more (n:=n) (d:=d) hl3 hal ht hpre hno
   rw [hm4] at hq
   have hoo:=fun H'=>hO t H' hm3
   have htw:=fun H'=>hT (skip s a + t.length) H' tO hm1 (.inr tO)
   have hee:=fun q=>tw_ends (d:=d) (q:=q) hl3 hm1
   clear hT hbk hO hX hm4 hx hc0
   have hpa2 : p < skip s a + t.length:=by omega
   generalize hA3 : skip s a + t.length = a2 at *
   generalize skip s a = a1 at *
   refine sW ?_; refine sIdx rfl htm <| sW ?_; refine zl hsl <| sW ?_; refine zN (r:=a2) tO tO <| sS (.int .i64 ↑a2) [AV.str s,.int .i64 ↑a2,zK d] ?_; refine sW ?_; refine zN (r:=l + 1) rfl tO ?_
   cases hr2 : twS s (l + 1) a2 d with
   | none=>
    rw [hr2] at htw hq
    have hq : none = r:=hq
    subst hq
    have hc:=fun H' h1=>(htw H' h1).2 rfl
    clear htw hee
    have e0 : mkR s d none = none:=rfl
    rw [e0]
    refine zGk ?_ ?_
    ·refine sW ?_; refine zAV (hc _ hP) ?_
     exact sP
    ·refine zAV (hc _ hP) ?_
     exact sP
   | some q2=>
    obtain ⟨n2,e2⟩:=q2
    have hee2:=hee _ hr2
    rw [hr2] at htw hq
    have hq : bl s ((P s).ll (l + 1) (zFl (zBO t) n n2) e2 d) = r:=hq
    have hc:=fun H' h1=>(htw H' h1).1 n2 e2 rfl
    clear htw hee hr2
    obtain ⟨⟨hk1,hk2⟩,hk3⟩:=hee2
    simp only at hk1 hk2 hk3
    have hnd3:=(hnd2.set hb2 (rdB s a2 d)).set (b:=b) (cs:=[.str s,zK a2,zK d]) hP (rdB s e2 d)
    have hob3:=(hob2.setB (rdB s a2 d)).setB (rdB s e2 d)
    have hb3 : ((H2.set b (rdB s a2 d)).set b (rdB s e2 d))[b]? = some (rdB s e2 d):=hP
    have h43 : ((H2.set b (rdB s a2 d)).set b (rdB s e2 d))[H.length]? = some (.box (ndC zW)):=hP
    have h53 : ((H2.set b (rdB s a2 d)).set b (rdB s e2 d))[H.length + 1]? = some (.box (ndX n x)):=hP
    obtain ⟨H4,hz,hl4',hbx,hol⟩:=hnd3.frz 0 (zMm _)
    have hz2 : zJH 0 [.agg (ndX n x),ndV n2] ((H2.set b (rdB s a2 d)).set b (rdB s e2 d)) = some ([ndV n,ndV n2],H4):=zFM hz rfl
    have hob4 : OldB H b (rdB s e2 d) H4:=⟨hbl,hol hbl hob3.old⟩
    have hb4:=hbx _ _ hb3
    have h44:=hbx _ _ h43
    have h54:=hbx _ _ h53
    have h44l:=(zg h54).1
    clear hbx hol hz hnd3 hnd2 hob2
    refine zGk ?_ ?_
    ·refine sW ?_; refine zBj (hc _ hP) <| zEf [ndV n,ndV n2] H4 hz2 rfl <| sW ?_; refine sS (.agg (ndX (zFl (zBO t) n n2) (.sl (some false) H4.length 12 0 2))) (ndX (zFl (zBO t) n n2) (.sl (some false) H4.length 12 0 2)) ?_
     exact ⟨rfl,hmk ⟨H.length + 1,e2,zFl (zBO t) n n2,.sl (some false) H4.length 12 0 2⟩ _ ⟨rfl,⟨(hob4.push _).set tO _,hP,hP,hP,.inr ⟨zBO t,n,n2,H4.length,rfl,rfl,hP,by omega⟩,hk2,hk3,hq⟩⟩ (by simp only; omega)⟩
    ·refine zBj (hc _ hP) <| sW ?_; refine zEf [ndV n,ndV n2] H4 hz2 rfl <| sW ?_; refine sS (.agg (ndX (zFl (zBO t) n n2) (.sl (some false) H4.length 12 0 2))) (ndX (zFl (zBO t) n n2) (.sl (some false) H4.length 12 0 2)) ?_
     exact ⟨rfl,hmk ⟨H.length + 1,e2,zFl (zBO t) n n2,.sl (some false) H4.length 12 0 2⟩ _ ⟨rfl,⟨(hob4.push _).set tO _,hP,hP,hP,.inr ⟨zBO t,n,n2,H4.length,rfl,rfl,hP,by omega⟩,hk2,hk3,hq⟩⟩ (by simp only; omega)⟩
 ·have hdone : bl s ((P s).ll (l + 1) n a d) = some (n,skip s a):=ll_done hal hx fun t ht=>by
   obtain ⟨j,hj⟩:=zMi ht
   exact hno j t (by have:=(zg hj).1; omega) hj
  rw [hdone] at hq
  subst hq
  have e0 : mkR s d (some (n,skip s a)) = some (ndV n,rdB s (skip s a) d):=rfl
  rw [e0]
  clear hT hbk hO hX hdone hc0
  generalize skip s a = a1 at *
  refine sW ?_; refine zH (v:=.agg (ndX n x)) (ndX n x) hP rfl hnd2.one rfl rfl ?_
  obtain ⟨H4,hz,hl4',hbx,hol⟩:=(hnd2.set h42 (.box (ndX n x))).frz H.length (zL0 _)
  have hob3:=hob2.set (c:=H.length) (zL0 _) (.box (ndX n x))
  exact zx (o:=0) (.agg (ndX n x)) rfl rfl rfl (zJ hP) rfl hz (zHE _ _) ⟨hbl,hol hbl hob3.old⟩ rfl
end
end Go.AM
set_option maxRecDepth 20000
namespace Go.AM
structure ParK (PR : Program) : Prop where
 hm : PR.follows .mixedOrders = true
 contains : z7 PR zm zAy = true
 mkSet : z7 PR zAp zCF = true
 trimR : z7 PR zAZ zBt = true
 trimL : z7 PR zAg zB2 = true
 trim : z7 PR zBf zE5 = true
 slPre : z7 PR zAF zB1 = true
 pre : z7 PR zAO zCz = true
 slTrim : z7 PR zAa zBv = true
 trimP : z7 PR zAj zCf = true
 wrong : z7 PR zDG zFy = true
 is : z7 PR zC7 zJX = true
 whole : z7 PR zB0 zF4 = true
 lit : z7 PR zAH zEJ = true
 ref : z7 PR zA0 zJa = true
 dollar : z7 PR zDI zF6 = true
 wordly : z7 PR zAQ zCv = true
 called : z7 PR zBS zDu = true
 plain : z7 PR zAT zEK = true
 opOf : z7 PR zB9 zE4 = true
 fail : z7 PR zV zCB = true
 blanks : z7 PR za zBq = true
 word : z7 PR zo zCE = true
 want : z7 PR zp zCC = true
 within : z7 PR zk zBr = true
 text : z7 PR zAo zCD = true
 neg : z7 PR zAE zCQ = true
 negc : z7 PR zAX zBs = true
 prim : z7 PR zAn zq = true
 prim1 : z7 PR zAJ zBg = true
 prim2 : z7 PR zAA zBh = true
 call : z7 PR zBK zBL = true
 argument : z7 PR zAm zBN = true
 two : z7 PR zi zBb = true
structure ParG (PR : Program) (GT : Nat → Option AV) : Prop where
 atoi : ∀ s H,zC5 s → zDC (zKX s) → s.length ≤ 1000 → Good PR GT zAw [.str s] H (.tup [zI (zKX s),.nili]) H
 atoi2 : ∀ s H,zC5 s → ¬ zDC (zKX s) → s.length ≤ 1000 → ∃ n t,Good PR GT zAw [.str s] H (.tup [zI n,.iface t .undef]) H
 texts : GT zFv = some textsV
 loose : GT zDK = some looseV
section
variable {PR : Program} {GT : Nat → Option AV}
theorem zLn (hm : PR.follows .mixedOrders = true) {f : Nat} {F : AF} {args : List AV} {H : Heap} {b : Nat} {s : Bs} {d : Nat} {r : Option (Nd × Nat)} (hc : z7 PR f F = true) (h : zB3 (Good PR GT) GT F args H b (wkC s) zEs (mkR s d r)) (hn : zHT args = true:=by rfl) : CR (Good PR GT) f args H b s d r:=
 have h:=zAW hm hc h hn
 ⟨fun n e hr=>h.1 _ _ (by subst hr; rfl),fun hr=>h.2 (by subst hr; rfl)⟩
theorem p_contains (k : ParK PR) (b : Nat) (g : Nat → Bool) (c : UInt8) (H : Heap) (hb : H[b]? = some (.box (zHf g))) : Good PR GT zm [pR b,byV c] H (.bool (g c.toNat)) H:=zM k.hm k.contains (contains_ev b g c H hb)
theorem p_mkSet (k : ParK PR) (cs : Bs) (H : Heap) (hcs : ∀ c ∈ cs,c.toNat < 128) (hl : cs.length ≤ 1000) : Good PR GT zAp [.str cs] H (.tup [.agg (zHf (zGo cs)),.bool true]) H:=zM k.hm k.mkSet (mkSet_ev cs H hcs hl)
theorem p_trimR (k : ParK PR) (s cs : Bs) (b : Nat) (H : Heap) (hb : H[b]? = some (.box (zHf (zGo cs)))) (hl : s.length ≤ 1000) : Good PR GT zAZ [.str s,pR b] H (.str (zKW s cs)) H:=zM k.hm k.trimR (trimR_ev (p_contains k) s cs b H hb hl)
theorem p_trimL (k : ParK PR) (s cs : Bs) (b : Nat) (H : Heap) (hb : H[b]? = some (.box (zHf (zGo cs)))) (hl : s.length ≤ 1000) : Good PR GT zAg [.str s,pR b] H (.str (s.dropWhile fun c=>zGo cs c.toNat)) H:=zM k.hm k.trimL (trimL_ev (p_contains k) s cs b H hb hl)
theorem p_trim (k : ParK PR) (s cs : Bs) (H : Heap) (hcs : ∀ c ∈ cs,c.toNat < 128) (hc2 : 2 ≤ cs.length) (hcl : cs.length ≤ 1000) (hl : s.length ≤ 1000) : Good PR GT zBf [.str s,.str cs] H (.str (trimS s cs)) H:=zM k.hm k.trim (trim_ev' (p_mkSet k) (p_trimR k) (p_trimL k) s cs H hcs hc2 hcl hl)
theorem p_slPre (k : ParK PR) (s p : Bs) (H : Heap) : Good PR GT zAF [.str s,.str p] H (.bool (p.isPrefixOf s)) H:=zM k.hm k.slPre (sl_prefix_ev s p H)
theorem p_pre (k : ParK PR) (s p : Bs) (H : Heap) : Good PR GT zAO [.str s,.str p] H (.bool (p.isPrefixOf s)) H:=zM k.hm k.pre (prefix_ev (p_slPre k) s p H)
theorem p_slTrim (k : ParK PR) (s p : Bs) (H : Heap) : Good PR GT zAa [.str s,.str p] H (.str (if p.isPrefixOf s = true then s.drop p.length else s)) H:=zM k.hm k.slTrim (zKY (p_slPre k) s p H)
theorem p_trimP (k : ParK PR) (s p : Bs) (H : Heap) : Good PR GT zAj [.str s,.str p] H (.str (if p.isPrefixOf s = true then s.drop p.length else s)) H:=zM k.hm k.trimP (trimPrefix_ev (p_slTrim k) s p H)
theorem p_minus (k : ParK PR) (s : Bs) (H : Heap) : Good PR GT zAj [.str s,.str [45]] H (.str (zCe s).2) H:=by
 have h:=p_trimP (GT:=GT) k s [45] H
 have e : (if ([45] : Bs).isPrefixOf s = true then s.drop ([45] : Bs).length else s) = (zCe s).2:=by
  cases s with
  | nil=>rfl
  | cons c r=>
   unfold zCe
   by_cases hc : c = 45
   ·subst hc; rfl
   ·have h1 : ([45] : Bs).isPrefixOf (c :: r) = false:=by
     simp only [List.isPrefixOf,zNT]
     exact tN (fun e=>hc e.symm)
    rw [h1]; simp only [zLv hc]; rfl
 rw [e] at h; exact h
theorem p_wrong (k : ParK PR) (n : Int) (H : Heap) : Good PR GT zDG [zI n] H (v3 4 n) H:=zM k.hm k.wrong (wrong_ev n H)
theorem p_is (k : ParK PR) (b : Bool) (H : Heap) : Good PR GT zC7 [.bool b] H (v3 3 (if b = true then 1 else 0)) H:=zM k.hm k.is (is_ev b H)
theorem p_called (k : ParK PR) (s : Bs) (H : Heap) (hl : s.length ≤ 1000) : Good PR GT zBS [.str s] H (.bool (zBI s)) H:=zM k.hm k.called (called_ev (p_trim k) s H hl)
theorem p_dollar (k : ParK PR) (b : Nat) (t : Bs) (H : Heap) (hb : H[b]? = some (.box [.str t])) : Good PR GT zDI [pR b] H (.bool (dollar t).1) (H.set b (.box [.str (dollar t).2])):=(zAW k.hm k.dollar (dollar_ev b t H hb .undef)).1 _ _ rfl
theorem p_ref (k : ParK PR) (s : Bs) (H : Heap) (hl : s.length ≤ 1000) : Good PR GT zA0 [.str s] H (refV (zCc s)) H:=zM k.hm k.ref (ref_ev (p_dollar k) s H hl)
theorem p_whole (k : ParK PR) (g : ParG PR GT) (s : Bs) (H : Heap) (hl : s.length ≤ 1000) : ∃ n0,Good PR GT zB0 [.str s] H (wholeV (wholeS s) n0) H:=by
 obtain ⟨n0,h⟩:=whole_ev (p_trim k) (p_minus k) g.atoi g.atoi2 s H hl
 exact ⟨n0,zM k.hm k.whole h⟩
theorem p_lit (k : ParK PR) (g : ParG PR GT) (s : Bs) (H : Heap) : Good PR GT zAH [.str s] H (litV (litP s)) H:=zM k.hm k.lit (literal_ev g.texts (p_is k) (p_wrong k) s H)
theorem zJD (k : ParK PR) (c : UInt8) (H : Heap) : Good PR GT zAQ [byV c] H (.bool (zu c)) H:=zM k.hm k.wordly (fwordly_ev c H)
theorem zHs (k : ParK PR) (b : Nat) (s : Bs) (p d : Nat) (a e : Int) (H : Heap) (hb : H[b]? = some (rdB s p d)) : Good PR GT zV (.pan .undef :: [pR b,.int .i64 a,zGl e]) H zEs (H.set b (.box (wkC s))):=(zAW k.hm k.fail (ffail_ev b s p d a e H hb)).2 rfl
theorem zGG (k : ParK PR) (b : Nat) (s : Bs) (p d : Nat) (H : Heap) (hb : H[b]? = some (rdB s p d)) (hp : p ≤ s.length) (hl : s.length ≤ 200) : Good PR GT za [pR b] H (.tup []) (H.set b (rdB s (skip s p) d)):=(zAW k.hm k.blanks (blanks_ev b s p d H hb hp hl)).1 _ _ rfl
theorem p_word (k : ParK PR) (b : Nat) (s : Bs) (p d : Nat) (H : Heap) (hb : H[b]? = some (rdB s p d)) (hp : p ≤ s.length) (hl : s.length ≤ 200) : Good PR GT zo [pR b] H (.str (sub s p (zB5 s p))) (H.set b (rdB s (zB5 s p) d)):=(zAW k.hm k.word (word_ev (zJD k) b s p d H hb hp hl)).1 _ _ rfl
theorem p_opOf (k : ParK PR) (t : Bs) (H : Heap) (h : zBO t ≠ 0) : Good PR GT zB9 [.str t] H (zK (zBO t)) H:=zM k.hm k.opOf (opOf_ev t H h)
theorem p_want (k : ParK PR) (c : UInt8) (b : Nat) (s : Bs) (p d : Nat) (H : Heap) (hb : H[b]? = some (rdB s p d)) (hp : p ≤ s.length) (hl : s.length ≤ 200) :
  (s[skip s p]? = some c → Good PR GT zp [pR b,byV c] H (.tup []) (H.set b (rdB s (skip s p + 1) d))) ∧ (s[skip s p]? ≠ some c → Good PR GT zp (.pan .undef :: [pR b,byV c]) H zEs (H.set b (.box (wkC s)))):=
 have h:=zAW k.hm k.want (want_ev (C:=Good PR GT) (GT:=GT) (zGG k) (zHs k) c b s p d H hb hp hl)
 ⟨fun hc=>h.1 _ _ (zLx hc),fun hc=>h.2 (zLv hc)⟩
theorem p_within (k : ParK PR) (f : Nat) (caps : List AV) (a : Int) (b : Nat) (s : Bs) (p d : Nat) (H : Heap) (r : Option (Nd × Nat)) (hb : H[b]? = some (rdB s p d)) (hd : d ≤ 1000)
  (hC : ∀ H',H'[b]? = some (rdB s p (d + 1)) → Off H b H' → CR (Good PR GT) f caps H' b s (d + 1) r) : CR (Good PR GT) zk [pR b,.int .i64 a,.fn f [] caps] H b s d (if d = 30 then none else r):=
 zLn k.hm k.within (within_ev (zHs k) f caps a b s p d H hb hd r hC)
theorem p_text (k : ParK PR) (b : Nat) (s : Bs) (p d : Nat) (H : Heap) (hb : H[b]? = some (rdB s p d)) (hp : p < s.length) (hl : s.length ≤ 200) : CR (Good PR GT) zAo [pR b] H b s d ((quo (s.drop (p + 1)) (p + 1)).map fun q=>(txtN q.1,q.2)):=
 zLn k.hm k.text (text_ev (zHs k) b s p d H hb hp hl)
theorem p_plain (k : ParK PR) (g : ParG PR GT) (t : Bs) (H : Heap) (hl : t.length ≤ 1000) (h45 : t.head? ≠ some 45) (h35 : t.head? ≠ some 35) : Good PR GT zAT [.str t] H (zJA (zJf t)) H:=zM k.hm k.plain (plain_ev (p_whole k g) (p_lit k g) (p_ref k) t H hl h45 h35)
theorem p_prim (k : ParK PR) (g : ParG PR GT) (b : Nat) (s : Bs) (p d : Nat) (H : Heap) (hb : H[b]? = some (rdB s p d)) (hp : p ≤ s.length) (hl : s.length ≤ 200) (hd : d ≤ 1000) (h32 : s[p]? ≠ some 32) (h45 : s[p]? ≠ some 45)
  (hPa : s[p]? = some 40 → ∀ H' rb,H'[b]? = some (rdB s p (d + 1)) → H'[rb]? = some (.box [pR b]) → CR (Good PR GT) zAJ [pR rb] H' b s (d + 1) (parS s p (d + 1)))
  (hCl : ∀ e t,s[e]? = some 40 → p < e → ∀ H' rb sb,H'[b]? = some (rdB s e (d + 1)) → H'[rb]? = some (.box [pR b]) → H'[sb]? = some (.box [.str t]) → CR (Good PR GT) zAA [pR rb,pR sb] H' b s (d + 1) (zGg s t e (d + 1))) :
  CR (Good PR GT) zAn [pR b] H b s d (zBw s (P s) p d):=by
 refine zLn k.hm k.prim ?_
 by_cases hlt : p < s.length
 ·obtain ⟨c,hc⟩ : ∃ c,s[p]? = some c:=⟨_,zLy hlt⟩
  by_cases h40 : c = 40
  ·subst h40; exact prim_par (p_within k) b s p d H hb hp hl hd hc hPa
  by_cases h34 : c = 34
  ·subst h34; exact prim_txt (p_text k) b s p d H hb hp hl hd hc
  by_cases h35 : c = 35
  ·subst h35; exact prim_bad (zHs k) (p_lit k g) b s p d H hb hp hl hd hc
  by_cases hw : zu c = true
  ·by_cases h41 : s[zB5 s p]? = some 40
   ·by_cases hcd : zBI (sub s p (zB5 s p)) = true
    ·exact prim_call (zJD k) (p_word k) (p_called k) (p_within k) b s p d H hb hp hl hd c hc hw h41 hcd hCl
    ·exact prim_plain1 (zHs k) (zJD k) (p_word k) (p_called k) (p_plain k g) b s p d H hb hp hl hd c hc hw h41 hcd
   ·exact prim_plain2 (zHs k) (zJD k) (p_word k) (p_plain k g) b s p d H hb hp hl hd c hc hw h41
  ·exact prim_else (zHs k) (zJD k) b s p d H hb hp hl hd c hc h32 h45 h40 h34 h35 hw
 ·exact prim_fin (zHs k) b s p d H hb hp hl hd hlt
theorem tw_zero (s : Bs) (p d : Nat) : twS s 0 p d = bl s ((P s).loose 1 p d):=zLv (by decide)
theorem p_two (k : ParK PR) (g : ParG PR GT) (b : Nat) (s : Bs) (hl : s.length ≤ 200) : ∀ n p,p ≤ s.length → s.length - p = n → ∀ d H,d + (s.length - p) ≤ 500 → H[b]? = some (rdB s p d) →
  CR (Good PR GT) zAE [pR b] H b s d ((P s).one p d) ∧ ∀ l,l ≤ 4 → CR (Good PR GT) zi [pR b,zK l] H b s d (twS s l p d):=by
 intro n
 induction n using Nat.strongRecOn with
 | _ n ih=>
  intro p hp hn d H hd hb
  have ih':=fun p' (h1 : p < p') (h2 : p' ≤ s.length) d' H' h3 h4=>ih (s.length - p') tO p' h2 rfl d' H' h3 h4
  clear ih
  have h0 : ∀ p',p < p' → p' ≤ s.length → ∀ d' H',d' + (s.length - p') ≤ 500 → H'[b]? = some (rdB s p' d') → CR (Good PR GT) zi [pR b,zI 0] H' b s d' (bl s ((P s).loose 1 p' d')):=fun p' h1 h2 d' H' h3 h4=>by
   have:=(ih' p' h1 h2 d' H' h3 h4).2 0 tO
   rw [tw_zero] at this
   exact this
  have hneg : ∀ H,H[b]? = some (rdB s p d) → CR (Good PR GT) zAE [pR b] H b s d ((P s).one p d):=fun H hb=>by
   have hq:=zDw s p
   have hq2:=zBi hp
   refine zLn k.hm k.neg (neg_ev (zGG k) (p_within k) b s p d H hb hp hl tO (fun h45 H' rb h1 h2=>?_) (fun h45 H' h1=>?_))
   ·have hlt:=(zg h45).1
    exact zLn k.hm k.negc (negc_ev b rb s (skip s p) (d + 1) H' h1 h2 hlt hl fun H'' h3=>(ih' (skip s p + 1) tO tO (d + 1) H'' tO h3).1)
   ·refine p_prim k g b s (skip s p) d H' h1 hq2 hl tO (skip_at s p) h45 (fun h40 H'' rb h2 h3=>?_) (fun e t h40 he H'' rb sb h2 h3 h4=>?_)
    ·have hlt:=(zg h40).1
     exact zLn k.hm k.prim1 (par_ev (p_want k) b rb s (skip s p) (d + 1) H'' h2 h3 hlt hl fun H3 h4=>h0 (skip s p + 1) tO tO (d + 1) H3 tO h4)
    ·have hlt:=(zg h40).1
     refine zLn k.hm k.prim2 (callc_ev b rb sb s t e (d + 1) H'' h2 h3 h4 _ fun H3 h5=>?_)
     refine zLn k.hm k.call (call_ev (zGG k) (p_want k) t b s e (d + 1) H3 h5 hlt hl fun a H4 h6 h7 h8=>?_)
     have ha:=zDw s a
     have ha2:=zBi h7
     refine zLn k.hm k.argument (arg_ev (zGG k) (zHs k) (p_word k) (p_ref k) b s a (d + 1) H4 h8 h7 hl fun H5 h9=>?_)
     have:=h0 (skip s a) tO ha2 (d + 1) H5 tO h9
     rw [loose_skip 1 (d + 1) h7] at this
     exact this
  refine ⟨hneg H hb, ?_⟩
  have hall : ∀ j l,l + j = 4 → ∀ H,H[b]? = some (rdB s p d) → CR (Good PR GT) zi [pR b,zK l] H b s d (twS s l p d):=by
   intro j
   induction j with
   | zero=>
    intro l hlj H hb
    exact zLn k.hm k.two (two_ev (zGG k) (p_opOf k) (p_pre k) g.loose l b s p d H hb hp hl tO (fun H' _ h=>hneg H' h) (fun a H' h=>by omega))
   | succ j ihj=>
    intro l hlj H hb
    refine zLn k.hm k.two (two_ev (zGG k) (p_opOf k) (p_pre k) g.loose l b s p d H hb hp hl tO (fun H' h=>by omega) (fun a H' h1 h2 h3 h4 h5=>?_))
    rcases h4 with rfl | h4
    ·exact ihj (l + 1) tO H' h5
    ·exact (ih' a h4 h3 d H' tO h5).2 (l + 1) tO
  exact fun l hl4=>hall (4 - l) l tO H hb
end
end Go.AM
namespace Go.AM
open Go.RowKit Go.Proofs
def zEu : Value:=.iface 153 (.agg #[.pointer (some ⟨11,26,none⟩)])
def gtQ (m : Int) (ev : Value) : Nat → Option AV
 | 0=>some (.raw zEu)
 | 1=>some looseV
 | 2=>some textsV
 | 8=>some (.raw ev)
 | _=>none
set_option maxRecDepth 100000 in
theorem as_good {m : Int} {ev : Value} (n old : Int) (b : Nat) (H : Heap) (hb : H[b]? = some (.box [.int .i64 old])) : Good Tryz.prog (gtQ m ev) zH3 [.iface zQ (.int .i64 n),.iface zGy (.ref b 0 0 0)] H (.bool true) (H.set b (.box [.int .i64 n])):=by
 intro w M I cargs hS hA
 obtain ⟨v,u,rfl,hv,hu⟩:=relL_two hA
 cases hv with
 | iface _ _ v' hv'=>
 obtain rfl:=rel_int' hv'
 cases hu with
 | iface _ _ u' hu'=>
 cases hu' with
 | ref _ _ _ _ g o hbn hM=>
 have h0:=hS.glob 0 (.raw zEu) rfl
 have hg : w.cell? ⟨0,0,none⟩ = some zEu:=by
  cases h0 with
  | lref _ _ _ _ V hI hx hvv hr=>
   have h1:=hvv 0 (.raw zEu) rfl
   have h2:=hr 0 (.raw zEu) rfl
   rw [h1,rel_raw' h2]
 obtain ⟨g',o',cur,h1,hC,h3,h4,h5⟩:=hS.blk b _ hb
 rw [hM] at h1
 simp only [zLt,zLz] at h1
 obtain ⟨rfl,rfl⟩:=h1
 obtain ⟨u0,e1,e2⟩:=h5 0 _ rfl
 obtain rfl:=rel_int' e2
 rw [zNj] at e1
 have ht0 : w.cell? ⟨g,o,none⟩ = some (.int .i64 old):=by rw [hC.cell?]; exact e1
 have hf0 : w.frozen? ⟨g,o,none⟩ = false:=by
  obtain ⟨e,fz,hg',hfz⟩:=hC
  have hlt:=(zMD.1 e1).1
  have:=hfz o hlt
  simp only [World.frozen?,hg',zOM,zM3]
  by_cases h : fz.1 ≤ o
  ·exact .inr fun h'=>this ⟨h,h'⟩
  ·exact .inl h
 rw [run_enter Tryz.func36 (by kernel_rfl) (by kernel_rfl)]
 refine (Go.Proofs.YtljipljfelkodaaGreatDoor.As.as_hit n ⟨g,o,none⟩ (.int .i64 old) w hg ht0 hf0).mono ?_
 rintro e w' ⟨rfl,rfl⟩
 refine ⟨_,rfl,M,I, ?_⟩
 obtain ⟨G1,S1⟩:=zGB hS (((((Below.refl w.heap.size w).alloc (zL0 _) (.cells #[.pointer (some ⟨g,o,none⟩)] 74)).alloc (by simp <;> omega) (.cells #[.pointer (some ⟨11,74,none⟩),.pointer (some ⟨w.heap.size,0,none⟩),.int .u64 150] 109)).alloc (by simp <;> omega) (.cells #[.pointer (some ⟨11,74,none⟩),.pointer (some ⟨w.heap.size,0,none⟩),.int .u64 150] 109)).alloc (by simp <;> omega) (.cells #[.int .i64 n] 39))
 obtain ⟨G2,S2⟩:=grow_setBox S1 hb hM (x:=.int .i64 n) (v:=.int .i64 n) (fun _=>.int _ _)
 exact ⟨G1.trans G2,S2,.bool true⟩
section
variable {C : CSpec} {GT : Nat → Option AV}
theorem told_nil_ev (H : Heap) : EFun C GT zG1 [.nili] H (.int .i64 0) H:=by
 refine zl rfl ?_; refine zG ?_
 exact sRr
theorem told_err_ev (hA : ∀ (n old : Int) (b : Nat) (H : Heap),H[b]? = some (.box [.int .i64 old]) → C zH3 [.iface zQ (.int .i64 n),.iface zGy (.ref b 0 0 0)] H (.bool true) (H.set b (.box [.int .i64 n])))
  (n : Int) (H : Heap) : EFun C GT zG1 [zGl n] H (.int .i64 n) H:=by
 refine zl rfl ?_; refine zF ?_
 have h:=hA n 0 H.length (H ++ [ABlk.box [.int .i64 0]]) zB
 refine zAc h (fun h=>by cases h) ?_; refine zG ?_; refine zD (.int .i64 n) (zE zB) rfl ?_
 exact zBW rfl rfl rfl rfl ((Old.refl H).pushSet _ _)
theorem same_ev (hT0 : ∀ H,C zC6 [.nili] H (.int .i64 0) H) (hT : ∀ n H,C zC6 [zGl n] H (.int .i64 n) H) (x : AV) (n e : Int) (hx : ErrIs x n) (H : Heap) : EFun C GT zGz [x,.int .i64 e] H (.bool (n == e)) H:=by
 rcases hx with ⟨rfl,rfl⟩ | rfl
 ·refine zL (hT0 H) ?_
  exact sRr
 ·refine zL (hT n H) ?_
  exact sRr
end
end Go.AM
