/- Several texts of mine in one (Fr7, Fm, ToldQ, Am24). Own work. -/
import Derived.Test.YtaohficjbicfgaaGreatDoorGFr5Fr6
import Derived.Test.YtaohficjbicfgaaGreatDoorGPreFr1
import Derived.Test.YtaohficjbicfgaaGreatDoorAsQ
import Derived.Test.YtaohficjbicfgaaGreatDoorQk
import Derived.Test.YtaohficjbicfgaaGreatDoorGAm23Am29
import Derived.WideShapes
set_option linter.all false
set_option maxRecDepth 20000
namespace Go.AM
theorem tw_bind {s : Bs} {l e d : Nat} (hl : l ≤ 3) (he : e ≤ s.length) (g : Nd → Nd) : (((P s).loose (l + 2) e d).bind fun q=>bl s ((P s).ll (l + 1) (g q.1) q.2 d)) = (twS s (l + 1) e d).bind fun q=>bl s ((P s).ll (l + 1) (g q.1) q.2 d):=by
 unfold twS
 by_cases h3 : l = 3
 ·subst h3
  rw [if_pos rfl,loose_top d he]
 ·rw [if_neg tO]
  cases h : (P s).loose (l + 2) e d with
  | none=>rfl
  | some q=>
   have:=(zBx s).loose _ e d q he h
   show bl s ((P s).ll (l + 1) (g q.1) q.2 d) = bl s ((P s).ll (l + 1) (g q.1) (skip s q.2) d)
   rw [ll_skip _ _ _ this.2]
theorem tw_ends {s : Bs} {l e d : Nat} (hl : l ≤ 3) (he : e ≤ s.length) {q : Nd × Nat} (h : twS s (l + 1) e d = some q) : (e < q.2 ∧ q.2 ≤ s.length) ∧ ∀ op e',zHs s q.2 = some (op,e') → tight op < l + 2:=by
 unfold twS at h
 by_cases h3 : l = 3
 ·subst h3
  rw [if_pos rfl] at h
  exact ⟨(zBx s).one e d q he h,fun op e' _=>by have:=(tight_le op).2; omega⟩
 ·rw [if_neg tO] at h
  unfold bl at h
  rw [Option.map_eq_some_iff] at h
  obtain ⟨q',h1,rfl⟩:=h
  have h2:=(zBx s).loose _ e d q' he h1
  have h4:=zEC s q'.2
  have h5:=zBX h2.2
  refine ⟨⟨by simp only; omega,h5⟩,fun op e' ho=>?_⟩
  simp only [zK7] at ho
  exact loose_exit _ d he h1 op e' ho
theorem tw_start {s : Bs} {l p d : Nat} (hl : l ≤ 3) (hp : p ≤ s.length) : twS s l p d = (twS s (l + 1) p d).bind fun q=>bl s ((P s).ll (l + 1) q.1 q.2 d):=by
 rw [← tw_bind hl hp (fun n=>n)]
 conv=>lhs; unfold twS
 rw [if_neg tO,loose_split (l + 1) d hp]
 cases (P s).loose (l + 2) p d <;> rfl
theorem ll_done {s : Bs} {l d a : Nat} {n : Nd} (ha : a ≤ s.length) (hx : ∀ op e,zHs s a = some (op,e) → tight op < l + 2) (hno : ∀ t,t ∈ sgn l → t.isPrefixOf (s.drop (skip s a)) = false) : bl s ((P s).ll (l + 1) n a d) = some (n,skip s a):=by
 rw [P_ll _ n d ha]
 unfold psLl
 cases h : zHs s a with
 | none=>rfl
 | some x=>
  obtain ⟨op,e⟩:=x
  have h1:=hx op e h
  have h2:=op_none (skip_at s a) hno (by rw [zK7]; exact h)
  simp only
  rw [if_pos tO]; rfl
theorem ll_more {s : Bs} {l d a i : Nat} {n : Nd} {t : Bs} (hl : l ≤ 3) (ha : a ≤ s.length) (ht : (sgn l)[i]? = some t) (hp : t.isPrefixOf (s.drop (skip s a)) = true) (hno : ∀ j u,j < i → (sgn l)[j]? = some u → u.isPrefixOf (s.drop (skip s a)) = false) :
  (skip s a + t.length ≤ s.length ∧ skip s a < skip s a + t.length) ∧ zA4 t ≠ 0 ∧ bl s ((P s).ll (l + 1) n a d) = (twS s (l + 1) (skip s a + t.length) d).bind fun q=>bl s ((P s).ll (l + 1) (zGs (zA4 t) n q.1) q.2 d):=by
 obtain ⟨h1,h2,h3⟩:=op_match ht hp hno
 have he:=zCf h1
 refine ⟨⟨he.2,he.1⟩,h3, ?_⟩
 rw [← ll_skip _ _ _ ha,P_ll _ n d (zBX ha)]
 unfold psLl
 rw [h1]
 simp only
 rw [if_neg tO,← tw_bind hl he.2 (fun m=>zGs (zA4 t) n m),h2]
 cases (P s).loose (l + 1 + 1) (skip s a + t.length) d <;> rfl
def ndX (n : Nd) (x : AV) : List AV:=[.int .i64 n.kind,.int .i64 n.num,.str n.text,.int .i64 n.ref.col,.int .i64 n.ref.row,.bool n.ref.fc,.bool n.ref.fr,.int .i64 n.to.col,.int .i64 n.to.row,.bool n.to.fc,.bool n.to.fr,x]
def NdO (H0 H : Heap) (n : Nd) (x : AV) : Prop:=x = .lst (some n.kq) n.kk (kxs n) ∨ ∃ op a c nb,n = zGs op a c ∧ x = .sl (some false) nb 12 0 2 ∧ H[nb]? = some (.row 12 [ndV a,ndV c]) ∧ H0.length ≤ nb
theorem NdO.keep {H0 H H' : Heap} {n : Nd} {x : AV} (h : NdO H0 H n x) (hk : ∀ (nb : Nat) (ys : List AV),H[nb]? = some (ABlk.row 12 ys) → H'[nb]? = some (ABlk.row 12 ys)) : NdO H0 H' n x:=by
 rcases h with h | ⟨op,a,c,nb,h1,h2,h3,h4⟩
 ·exact .inl h
 ·exact .inr ⟨op,a,c,nb,h1,h2,hk _ _ h3,h4⟩
theorem NdO.set {H0 H : Heap} {n : Nd} {x : AV} {b : Nat} {cs : List AV} (h : NdO H0 H n x) (hb : H[b]? = some (.box cs)) (y : ABlk) : NdO H0 (H.set b y) n x:=
 h.keep fun nb ys h1=>zA (fun e=>by subst e; rw [hb] at h1; cases h1) h1
theorem NdO.push {H0 H : Heap} {n : Nd} {x : AV} (h : NdO H0 H n x) (y : ABlk) : NdO H0 (H ++ [y]) n x:=h.keep fun nb ys h1=>zD h1
theorem NdO.one {H0 H : Heap} {n : Nd} {x : AV} (h : NdO H0 H n x) : (AV.agg (ndX n x)).cells.all AV.one = true:=by
 rcases h with rfl | ⟨op,a,c,nb,rfl,rfl,h3,h4⟩ <;> rfl
theorem NdO.frz {H0 H : Heap} {n : Nd} {x : AV} (h : NdO H0 H n x) (k : Nat) (hk : k ≤ H0.length) : ∃ H',zDo k (.agg (ndX n x)) H = some (ndV n,H') ∧ H'.length = H.length ∧ (∀ (c : Nat) (cs : List AV),H[c]? = some (ABlk.box cs) → H'[c]? = some (ABlk.box cs)) ∧ ∀ {b B},b < H0.length → Old (H0.set b B) H → Old (H0.set b B) H':=by
 rcases h with rfl | ⟨op,a,c,nb,rfl,rfl,h3,h4⟩
 ·exact ⟨H,rfl,rfl,fun _ _ h=>h,fun _ h=>h⟩
 ·refine ⟨H.set nb (.frz 12 [ndV a,ndV c]), ?_,List.length_set,fun c' cs hc=>zA (fun e=>by subst e; rw [h3] at hc; cases hc) hc,fun hb ho=>?_⟩
  ·have : ¬ nb < k:=by omega
   simp only [ndX,zDo,zIp,this,if_false,h3]
   simp [frzQ,ndV,ndC,zGs,Nd.kind,Nd.num,Nd.text,Nd.ref,Nd.to,Nd.kq,Nd.kk,kxs,kidL]
  ·exact ho.set (by rw [List.length_set]; exact h4) _
theorem zGu (k : Nat) (n : Nd) : (ndV n).bel k = true:=rfl
def looseV : AV:=.agg ((List.range 4).map fun l=>.lst (some false) 1 ((sgn l).map AV.str))
theorem loose_part {l o : Nat} (hl : l ≤ 3) (ho : o = l) : part looseV.cells o 1 false = some (.lst (some false) 1 ((sgn l).map AV.str)):=by
 subst ho
 rcases o with _ | _ | _ | _ | o
 ·rfl
 ·rfl
 ·rfl
 ·rfl
 ·omega
theorem sgn_len (l : Nat) : (sgn l).length ≤ 6:=by rcases l with _ | _ | _ | _ | l <;> simp [sgn]
theorem sOffG {GT : Nat → Option AV} {fr : Fr} {g o : Nat} {x : AV} {K : AV → Prop} (h : GT g = some x) (q : K (.lref x (0 + o))) : offN o (evF GT fr (.glob g)) K:=by
 have e : evF GT fr (.glob g) = .lref x 0:=by simp only [evF,h]
 rw [e]; exact q
structure T2St where
 m : Nat
 a : Nat
 n : Nd
 x : AV
structure L2St where
 i : Nat
 m : Nat
def two_r : AC:=match zDc with
 | .seq _ (.scope _ _ _ r)=>r
 | x=>x
def TwI (H : Heap) (b : Nat) (s : Bs) (d : Nat) (l : Nat) (r : Option (Nd × Nat)) (a : Nat) (n : Nd) (x : AV) (H1 : Heap) : Prop:=
 OldB H b (rdB s a d) H1 ∧ H1[b]? = some (rdB s a d) ∧ H1[H.length]? = some (.box (ndC zY)) ∧ H1[H.length + 1]? = some (.box (ndX n x)) ∧ NdO H H1 n x ∧ a ≤ s.length ∧ (∀ op e,zHs s a = some (op,e) → tight op < l + 2) ∧ bl s ((P s).ll (l + 1) n a d) = r
section
variable {C : CSpec} {GT : Nat → Option AV}
theorem two_ev (hB : ∀ b s p d H,H[b]? = some (rdB s p d) → p ≤ s.length → s.length ≤ 200 → C za [pR b] H (.tup []) (H.set b (rdB s (skip s p) d)))
  (hO : ∀ t H,zA4 t ≠ 0 → C zB0 [.str t] H (zJ (zA4 t)) H)
  (hX : ∀ s p H,C zAN [.str s,.str p] H (.bool (p.isPrefixOf s)) H)
  (hG : GT zDA = some looseV)
  (l b : Nat) (s : Bs) (p d : Nat) (H : Heap) (hb : H[b]? = some (rdB s p d)) (hp : p ≤ s.length) (hl : s.length ≤ 200) (hl4 : l ≤ 4)
  (hN : ∀ H',l = 4 → H'[b]? = some (rdB s p d) → CR C zAE [pR b] H' b s d ((P s).one p d))
  (hT : ∀ a H',l ≤ 3 → p ≤ a → a ≤ s.length → (a = p ∨ p < a) → H'[b]? = some (rdB s a d) → CR C zi [pR b,zJ (l + 1)] H' b s d (twS s (l + 1) a d)) :
  zBt C GT zBO [pR b,zJ l] H b (wkC s) zEf (mkR s d (twS s l p d)):=by
 have hbl : b < H.length:=(zg hb).1
 have hbk:=fun a d H' h1 h2=>hB b s a d H' h1 h2 hl
 clear hB
 refine z7 ?_
 by_cases h4 : l = 4
 ·subst h4
  have e1 : twS s 4 p d = (P s).one p d:=if_pos rfl
  rw [e1]
  generalize (P s).one p d = r at *
  have hn:=fun H'=>hN H' rfl
  clear hN hT hX hO hbk hG
  cases r with
  | none=>
   have hc:=fun H' h1=>(hn H' h1).2 rfl
   have e : mkR s d none = none:=rfl
   rw [e]
   clear hn
   refine zH ?_; refine zAS (hc _ hP) ?_
   exact zBm (by first | rfl | assumption) rfl rfl rfl (((OldB.start hb).push _).setB _) rfl (by first | exact WkL.refl _ | exact zFY _ _ _) (by first | exact Wk.refl _ | exact zBn _ _)
  | some q=>
   obtain ⟨n,e⟩:=q
   have hc:=fun H' h1=>(hn H' h1).1 n e rfl
   have e0 : mkR s d (some (n,e)) = some (ndV n,rdB s e d):=rfl
   rw [e0]
   clear hn
   refine zH ?_; refine zBY (hc _ hP) ?_; refine zF (v:=ndV n) (AV.cells (ndV n)) (zA tA zC) rfl rfl rfl rfl ?_
   exact zy (o:=0) (ndV n) (by first | rfl | assumption) rfl rfl (zL (zE (zA tA zC))) rfl rfl rfl ((((OldB.start hb).push _).setB _).set tA _) rfl
 have hl3 : l ≤ 3:=by omega
 have hT:=fun a H' h1 h2 h3 h4=>hT a H' hl3 h1 h2 h3 h4
 clear hN
 rw [tw_start hl3 hp]
 have ht0:=fun H' h1=>hT p H' (Nat.le_refl _) hp (.inl rfl) h1
 cases hr : twS s (l + 1) p d with
 | none=>
  rw [hr] at ht0
  have hc:=fun H' h1=>(ht0 H' h1).2 rfl
  have e : mkR s d (Option.bind none fun q : Nd × Nat=>bl s ((P s).ll (l + 1) q.1 q.2 d)) = none:=rfl
  rw [e]
  clear hbk hO hX hG hT ht0
  refine zN tN ?_; refine zM (r:=l + 1) rfl tO ?_; refine zAS (hc _ hP) ?_
  exact zBm (by first | rfl | assumption) rfl rfl rfl (((OldB.start hb).push _).setB _) rfl (by first | exact WkL.refl _ | exact zFY _ _ _) (by first | exact Wk.refl _ | exact zBn _ _)
 | some q0=>
 obtain ⟨n0,e0⟩:=q0
 have hq0:=tw_ends hl3 hp hr
 rw [hr] at ht0
 have hc0:=fun H' h1=>(ht0 H' h1).1 n0 e0 rfl
 clear ht0 hr
 obtain ⟨hq1,hq2⟩:=hq0
 simp only at hq1 hq2
 have e1 : (Option.bind (some (n0,e0)) fun q : Nd × Nat=>bl s ((P s).ll (l + 1) q.1 q.2 d)) = bl s ((P s).ll (l + 1) n0 e0 d):=rfl
 rw [e1]
 clear e1
 obtain ⟨r,hr⟩ : ∃ r,bl s ((P s).ll (l + 1) n0 e0 d) = r:=⟨_,rfl⟩
 rw [hr]
 have hZ : ∀ (X Y : ABlk),((H ++ [X]).set b Y).length = H.length + 1:=fun X Y=>by simp
 have hmk : ∀ st H1,st.m = H.length + 1 ∧ TwI H b s d l r st.a st.n st.x H1 → p < st.a →
   gotoP C GT [5,1,0,4] 0 two_r (zHI zBO H b (wkC s) zEf (mkR s d r)) ((fun st : T2St=>[(5,pR st.m),(1,zJ l),(0,pR b),(4,pR H.length)]) st) H1:=by
  intro st0 H1 hst hpa0
  refine sGoto (fun st : T2St=>[(5,pR st.m),(1,zJ l),(0,pR b),(4,pR H.length)]) (fun st H1=>(st.m = H.length + 1 ∧ TwI H b s d l r st.a st.n st.x H1) ∧ p < st.a) (fun st=>s.length - st.a) st0 rfl ⟨hst,hpa0⟩ (fun ⟨m,a,n,x⟩ H1 ⟨⟨hm,hob,hb1,h4,h5,hnd,hal,hx,hq⟩,hpa⟩=>?_)
  clear hst hpa0 st0 hc0 hr hb
  dsimp only at hm hob hb1 h4 h5 hnd hal hx hq hpa ⊢
  subst hm
  have hA1:=zEC s a
  have hA2:=zBX hal
  have h5l:=(zg h5).1
  have hbk1:=hbk a d H1 hb1 hal
  refine zm hbk1 (fun h=>by cases h) ?_; refine zFc ⟨by omega,by omega⟩ ?_; refine sOffG hG ?_; refine zz (.lst (some false) 1 ((sgn l).map AV.str)) (loose_part hl3 (by simp)) ?_; refine sLenL ?_; refine zBu (fun st : L2St=>[(5,pR st.m),(1,zJ l),(0,pR b),(4,pR H.length),(22,zJ st.i),(20,.lst (some false) 1 ((sgn l).map AV.str)),(21,.int .i64 ((sgn l).map AV.str).length)])
   (fun st H'=>st.m = H.length + 1 ∧ (OldB H b (rdB s (skip s a) d) H' ∧ H'[b]? = some (rdB s (skip s a) d) ∧ H'[H.length]? = some (.box (ndC zY)) ∧ H'[H.length + 1]? = some (.box (ndX n x)) ∧ NdO H H' n x) ∧ st.i ≤ (sgn l).length ∧ ∀ j u,j < st.i → (sgn l)[j]? = some u → u.isPrefixOf (s.drop (skip s a)) = false)
   (fun st=>(sgn l).length - st.i) ⟨0,H.length + 1⟩ rfl ⟨rfl,⟨hob.setB _,hP,hP,hP,hnd.set hb1 _⟩,Nat.zero_le _,fun j u h=>absurd h (Nat.not_lt_zero _)⟩ (fun ⟨i,m⟩ H2 ⟨hm,⟨hob2,hb2,h42,h52,hnd2⟩,hi,hno⟩=>?_)
  clear hob hb1 h4 h5 hnd h5l hbk1
  dsimp only at hm hi hno ⊢
  subst hm
  have h5l:=(zg h52).1
  have hlm : ((sgn l).map AV.str).length = (sgn l).length:=List.length_map _
  have hsg : (sgn l).length ≤ 6:=sgn_len l
  by_cases hlt : i < (sgn l).length
  ·obtain ⟨t,ht⟩ : ∃ t,(sgn l)[i]? = some t:=⟨_,List.getElem?_eq_getElem hlt⟩
   have htm : ((sgn l).map AV.str)[i]? = some (AV.str t):=by rw [List.getElem?_map,ht]; rfl
   have hsl : zBI none (.str s) (some (zJ (skip s a))) none = some (.str (s.drop (skip s a))):=zCl s _ hA2
   have hxx:=hX (s.drop (skip s a)) t H2
   cases hpre : t.isPrefixOf (s.drop (skip s a)) with
   | false=>
    rw [hpre] at hxx
    clear hT hbk hO hX
    refine zP tT ?_; refine sIdx rfl htm ?_; refine zz (AV.str t) rfl ?_; refine zB (AV.str s) hb2 rfl ?_; refine zB (zJ (skip s a)) hb2 rfl ?_; refine zU hsl ?_; refine zI (hxx) ?_; refine zG ?_; refine zM (r:=i + 1) rfl tO ?_; refine zAM (L2St.mk (i + 1) (H.length + 1)) rfl ⟨rfl,⟨hob2,hb2,h42,h52,hnd2⟩,by simp only; omega,fun j u hj hu=>?_⟩ (by simp only; omega)
    by_cases hji : j = i
    ·subst hji; rw [ht] at hu; cases hu; exact hpre
    ·exact hno j u (by simp only at hj; omega) hu
   | true=>
    rw [hpre] at hxx
    obtain ⟨⟨hm1,hm2⟩,hm3,hm4⟩:=ll_more (n:=n) (d:=d) hl3 hal ht hpre hno
    rw [hm4] at hq
    have hoo:=fun H'=>hO t H' hm3
    have htw:=fun H'=>hT (skip s a + t.length) H' tO hm1 (.inr tO)
    have hee:=fun q=>tw_ends (d:=d) (q:=q) hl3 hm1
    clear hT hbk hO hX hm4 hx
    have hpa2 : p < skip s a + t.length:=by omega
    generalize hA3 : skip s a + t.length = a2 at *
    generalize skip s a = a1 at *
    refine zP tT ?_; refine sIdx rfl htm ?_; refine zz (AV.str t) rfl ?_; refine zB (AV.str s) hb2 rfl ?_; refine zB (zJ a1) hb2 rfl ?_; refine zU hsl ?_; refine zI (hxx) ?_; refine zH ?_; refine zB (zJ a1) hb2 rfl ?_; refine zM (r:=a2) tO tO ?_; refine zF (v:=.int .i64 ↑a2) [AV.str s,.int .i64 ↑a2,zJ d] hb2 rfl rfl rfl rfl ?_; refine zI (hoo _) ?_; refine zM (r:=l + 1) rfl tO ?_
    cases hr2 : twS s (l + 1) a2 d with
    | none=>
     rw [hr2] at htw hq
     have hq : none = r:=hq
     subst hq
     have hc:=fun H' h1=>(htw H' h1).2 rfl
     clear htw hee
     have e0 : mkR s d none = none:=rfl
     rw [e0]
     refine zGU ?_ ?_
     ·refine zB (.agg (ndX n x)) hP rfl ?_; refine zAS (hc _ hP) ?_
      exact zBm (by first | rfl | assumption) rfl rfl rfl ((hob2.setB _).setB _) rfl (by first | exact WkL.refl _ | exact zFY _ _ _) (by first | exact Wk.refl _ | exact zBn _ _)
     ·refine zAS (hc _ hP) ?_
      exact zBm (by first | rfl | assumption) rfl rfl rfl ((hob2.setB _).setB _) rfl (by first | exact WkL.refl _ | exact zFY _ _ _) (by first | exact Wk.refl _ | exact zBn _ _)
    | some q2=>
     obtain ⟨n2,e2⟩:=q2
     have hee2:=hee _ hr2
     rw [hr2] at htw hq
     have hq : bl s ((P s).ll (l + 1) (zGs (zA4 t) n n2) e2 d) = r:=hq
     have hc:=fun H' h1=>(htw H' h1).1 n2 e2 rfl
     clear htw hee hr2
     obtain ⟨⟨hk1,hk2⟩,hk3⟩:=hee2
     simp only at hk1 hk2 hk3
     have hnd3:=(hnd2.set hb2 (rdB s a2 d)).set (b:=b) (cs:=[.str s,zJ a2,zJ d]) hP (rdB s e2 d)
     have hob3:=(hob2.setB (rdB s a2 d)).setB (rdB s e2 d)
     have hb3 : ((H2.set b (rdB s a2 d)).set b (rdB s e2 d))[b]? = some (rdB s e2 d):=hP
     have h43 : ((H2.set b (rdB s a2 d)).set b (rdB s e2 d))[H.length]? = some (.box (ndC zY)):=hP
     have h53 : ((H2.set b (rdB s a2 d)).set b (rdB s e2 d))[H.length + 1]? = some (.box (ndX n x)):=hP
     obtain ⟨H4,hz,hl4',hbx,hol⟩:=hnd3.frz 0 (Nat.zero_le _)
     have hz2 : zIp 0 [.agg (ndX n x),ndV n2] ((H2.set b (rdB s a2 d)).set b (rdB s e2 d)) = some ([ndV n,ndV n2],H4):=zE8 hz rfl
     have hob4 : OldB H b (rdB s e2 d) H4:=⟨hbl,hol hbl hob3.old⟩
     have hb4:=hbx _ _ hb3
     have h44:=hbx _ _ h43
     have h54:=hbx _ _ h53
     have h44l:=(zg h54).1
     clear hbx hol hz hnd3 hnd2 hob2
     refine zGU ?_ ?_
     ·refine zB (.agg (ndX n x)) hP rfl ?_; refine zBY (hc _ hP) ?_; refine zET [ndV n,ndV n2] H4 hz2 rfl ?_; refine zU (v:=[.int .i64 8,zJ (zA4 t),AV.str [],.int .i64 0,.int .i64 0,AV.bool false,AV.bool false,.int .i64 0,.int .i64 0,AV.bool false,AV.bool false,AV.sl (some false) (List.length H4) 12 0 [ndV n,ndV n2].length]) rfl ?_; refine zF (v:=.agg (ndX (zGs (zA4 t) n n2) (.sl (some false) H4.length 12 0 2))) (ndX (zGs (zA4 t) n n2) (.sl (some false) H4.length 12 0 2)) hP rfl rfl rfl rfl ?_
      refine ⟨rfl,zAM (T2St.mk (H.length + 1) e2 (zGs (zA4 t) n n2) (.sl (some false) H4.length 12 0 2)) rfl ⟨⟨rfl,⟨(hob4.push _).set tO _,hP,hP,hP,.inr ⟨zA4 t,n,n2,H4.length,rfl,rfl,hP,by omega⟩,hk2,hk3,hq⟩⟩,by simp only; omega⟩ (by simp only; omega)⟩
     ·refine zBY (hc _ hP) ?_; refine zB (.agg (ndX n x)) hP rfl ?_; refine zET [ndV n,ndV n2] H4 hz2 rfl ?_; refine zU (v:=[.int .i64 8,zJ (zA4 t),AV.str [],.int .i64 0,.int .i64 0,AV.bool false,AV.bool false,.int .i64 0,.int .i64 0,AV.bool false,AV.bool false,AV.sl (some false) (List.length H4) 12 0 [ndV n,ndV n2].length]) rfl ?_; refine zF (v:=.agg (ndX (zGs (zA4 t) n n2) (.sl (some false) H4.length 12 0 2))) (ndX (zGs (zA4 t) n n2) (.sl (some false) H4.length 12 0 2)) hP rfl rfl rfl rfl ?_
      refine ⟨rfl,zAM (T2St.mk (H.length + 1) e2 (zGs (zA4 t) n n2) (.sl (some false) H4.length 12 0 2)) rfl ⟨⟨rfl,⟨(hob4.push _).set tO _,hP,hP,hP,.inr ⟨zA4 t,n,n2,H4.length,rfl,rfl,hP,by omega⟩,hk2,hk3,hq⟩⟩,by simp only; omega⟩ (by simp only; omega)⟩
  ·have hdone : bl s ((P s).ll (l + 1) n a d) = some (n,skip s a):=ll_done hal hx fun t ht=>by
    obtain ⟨j,hj⟩:=List.getElem?_of_mem ht
    exact hno j t (by have:=(zg hj).1; omega) hj
   rw [hdone] at hq
   subst hq
   have e0 : mkR s d (some (n,skip s a)) = some (ndV n,rdB s (skip s a) d):=rfl
   rw [e0]
   clear hT hbk hO hX hdone
   generalize skip s a = a1 at *
   refine zN tF ?_; refine zB (.agg (ndX n x)) hP rfl ?_; refine zF (v:=.agg (ndX n x)) (ndX n x) hP rfl hnd2.one rfl rfl ?_
   obtain ⟨H4,hz,hl4',hbx,hol⟩:=(hnd2.set h42 (.box (ndX n x))).frz H.length (Nat.le_refl _)
   have hob3:=hob2.set (c:=H.length) (Nat.le_refl _) (.box (ndX n x))
   exact zy (o:=0) (.agg (ndX n x)) rfl rfl rfl (zL hP) rfl hz (zGu _ _) ⟨hbl,hol hbl hob3.old⟩ rfl
 generalize n0 = n at *
 generalize e0 = a at *
 have hal:=hq1.2
 have hx:=hq2
 have hq:=hr
 obtain ⟨x,hxe⟩ : ∃ x,x = AV.lst (some n.kq) n.kk (kxs n):=⟨_,rfl⟩
 have hA1:=zEC s a
 have hA2:=zBX hal
 refine zN tN ?_; refine zM (r:=l + 1) rfl tO ?_; refine zBY (hc0 _ hP) ?_; refine zF (v:=ndV n) (AV.cells (ndV n)) zC rfl rfl rfl rfl ?_; refine zm (hbk a d _ hP hal) (fun h=>by cases h) ?_; refine zFc ⟨by omega,by omega⟩ ?_; refine sOffG hG ?_; refine zz (.lst (some false) 1 ((sgn l).map AV.str)) (loose_part hl3 (by simp)) ?_; refine sLenL ?_; refine zBu (fun st : L2St=>[(5,pR st.m),(1,zJ l),(0,pR b),(4,pR H.length),(22,zJ st.i),(20,.lst (some false) 1 ((sgn l).map AV.str)),(21,.int .i64 ((sgn l).map AV.str).length)])
  (fun st H'=>st.m = H.length + 1 ∧ (OldB H b (rdB s (skip s a) d) H' ∧ H'[b]? = some (rdB s (skip s a) d) ∧ H'[H.length]? = some (.box (ndC zY)) ∧ H'[H.length + 1]? = some (.box (ndX n x)) ∧ NdO H H' n x) ∧ st.i ≤ (sgn l).length ∧ ∀ j u,j < st.i → (sgn l)[j]? = some u → u.isPrefixOf (s.drop (skip s a)) = false)
  (fun st=>(sgn l).length - st.i) ⟨0,_⟩ rfl ⟨hZ _ _,⟨((((((OldB.start hb).push _).setB _).push _).set (by simp) _).setB _),hP,hP,by rw [hxe,← hZ (.box (ndC zY)) (rdB s a d)]; exact hP,.inl hxe⟩,Nat.zero_le _,fun j u h=>absurd h (Nat.not_lt_zero _)⟩ (fun ⟨i,m⟩ H2 ⟨hm,⟨hob2,hb2,h42,h52,hnd2⟩,hi,hno⟩=>?_)
 clear hb
 dsimp only at hm hi hno ⊢
 subst hm
 have h5l:=(zg h52).1
 have hlm : ((sgn l).map AV.str).length = (sgn l).length:=List.length_map _
 have hsg : (sgn l).length ≤ 6:=sgn_len l
 by_cases hlt : i < (sgn l).length
 ·obtain ⟨t,ht⟩ : ∃ t,(sgn l)[i]? = some t:=⟨_,List.getElem?_eq_getElem hlt⟩
  have htm : ((sgn l).map AV.str)[i]? = some (AV.str t):=by rw [List.getElem?_map,ht]; rfl
  have hsl : zBI none (.str s) (some (zJ (skip s a))) none = some (.str (s.drop (skip s a))):=zCl s _ hA2
  have hxx:=hX (s.drop (skip s a)) t H2
  cases hpre : t.isPrefixOf (s.drop (skip s a)) with
  | false=>
   rw [hpre] at hxx
   clear hT hbk hO hX hc0
   refine zP tT ?_; refine sIdx rfl htm ?_; refine zz (AV.str t) rfl ?_; refine zB (AV.str s) hb2 rfl ?_; refine zB (zJ (skip s a)) hb2 rfl ?_; refine zU hsl ?_; refine zI (hxx) ?_; refine zG ?_; refine zM (r:=i + 1) rfl tO ?_; refine zAM (L2St.mk (i + 1) (H.length + 1)) rfl ⟨rfl,⟨hob2,hb2,h42,h52,hnd2⟩,by simp only; omega,fun j u hj hu=>?_⟩ (by simp only; omega)
   by_cases hji : j = i
   ·subst hji; rw [ht] at hu; cases hu; exact hpre
   ·exact hno j u (by simp only at hj; omega) hu
  | true=>
   rw [hpre] at hxx
   obtain ⟨⟨hm1,hm2⟩,hm3,hm4⟩:=ll_more (n:=n) (d:=d) hl3 hal ht hpre hno
   rw [hm4] at hq
   have hoo:=fun H'=>hO t H' hm3
   have htw:=fun H'=>hT (skip s a + t.length) H' tO hm1 (.inr tO)
   have hee:=fun q=>tw_ends (d:=d) (q:=q) hl3 hm1
   clear hT hbk hO hX hm4 hx hc0
   have hpa2 : p < skip s a + t.length:=by omega
   generalize hA3 : skip s a + t.length = a2 at *
   generalize skip s a = a1 at *
   refine zP tT ?_; refine sIdx rfl htm ?_; refine zz (AV.str t) rfl ?_; refine zB (AV.str s) hb2 rfl ?_; refine zB (zJ a1) hb2 rfl ?_; refine zU hsl ?_; refine zI (hxx) ?_; refine zH ?_; refine zB (zJ a1) hb2 rfl ?_; refine zM (r:=a2) tO tO ?_; refine zF (v:=.int .i64 ↑a2) [AV.str s,.int .i64 ↑a2,zJ d] hb2 rfl rfl rfl rfl ?_; refine zI (hoo _) ?_; refine zM (r:=l + 1) rfl tO ?_
   cases hr2 : twS s (l + 1) a2 d with
   | none=>
    rw [hr2] at htw hq
    have hq : none = r:=hq
    subst hq
    have hc:=fun H' h1=>(htw H' h1).2 rfl
    clear htw hee
    have e0 : mkR s d none = none:=rfl
    rw [e0]
    refine zGU ?_ ?_
    ·refine zB (.agg (ndX n x)) hP rfl ?_; refine zAS (hc _ hP) ?_
     exact zBm (by first | rfl | assumption) rfl rfl rfl ((hob2.setB _).setB _) rfl (by first | exact WkL.refl _ | exact zFY _ _ _) (by first | exact Wk.refl _ | exact zBn _ _)
    ·refine zAS (hc _ hP) ?_
     exact zBm (by first | rfl | assumption) rfl rfl rfl ((hob2.setB _).setB _) rfl (by first | exact WkL.refl _ | exact zFY _ _ _) (by first | exact Wk.refl _ | exact zBn _ _)
   | some q2=>
    obtain ⟨n2,e2⟩:=q2
    have hee2:=hee _ hr2
    rw [hr2] at htw hq
    have hq : bl s ((P s).ll (l + 1) (zGs (zA4 t) n n2) e2 d) = r:=hq
    have hc:=fun H' h1=>(htw H' h1).1 n2 e2 rfl
    clear htw hee hr2
    obtain ⟨⟨hk1,hk2⟩,hk3⟩:=hee2
    simp only at hk1 hk2 hk3
    have hnd3:=(hnd2.set hb2 (rdB s a2 d)).set (b:=b) (cs:=[.str s,zJ a2,zJ d]) hP (rdB s e2 d)
    have hob3:=(hob2.setB (rdB s a2 d)).setB (rdB s e2 d)
    have hb3 : ((H2.set b (rdB s a2 d)).set b (rdB s e2 d))[b]? = some (rdB s e2 d):=hP
    have h43 : ((H2.set b (rdB s a2 d)).set b (rdB s e2 d))[H.length]? = some (.box (ndC zY)):=hP
    have h53 : ((H2.set b (rdB s a2 d)).set b (rdB s e2 d))[H.length + 1]? = some (.box (ndX n x)):=hP
    obtain ⟨H4,hz,hl4',hbx,hol⟩:=hnd3.frz 0 (Nat.zero_le _)
    have hz2 : zIp 0 [.agg (ndX n x),ndV n2] ((H2.set b (rdB s a2 d)).set b (rdB s e2 d)) = some ([ndV n,ndV n2],H4):=zE8 hz rfl
    have hob4 : OldB H b (rdB s e2 d) H4:=⟨hbl,hol hbl hob3.old⟩
    have hb4:=hbx _ _ hb3
    have h44:=hbx _ _ h43
    have h54:=hbx _ _ h53
    have h44l:=(zg h54).1
    clear hbx hol hz hnd3 hnd2 hob2
    refine zGU ?_ ?_
    ·refine zB (.agg (ndX n x)) hP rfl ?_; refine zBY (hc _ hP) ?_; refine zET [ndV n,ndV n2] H4 hz2 rfl ?_; refine zU (v:=[.int .i64 8,zJ (zA4 t),AV.str [],.int .i64 0,.int .i64 0,AV.bool false,AV.bool false,.int .i64 0,.int .i64 0,AV.bool false,AV.bool false,AV.sl (some false) (List.length H4) 12 0 [ndV n,ndV n2].length]) rfl ?_; refine zF (v:=.agg (ndX (zGs (zA4 t) n n2) (.sl (some false) H4.length 12 0 2))) (ndX (zGs (zA4 t) n n2) (.sl (some false) H4.length 12 0 2)) hP rfl rfl rfl rfl ?_
     exact ⟨rfl,hmk ⟨H.length + 1,e2,zGs (zA4 t) n n2,.sl (some false) H4.length 12 0 2⟩ _ ⟨rfl,⟨(hob4.push _).set tO _,hP,hP,hP,.inr ⟨zA4 t,n,n2,H4.length,rfl,rfl,hP,by omega⟩,hk2,hk3,hq⟩⟩ (by simp only; omega)⟩
    ·refine zBY (hc _ hP) ?_; refine zB (.agg (ndX n x)) hP rfl ?_; refine zET [ndV n,ndV n2] H4 hz2 rfl ?_; refine zU (v:=[.int .i64 8,zJ (zA4 t),AV.str [],.int .i64 0,.int .i64 0,AV.bool false,AV.bool false,.int .i64 0,.int .i64 0,AV.bool false,AV.bool false,AV.sl (some false) (List.length H4) 12 0 [ndV n,ndV n2].length]) rfl ?_; refine zF (v:=.agg (ndX (zGs (zA4 t) n n2) (.sl (some false) H4.length 12 0 2))) (ndX (zGs (zA4 t) n n2) (.sl (some false) H4.length 12 0 2)) hP rfl rfl rfl rfl ?_
     exact ⟨rfl,hmk ⟨H.length + 1,e2,zGs (zA4 t) n n2,.sl (some false) H4.length 12 0 2⟩ _ ⟨rfl,⟨(hob4.push _).set tO _,hP,hP,hP,.inr ⟨zA4 t,n,n2,H4.length,rfl,rfl,hP,by omega⟩,hk2,hk3,hq⟩⟩ (by simp only; omega)⟩
 ·have hdone : bl s ((P s).ll (l + 1) n a d) = some (n,skip s a):=ll_done hal hx fun t ht=>by
   obtain ⟨j,hj⟩:=List.getElem?_of_mem ht
   exact hno j t (by have:=(zg hj).1; omega) hj
  rw [hdone] at hq
  subst hq
  have e0 : mkR s d (some (n,skip s a)) = some (ndV n,rdB s (skip s a) d):=rfl
  rw [e0]
  clear hT hbk hO hX hdone hc0
  generalize skip s a = a1 at *
  refine zN tF ?_; refine zB (.agg (ndX n x)) hP rfl ?_; refine zF (v:=.agg (ndX n x)) (ndX n x) hP rfl hnd2.one rfl rfl ?_
  obtain ⟨H4,hz,hl4',hbx,hol⟩:=(hnd2.set h42 (.box (ndX n x))).frz H.length (Nat.le_refl _)
  have hob3:=hob2.set (c:=H.length) (Nat.le_refl _) (.box (ndX n x))
  exact zy (o:=0) (.agg (ndX n x)) rfl rfl rfl (zL hP) rfl hz (zGu _ _) ⟨hbl,hol hbl hob3.old⟩ rfl
end
end Go.AM
set_option maxRecDepth 20000
namespace Go.AM
structure ParK (PR : Program) : Prop where
 hm : PR.follows .mixedOrders = true
 contains : zAC PR zo zAt = true
 mkSet : zAC PR zAn zB6 = true
 trimR : zAC PR zAW zBk = true
 trimL : zAC PR zAf zBs = true
 trim : zAC PR zBU zEv = true
 slPre : zAC PR zAF zBr = true
 pre : zAC PR zAN zCo = true
 slTrim : zAC PR zAX zBl = true
 trimP : zAC PR zAh zCX = true
 wrong : zAC PR zC7 zFo = true
 is : zAC PR zCu zJA = true
 whole : zAC PR zBq zFp = true
 lit : zAC PR zAG zD8 = true
 ref : zAC PR zAu zJB = true
 dollar : zAC PR zC8 zFr = true
 wordly : zAC PR zAO zCk = true
 called : zAC PR zBG zDi = true
 plain : zAC PR zAR zD9 = true
 opOf : zAC PR zB0 zEr = true
 fail : zAC PR zX zB2 = true
 blanks : zAC PR za zBg = true
 word : zAC PR zq zB5 = true
 want : zAC PR zr zB3 = true
 within : zAC PR zn zBh = true
 text : zAC PR zAm zB4 = true
 neg : zAC PR zAE zCM = true
 negc : zAC PR zAV zBi = true
 prim : zAC PR zAl zt = true
 prim1 : zAC PR zAK zBV = true
 prim2 : zAC PR zAA zBW = true
 call : zAC PR zBA zBB = true
 argument : zAC PR zAk zBC = true
 two : zAC PR zi zBO = true
structure ParG (PR : Program) (GT : Nat → Option AV) : Prop where
 atoi : ∀ s H,zCs s → zCz (zJz s) → s.length ≤ 1000 → Good PR GT zAq [.str s] H (.tup [zK (zJz s),.nili]) H
 atoi2 : ∀ s H,zCs s → ¬ zCz (zJz s) → s.length ≤ 1000 → ∃ n t,Good PR GT zAq [.str s] H (.tup [zK n,.iface t .undef]) H
 texts : GT zFh = some textsV
 loose : GT zDA = some looseV
section
variable {PR : Program} {GT : Nat → Option AV}
theorem zLA (hm : PR.follows .mixedOrders = true) {f : Nat} {F : AF} {args : List AV} {H : Heap} {b : Nat} {s : Bs} {d : Nat} {r : Option (Nd × Nat)} (hc : zAC PR f F = true) (h : zBt (Good PR GT) GT F args H b (wkC s) zEf (mkR s d r)) (hn : zHa args = true:=by rfl) : CR (Good PR GT) f args H b s d r:=
 have h:=zAT hm hc h hn
 ⟨fun n e hr=>h.1 _ _ (by subst hr; rfl),fun hr=>h.2 (by subst hr; rfl)⟩
theorem p_contains (k : ParK PR) (b : Nat) (g : Nat → Bool) (c : UInt8) (H : Heap) (hb : H[b]? = some (.box (zHJ g))) : Good PR GT zo [pR b,byV c] H (.bool (g c.toNat)) H:=zO k.hm k.contains (contains_ev b g c H hb)
theorem p_mkSet (k : ParK PR) (cs : Bs) (H : Heap) (hcs : ∀ c ∈ cs,c.toNat < 128) (hl : cs.length ≤ 1000) : Good PR GT zAn [.str cs] H (.tup [.agg (zHJ (zGV cs)),.bool true]) H:=zO k.hm k.mkSet (mkSet_ev cs H hcs hl)
theorem p_trimR (k : ParK PR) (s cs : Bs) (b : Nat) (H : Heap) (hb : H[b]? = some (.box (zHJ (zGV cs)))) (hl : s.length ≤ 1000) : Good PR GT zAW [.str s,pR b] H (.str (zJy s cs)) H:=zO k.hm k.trimR (trimR_ev (p_contains k) s cs b H hb hl)
theorem p_trimL (k : ParK PR) (s cs : Bs) (b : Nat) (H : Heap) (hb : H[b]? = some (.box (zHJ (zGV cs)))) (hl : s.length ≤ 1000) : Good PR GT zAf [.str s,pR b] H (.str (s.dropWhile fun c=>zGV cs c.toNat)) H:=zO k.hm k.trimL (trimL_ev (p_contains k) s cs b H hb hl)
theorem p_trim (k : ParK PR) (s cs : Bs) (H : Heap) (hcs : ∀ c ∈ cs,c.toNat < 128) (hc2 : 2 ≤ cs.length) (hcl : cs.length ≤ 1000) (hl : s.length ≤ 1000) : Good PR GT zBU [.str s,.str cs] H (.str (trimS s cs)) H:=zO k.hm k.trim (trim_ev' (p_mkSet k) (p_trimR k) (p_trimL k) s cs H hcs hc2 hcl hl)
theorem p_slPre (k : ParK PR) (s p : Bs) (H : Heap) : Good PR GT zAF [.str s,.str p] H (.bool (p.isPrefixOf s)) H:=zO k.hm k.slPre (sl_prefix_ev s p H)
theorem p_pre (k : ParK PR) (s p : Bs) (H : Heap) : Good PR GT zAN [.str s,.str p] H (.bool (p.isPrefixOf s)) H:=zO k.hm k.pre (prefix_ev (p_slPre k) s p H)
theorem p_slTrim (k : ParK PR) (s p : Bs) (H : Heap) : Good PR GT zAX [.str s,.str p] H (.str (if p.isPrefixOf s = true then s.drop p.length else s)) H:=zO k.hm k.slTrim (zJ0 (p_slPre k) s p H)
theorem p_trimP (k : ParK PR) (s p : Bs) (H : Heap) : Good PR GT zAh [.str s,.str p] H (.str (if p.isPrefixOf s = true then s.drop p.length else s)) H:=zO k.hm k.trimP (trimPrefix_ev (p_slTrim k) s p H)
theorem p_minus (k : ParK PR) (s : Bs) (H : Heap) : Good PR GT zAh [.str s,.str [45]] H (.str (zCV s).2) H:=by
 have h:=p_trimP (GT:=GT) k s [45] H
 have e : (if ([45] : Bs).isPrefixOf s = true then s.drop ([45] : Bs).length else s) = (zCV s).2:=by
  cases s with
  | nil=>rfl
  | cons c r=>
   unfold zCV
   by_cases hc : c = 45
   ·subst hc; rfl
   ·have h1 : ([45] : Bs).isPrefixOf (c :: r) = false:=by
     simp only [List.isPrefixOf,Bool.and_true]
     exact tN (fun e=>hc e.symm)
    rw [h1]; simp only [if_neg hc]; rfl
 rw [e] at h; exact h
theorem p_wrong (k : ParK PR) (n : Int) (H : Heap) : Good PR GT zC7 [zK n] H (v3 4 n) H:=zO k.hm k.wrong (wrong_ev n H)
theorem p_is (k : ParK PR) (b : Bool) (H : Heap) : Good PR GT zCu [.bool b] H (v3 3 (if b = true then 1 else 0)) H:=zO k.hm k.is (is_ev b H)
theorem p_called (k : ParK PR) (s : Bs) (H : Heap) (hl : s.length ≤ 1000) : Good PR GT zBG [.str s] H (.bool (zBD s)) H:=zO k.hm k.called (called_ev (p_trim k) s H hl)
theorem p_dollar (k : ParK PR) (b : Nat) (t : Bs) (H : Heap) (hb : H[b]? = some (.box [.str t])) : Good PR GT zC8 [pR b] H (.bool (dollar t).1) (H.set b (.box [.str (dollar t).2])):=(zAT k.hm k.dollar (dollar_ev b t H hb .undef)).1 _ _ rfl
theorem p_ref (k : ParK PR) (s : Bs) (H : Heap) (hl : s.length ≤ 1000) : Good PR GT zAu [.str s] H (refV (zCa s)) H:=zO k.hm k.ref (ref_ev (p_dollar k) s H hl)
theorem p_whole (k : ParK PR) (g : ParG PR GT) (s : Bs) (H : Heap) (hl : s.length ≤ 1000) : ∃ n0,Good PR GT zBq [.str s] H (wholeV (wholeS s) n0) H:=by
 obtain ⟨n0,h⟩:=whole_ev (p_trim k) (p_minus k) g.atoi g.atoi2 s H hl
 exact ⟨n0,zO k.hm k.whole h⟩
theorem p_lit (k : ParK PR) (g : ParG PR GT) (s : Bs) (H : Heap) : Good PR GT zAG [.str s] H (litV (litP s)) H:=zO k.hm k.lit (literal_ev g.texts (p_is k) (p_wrong k) s H)
theorem zIk (k : ParK PR) (c : UInt8) (H : Heap) : Good PR GT zAO [byV c] H (.bool (zu c)) H:=zO k.hm k.wordly (fwordly_ev c H)
theorem zHT (k : ParK PR) (b : Nat) (s : Bs) (p d : Nat) (a e : Int) (H : Heap) (hb : H[b]? = some (rdB s p d)) : Good PR GT zX (.pan .undef :: [pR b,.int .i64 a,zF7 e]) H zEf (H.set b (.box (wkC s))):=(zAT k.hm k.fail (ffail_ev b s p d a e H hb)).2 rfl
theorem zF0 (k : ParK PR) (b : Nat) (s : Bs) (p d : Nat) (H : Heap) (hb : H[b]? = some (rdB s p d)) (hp : p ≤ s.length) (hl : s.length ≤ 200) : Good PR GT za [pR b] H (.tup []) (H.set b (rdB s (skip s p) d)):=(zAT k.hm k.blanks (blanks_ev b s p d H hb hp hl)).1 _ _ rfl
theorem p_word (k : ParK PR) (b : Nat) (s : Bs) (p d : Nat) (H : Heap) (hb : H[b]? = some (rdB s p d)) (hp : p ≤ s.length) (hl : s.length ≤ 200) : Good PR GT zq [pR b] H (.str (sub s p (zB1 s p))) (H.set b (rdB s (zB1 s p) d)):=(zAT k.hm k.word (word_ev (zIk k) b s p d H hb hp hl)).1 _ _ rfl
theorem p_opOf (k : ParK PR) (t : Bs) (H : Heap) (h : zA4 t ≠ 0) : Good PR GT zB0 [.str t] H (zJ (zA4 t)) H:=zO k.hm k.opOf (opOf_ev t H h)
theorem p_want (k : ParK PR) (c : UInt8) (b : Nat) (s : Bs) (p d : Nat) (H : Heap) (hb : H[b]? = some (rdB s p d)) (hp : p ≤ s.length) (hl : s.length ≤ 200) :
  (s[skip s p]? = some c → Good PR GT zr [pR b,byV c] H (.tup []) (H.set b (rdB s (skip s p + 1) d))) ∧ (s[skip s p]? ≠ some c → Good PR GT zr (.pan .undef :: [pR b,byV c]) H zEf (H.set b (.box (wkC s)))):=
 have h:=zAT k.hm k.want (want_ev (C:=Good PR GT) (GT:=GT) (zF0 k) (zHT k) c b s p d H hb hp hl)
 ⟨fun hc=>h.1 _ _ (if_pos hc),fun hc=>h.2 (if_neg hc)⟩
theorem p_within (k : ParK PR) (f : Nat) (caps : List AV) (a : Int) (b : Nat) (s : Bs) (p d : Nat) (H : Heap) (r : Option (Nd × Nat)) (hb : H[b]? = some (rdB s p d)) (hd : d ≤ 1000)
  (hC : ∀ H',H'[b]? = some (rdB s p (d + 1)) → Off H b H' → CR (Good PR GT) f caps H' b s (d + 1) r) : CR (Good PR GT) zn [pR b,.int .i64 a,.fn f [] caps] H b s d (if d = 30 then none else r):=
 zLA k.hm k.within (within_ev (zHT k) f caps a b s p d H hb hd r hC)
theorem p_text (k : ParK PR) (b : Nat) (s : Bs) (p d : Nat) (H : Heap) (hb : H[b]? = some (rdB s p d)) (hp : p < s.length) (hl : s.length ≤ 200) : CR (Good PR GT) zAm [pR b] H b s d ((quo (s.drop (p + 1)) (p + 1)).map fun q=>(txtN q.1,q.2)):=
 zLA k.hm k.text (text_ev (zHT k) b s p d H hb hp hl)
theorem p_plain (k : ParK PR) (g : ParG PR GT) (t : Bs) (H : Heap) (hl : t.length ≤ 1000) (h45 : t.head? ≠ some 45) (h35 : t.head? ≠ some 35) : Good PR GT zAR [.str t] H (zIh (zK4 t)) H:=zO k.hm k.plain (plain_ev (p_whole k g) (p_lit k g) (p_ref k) t H hl h45 h35)
theorem p_prim (k : ParK PR) (g : ParG PR GT) (b : Nat) (s : Bs) (p d : Nat) (H : Heap) (hb : H[b]? = some (rdB s p d)) (hp : p ≤ s.length) (hl : s.length ≤ 200) (hd : d ≤ 1000) (h32 : s[p]? ≠ some 32) (h45 : s[p]? ≠ some 45)
  (hPa : s[p]? = some 40 → ∀ H' rb,H'[b]? = some (rdB s p (d + 1)) → H'[rb]? = some (.box [pR b]) → CR (Good PR GT) zAK [pR rb] H' b s (d + 1) (parS s p (d + 1)))
  (hCl : ∀ e t,s[e]? = some 40 → p < e → ∀ H' rb sb,H'[b]? = some (rdB s e (d + 1)) → H'[rb]? = some (.box [pR b]) → H'[sb]? = some (.box [.str t]) → CR (Good PR GT) zAA [pR rb,pR sb] H' b s (d + 1) (zGQ s t e (d + 1))) :
  CR (Good PR GT) zAl [pR b] H b s d (zBw s (P s) p d):=by
 refine zLA k.hm k.prim ?_
 by_cases hlt : p < s.length
 ·obtain ⟨c,hc⟩ : ∃ c,s[p]? = some c:=⟨_,List.getElem?_eq_getElem hlt⟩
  by_cases h40 : c = 40
  ·subst h40; exact prim_par (p_within k) b s p d H hb hp hl hd hc hPa
  by_cases h34 : c = 34
  ·subst h34; exact prim_txt (p_text k) b s p d H hb hp hl hd hc
  by_cases h35 : c = 35
  ·subst h35; exact prim_bad (zHT k) (p_lit k g) b s p d H hb hp hl hd hc
  by_cases hw : zu c = true
  ·by_cases h41 : s[zB1 s p]? = some 40
   ·by_cases hcd : zBD (sub s p (zB1 s p)) = true
    ·exact prim_call (zIk k) (p_word k) (p_called k) (p_within k) b s p d H hb hp hl hd c hc hw h41 hcd hCl
    ·exact prim_plain1 (zHT k) (zIk k) (p_word k) (p_called k) (p_plain k g) b s p d H hb hp hl hd c hc hw h41 hcd
   ·exact prim_plain2 (zHT k) (zIk k) (p_word k) (p_plain k g) b s p d H hb hp hl hd c hc hw h41
  ·exact prim_else (zHT k) (zIk k) b s p d H hb hp hl hd c hc h32 h45 h40 h34 h35 hw
 ·exact prim_fin (zHT k) b s p d H hb hp hl hd hlt
theorem tw_zero (s : Bs) (p d : Nat) : twS s 0 p d = bl s ((P s).loose 1 p d):=if_neg (by decide)
theorem p_two (k : ParK PR) (g : ParG PR GT) (b : Nat) (s : Bs) (hl : s.length ≤ 200) : ∀ n p,p ≤ s.length → s.length - p = n → ∀ d H,d + (s.length - p) ≤ 500 → H[b]? = some (rdB s p d) →
  CR (Good PR GT) zAE [pR b] H b s d ((P s).one p d) ∧ ∀ l,l ≤ 4 → CR (Good PR GT) zi [pR b,zJ l] H b s d (twS s l p d):=by
 intro n
 induction n using Nat.strongRecOn with
 | _ n ih=>
  intro p hp hn d H hd hb
  have ih':=fun p' (h1 : p < p') (h2 : p' ≤ s.length) d' H' h3 h4=>ih (s.length - p') tO p' h2 rfl d' H' h3 h4
  clear ih
  have h0 : ∀ p',p < p' → p' ≤ s.length → ∀ d' H',d' + (s.length - p') ≤ 500 → H'[b]? = some (rdB s p' d') → CR (Good PR GT) zi [pR b,zK 0] H' b s d' (bl s ((P s).loose 1 p' d')):=fun p' h1 h2 d' H' h3 h4=>by
   have:=(ih' p' h1 h2 d' H' h3 h4).2 0 tO
   rw [tw_zero] at this
   exact this
  have hneg : ∀ H,H[b]? = some (rdB s p d) → CR (Good PR GT) zAE [pR b] H b s d ((P s).one p d):=fun H hb=>by
   have hq:=zEC s p
   have hq2:=zBX hp
   refine zLA k.hm k.neg (neg_ev (zF0 k) (p_within k) b s p d H hb hp hl tO (fun h45 H' rb h1 h2=>?_) (fun h45 H' h1=>?_))
   ·have hlt:=(zg h45).1
    exact zLA k.hm k.negc (negc_ev b rb s (skip s p) (d + 1) H' h1 h2 hlt hl fun H'' h3=>(ih' (skip s p + 1) tO tO (d + 1) H'' tO h3).1)
   ·refine p_prim k g b s (skip s p) d H' h1 hq2 hl tO (skip_at s p) h45 (fun h40 H'' rb h2 h3=>?_) (fun e t h40 he H'' rb sb h2 h3 h4=>?_)
    ·have hlt:=(zg h40).1
     exact zLA k.hm k.prim1 (par_ev (p_want k) b rb s (skip s p) (d + 1) H'' h2 h3 hlt hl fun H3 h4=>h0 (skip s p + 1) tO tO (d + 1) H3 tO h4)
    ·have hlt:=(zg h40).1
     refine zLA k.hm k.prim2 (callc_ev b rb sb s t e (d + 1) H'' h2 h3 h4 _ fun H3 h5=>?_)
     refine zLA k.hm k.call (call_ev (zF0 k) (p_want k) t b s e (d + 1) H3 h5 hlt hl fun a H4 h6 h7 h8=>?_)
     have ha:=zEC s a
     have ha2:=zBX h7
     refine zLA k.hm k.argument (arg_ev (zF0 k) (zHT k) (p_word k) (p_ref k) b s a (d + 1) H4 h8 h7 hl fun H5 h9=>?_)
     have:=h0 (skip s a) tO ha2 (d + 1) H5 tO h9
     rw [loose_skip 1 (d + 1) h7] at this
     exact this
  refine ⟨hneg H hb, ?_⟩
  have hall : ∀ j l,l + j = 4 → ∀ H,H[b]? = some (rdB s p d) → CR (Good PR GT) zi [pR b,zJ l] H b s d (twS s l p d):=by
   intro j
   induction j with
   | zero=>
    intro l hlj H hb
    exact zLA k.hm k.two (two_ev (zF0 k) (p_opOf k) (p_pre k) g.loose l b s p d H hb hp hl tO (fun H' _ h=>hneg H' h) (fun a H' h=>by omega))
   | succ j ihj=>
    intro l hlj H hb
    refine zLA k.hm k.two (two_ev (zF0 k) (p_opOf k) (p_pre k) g.loose l b s p d H hb hp hl tO (fun H' h=>by omega) (fun a H' h1 h2 h3 h4 h5=>?_))
    rcases h4 with rfl | h4
    ·exact ihj (l + 1) tO H' h5
    ·exact (ih' a h4 h3 d H' tO h5).2 (l + 1) tO
  exact fun l hl4=>hall (4 - l) l tO H hb
end
end Go.AM
namespace Go.AM
open Go.RowKit Go.Proofs
def zEh : Value:=.iface 136 (.agg #[.pointer (some ⟨11,32,none⟩)])
def gtQ (m : Int) (ev : Value) : Nat → Option AV
 | 0=>some (.raw zEh)
 | 1=>some (.int .i64 m)
 | 2=>some looseV
 | 5=>some textsV
 | 7=>some (.raw ev)
 | _=>none
set_option maxRecDepth 100000 in
theorem as_good {m : Int} {ev : Value} (n old : Int) (b : Nat) (H : Heap) (hb : H[b]? = some (.box [.int .i64 old])) : Good Tryz.prog (gtQ m ev) zHg [.iface zS (.int .i64 n),.iface zGc (.ref b 0 0 0)] H (.bool true) (H.set b (.box [.int .i64 n])):=by
 intro w M I cargs hS hA
 obtain ⟨v,u,rfl,hv,hu⟩:=relL_two hA
 cases hv with
 | iface _ _ v' hv'=>
 obtain rfl:=rel_int' hv'
 cases hu with
 | iface _ _ u' hu'=>
 cases hu' with
 | ref _ _ _ _ g o hbn hM=>
 have h0:=hS.glob 0 (.raw zEh) rfl
 have hg : w.cell? ⟨0,0,none⟩ = some zEh:=by
  cases h0 with
  | lref _ _ _ _ V hI hx hvv hr=>
   have h1:=hvv 0 (.raw zEh) rfl
   have h2:=hr 0 (.raw zEh) rfl
   rw [h1,rel_raw' h2]
 obtain ⟨g',o',cur,h1,hC,h3,h4,h5⟩:=hS.blk b _ hb
 rw [hM] at h1
 simp only [Option.some.injEq,Prod.mk.injEq] at h1
 obtain ⟨rfl,rfl⟩:=h1
 obtain ⟨u0,e1,e2⟩:=h5 0 _ rfl
 obtain rfl:=rel_int' e2
 rw [Nat.add_zero] at e1
 have ht0 : w.cell? ⟨g,o,none⟩ = some (.int .i64 old):=by rw [hC.cell?]; exact e1
 have hf0 : w.frozen? ⟨g,o,none⟩ = false:=by
  obtain ⟨e,fz,hg',hfz⟩:=hC
  have hlt:=(Array.getElem?_eq_some_iff.1 e1).1
  have:=hfz o hlt
  simp only [World.frozen?,hg',Bool.and_eq_false_iff,decide_eq_false_iff_not]
  by_cases h : fz.1 ≤ o
  ·exact .inr fun h'=>this ⟨h,h'⟩
  ·exact .inl h
 rw [run_enter Tryz.func36 (by kernel_rfl) (by kernel_rfl)]
 refine (Go.Proofs.YtaohficjbicfgaaGreatDoor.As.as_hit n ⟨g,o,none⟩ (.int .i64 old) w hg ht0 hf0).mono ?_
 rintro e w' ⟨rfl,rfl⟩
 refine ⟨_,rfl,M,I, ?_⟩
 obtain ⟨G1,S1⟩:=zFw hS (((((Below.refl w.heap.size w).alloc (Nat.le_refl _) (.cells #[.pointer (some ⟨g,o,none⟩)] 83)).alloc (by simp <;> omega) (.cells #[.pointer (some ⟨11,83,none⟩),.pointer (some ⟨w.heap.size,0,none⟩),.int .u64 150] 98)).alloc (by simp <;> omega) (.cells #[.pointer (some ⟨11,83,none⟩),.pointer (some ⟨w.heap.size,0,none⟩),.int .u64 150] 98)).alloc (by simp <;> omega) (.cells #[.int .i64 n] 61))
 obtain ⟨G2,S2⟩:=grow_setBox S1 hb hM (x:=.int .i64 n) (v:=.int .i64 n) (fun _=>.int _ _)
 exact ⟨G1.trans G2,S2,.bool true⟩
section
variable {C : CSpec} {GT : Nat → Option AV}
theorem told_nil_ev (H : Heap) : EFun C GT zGg [.nili] H (.int .i64 0) H:=by
 refine zU rfl ?_; refine zH ?_
 exact zc rfl rfl rfl rfl (Old.refl H)
theorem told_err_ev (hA : ∀ (n old : Int) (b : Nat) (H : Heap),H[b]? = some (.box [.int .i64 old]) → C zHg [.iface zS (.int .i64 n),.iface zGc (.ref b 0 0 0)] H (.bool true) (H.set b (.box [.int .i64 n])))
  (n : Int) (H : Heap) : EFun C GT zGg [zF7 n] H (.int .i64 n) H:=by
 refine zU rfl ?_; refine zG ?_
 have h:=hA n 0 H.length (H ++ [ABlk.box [.int .i64 0]]) zC
 refine zm h (fun h=>by cases h) ?_; refine zH ?_; refine zB (.int .i64 n) (zE zC) rfl ?_
 exact zc rfl rfl rfl rfl ((Old.refl H).pushSet _ _)
theorem same_ev (hT0 : ∀ H,C zCt [.nili] H (.int .i64 0) H) (hT : ∀ n H,C zCt [zF7 n] H (.int .i64 n) H) (x : AV) (n e : Int) (hx : ErrIs x n) (H : Heap) : EFun C GT zGe [x,.int .i64 e] H (.bool (n == e)) H:=by
 rcases hx with ⟨rfl,rfl⟩ | rfl
 ·refine zI (hT0 H) ?_
  exact zc rfl rfl rfl rfl (Old.refl H)
 ·refine zI (hT n H) ?_
  exact zc rfl rfl rfl rfl (Old.refl H)
end
end Go.AM
namespace Go.AM
inductive Sh where
 | bool
 | int (k : IntKind)
 | str
 | sl (ag : Bool) (es : List Sh)
 deriving Inhabited
def formed (ag : Bool) (x : AV) : Prop:=
 match ag with
 | true=>∃ cs,x = .agg cs
 | false=>x.cells = [x]
inductive Fits : Sh → AV → Prop where
 | bool (b : Bool) : Fits .bool (.bool b)
 | int (k : IntKind) (n : Int) (h : (Lit.int k n).wf = true) : Fits (.int k) (.int k n)
 | str (s : List UInt8) (h : s.length ≤ maxLen) : Fits .str (.str s)
 | sl (ag : Bool) (es : List Sh) (q : Bool) (xs : List AV) (hl : xs.length ≤ maxLen) (hq : q = true → xs = []) (h1 : ∀ x ∈ xs,x.cells.length = es.length ∧ formed ag x)
   (h2 : ∀ x ∈ xs,∀ (i : Nat) (s : Sh) (c : AV),es[i]? = some s → x.cells[i]? = some c → Fits s c) : Fits (.sl ag es) (.lst (some q) es.length xs)
def shFs (r : TypeId → Option (Bool × List Sh)) (P : Program) : List Field → Nat → Option (List Sh)
 | [],_=>some []
 | f :: fs,o=>if f.offset = o then (match r f.type with
  | some (_,ss)=>if P.cellsOf f.type = ss.length then (shFs r P fs (o + ss.length)).map (ss ++ ·) else none
  | none=>none) else none
def shOf (P : Program) : Nat → TypeId → Option (Bool × List Sh)
 | 0,_=>none
 | m + 1,t=>match P.underlying t with
  | some .bool=>some (false,[.bool])
  | some (.int k)=>some (false,[.int k])
  | some .string=>some (false,[.str])
  | some (.slice e)=>(match shOf P m e with
   | some (ag,es)=>if P.cellsOf e = es.length ∧ 0 < es.length ∧ (ag = true ∨ es.length = 1) then some (false,[.sl ag es]) else none
   | none=>none)
  | some (.struct fs)=>(match shFs (shOf P m) P fs.toList 0 with
   | some ss=>if P.cellsOf t = ss.length then some (true,ss) else none
   | none=>none)
  | _=>none
theorem zFV {α β : Type} {f : α → Option β} : ∀ {l : List α} {r : List β},l.mapM f = some r → r.length = l.length ∧ ∀ (i : Nat) (x : α),l[i]? = some x → ∃ y,r[i]? = some y ∧ f x = some y
 | [],r,h=>by
  simp at h; subst h; exact ⟨rfl,fun i x hx=>by simp at hx⟩
 | a :: l,r,h=>by
  simp only [List.mapM_cons,Option.bind_eq_bind,Option.pure_def] at h
  obtain ⟨y,hy,h⟩:=Option.bind_eq_some_iff.1 h
  obtain ⟨ys,hys,h⟩:=Option.bind_eq_some_iff.1 h
  simp only [Option.some.injEq] at h
  subst h
  obtain ⟨h1,h2⟩:=zFV hys
  refine ⟨by simp [h1],fun i x hx=>?_⟩
  cases i with
  | zero=>simp at hx; subst hx; exact ⟨y,rfl,hy⟩
  | succ i=>simp at hx; obtain ⟨z,e1,e2⟩:=h2 i x hx; exact ⟨z,by simpa using e1,e2⟩
theorem list_of {p : Nat → AV → Prop} : ∀ n,(∀ i,i < n → ∃ x,p i x) → ∃ xs : List AV,xs.length = n ∧ ∀ i x,xs[i]? = some x → p i x
 | 0,_=>⟨[],rfl,fun i x h=>by simp at h⟩
 | n + 1,h=>by
  obtain ⟨xs,h1,h2⟩:=list_of n fun i hi=>h i tO
  obtain ⟨x,hx⟩:=h n tO
  refine ⟨xs ++ [x],by simp [h1],fun i y hy=>?_⟩
  by_cases hi : i < n
  ·rw [List.getElem?_append_left tO] at hy; exact h2 i y hy
  ·rw [List.getElem?_append_right tO] at hy
   have : i - xs.length = 0:=by
    have:=(zg hy).1
    simp at this; omega
   rw [this] at hy; simp at hy; subst hy
   have : i = n:=by omega
   subst this; exact hx
theorem Fits.free {s : Sh} {x : AV} (h : Fits s x) : x.noRef = true ∧ x.one = true ∧ x.cells = [x]:=by
 cases h <;> exact ⟨rfl,rfl,rfl⟩
theorem zHp {w : World} {a : Addr} {v : Value} (h : w.cell? a = some v) : a.block < w.heap.size ∧ a.spot = none:=by
 unfold World.cell? at h
 split at h
 ·rename_i hb
  split at h
  ·cases h
  ·rename_i hs
   refine ⟨?_,by simpa using hs⟩
   obtain ⟨hlt,_⟩:=Array.getElem?_eq_some_iff.1 hb
   exact hlt
 ·cases h
structure Stands (w : World) (ss : List Sh) (xs : List AV) (cs : List Value) : Prop where
 len : xs.length = ss.length
 clen : cs.length = ss.length
 fits : ∀ (i : Nat) (s : Sh) (x : AV),ss[i]? = some s → xs[i]? = some x → Fits s x
 rel : ∀ (i : Nat) (x : AV) (v : Value),xs[i]? = some x → cs[i]? = some v → Rel w (fun _=>none) (zEd w) 0 x v
theorem Stands.fits' {w : World} {ss : List Sh} {xs : List AV} {cs : List Value} (h : Stands w ss xs cs) {x : AV} (hx : x ∈ xs) : ∃ s,Fits s x:=by
 obtain ⟨i,hi⟩:=List.getElem?_of_mem hx
 have hlt:=(zg hi).1
 exact ⟨ss[i]'(by rw [← h.len]; exact hlt),h.fits i _ x (List.getElem?_eq_getElem _) hi⟩
theorem zFW {w : World} {s : Sh} {x : AV} {v : Value} (hf : Fits s x) (hr : Rel w (fun _=>none) (zEd w) 0 x v) : Stands w [s] [x] [v] where
 len:=rfl
 clen:=rfl
 fits:=fun i s' x' h1 h2=>by
  cases i with
  | zero=>simp at h1 h2; subst h1; subst h2; exact hf
  | succ i=>simp at h1
 rel:=fun i x' v' h1 h2=>by
  cases i with
  | zero=>simp at h1 h2; subst h1; subst h2; exact hr
  | succ i=>simp at h1
section
variable {H : Type} {enc : TypeId × Value → H} {P : Program} {w : World} {held : Bool}
theorem stands_fields {fuel m : Nat} (ih : ∀ (t : TypeId) (cs : List Value) (d : DataW H) (ps : List MemPlace) (ag : Bool) (ss : List Sh),DataW.trod enc P w 0 (fun _=>true) held fuel t cs = some (d,ps) → shOf P m t = some (ag,ss) → ∃ xs,Stands w ss xs cs)
  (cs : List Value) : ∀ (fs : List Field) (o : Nat) (ss : List Sh) (r : List (DataW H × List MemPlace)),(fs.mapM fun f=>DataW.trod enc P w 0 (fun _=>true) held fuel f.type ((cs.drop f.offset).take (P.cellsOf f.type))) = some r → shFs (shOf P m) P fs o = some ss →
  ∃ xs : List AV,xs.length = ss.length ∧ (∀ (i : Nat) (s : Sh) (x : AV),ss[i]? = some s → xs[i]? = some x → Fits s x) ∧ ∀ (i : Nat) (x : AV) (v : Value),xs[i]? = some x → cs[o + i]? = some v → Rel w (fun _=>none) (zEd w) 0 x v:=by
 intro fs
 induction fs with
 | nil=>
  intro o ss r _ hs
  simp only [shFs,Option.some.injEq] at hs
  subst hs
  exact ⟨[],rfl,fun i s x h=>by simp at h,fun i x v h=>by simp at h⟩
 | cons f fs ihf=>
  intro o ss r h hs
  unfold shFs at hs
  split at hs
  case isFalse=>cases hs
  rename_i ho
  split at hs
  case h_2=>cases hs
  rename_i ag ss1 h1
  split at hs
  case isFalse=>cases hs
  rename_i hc
  obtain ⟨ss2,h2,rfl⟩:=Option.map_eq_some_iff.1 hs
  simp only [List.mapM_cons,Option.bind_eq_bind,Option.pure_def] at h
  obtain ⟨⟨d,p⟩,hy,h⟩:=Option.bind_eq_some_iff.1 h
  obtain ⟨ys,hys,_⟩:=Option.bind_eq_some_iff.1 h
  obtain ⟨xs1,S1⟩:=ih _ _ _ _ _ _ hy h1
  obtain ⟨xs2,e1,e2,e3⟩:=ihf _ _ _ hys h2
  refine ⟨xs1 ++ xs2,by rw [List.length_append,List.length_append,S1.len,e1],fun i s x h3 h4=>?_,fun i x v h3 h4=>?_⟩
  ·by_cases hi : i < ss1.length
   ·rw [List.getElem?_append_left hi] at h3
    rw [List.getElem?_append_left (by rw [S1.len]; exact hi)] at h4
    exact S1.fits i s x h3 h4
   ·rw [List.getElem?_append_right tO] at h3
    rw [List.getElem?_append_right (by rw [S1.len]; omega),S1.len] at h4
    exact e2 _ s x h3 h4
  ·by_cases hi : i < ss1.length
   ·rw [List.getElem?_append_left (by rw [S1.len]; exact hi)] at h3
    refine S1.rel i x v h3 ?_
    rw [List.getElem?_take,if_pos (by rw [hc]; exact hi),List.getElem?_drop,ho]
    exact h4
   ·rw [List.getElem?_append_right (by rw [S1.len]; omega),S1.len] at h3
    refine e3 _ x v h3 ?_
    rw [← h4]; congr 1; omega
theorem cells_spec {a : Addr} {n : Nat} {cs : List Value} (h : w.cells? 0 a n = some cs) : cs.length = n ∧ ∀ j v,cs[j]? = some v → w.cell? (a.add j) = some v:=by
 unfold World.cells? at h
 rw [if_pos (Nat.zero_le _)] at h
 obtain ⟨h1,h2⟩:=zFV h
 rw [List.length_range] at h1
 refine ⟨h1,fun j v hj=>?_⟩
 have hlt : j < n:=by rw [← h1]; exact (zg hj).1
 obtain ⟨y,e1,e2⟩:=h2 j j (by rw [List.getElem?_range hlt])
 rw [e1] at hj
 simp only [Option.some.injEq] at hj
 subst hj; exact e2
theorem stands_of_trod : ∀ (fuel : Nat) (t : TypeId) (cs : List Value) (d : DataW H) (ps : List MemPlace) (m : Nat) (ag : Bool) (ss : List Sh),
  DataW.trod enc P w 0 (fun _=>true) held fuel t cs = some (d,ps) → shOf P m t = some (ag,ss) → ∃ xs,Stands w ss xs cs:=by
 intro fuel
 induction fuel with
 | zero=>intro t cs d ps m ag ss h; simp [DataW.trod] at h
 | succ fuel ih=>
  intro t cs d ps m ag ss h hs
  cases m with
  | zero=>simp [shOf] at hs
  | succ m=>
  unfold shOf at hs
  split at hs
  ·-- bool
   rename_i hu
   simp only [Option.some.injEq,Prod.mk.injEq] at hs
   obtain ⟨_,rfl⟩:=hs
   rcases cs with _ | ⟨c,_ | ⟨c',cs⟩⟩
   ·simp [DataW.trod,hu] at h
   ·cases c <;> simp [DataW.trod,hu] at h
    exact ⟨_,zFW (.bool _) (.bool _)⟩
   ·simp [DataW.trod,hu] at h
  ·rename_i k hu
   simp only [Option.some.injEq,Prod.mk.injEq] at hs
   obtain ⟨_,rfl⟩:=hs
   rcases cs with _ | ⟨c,_ | ⟨c',cs⟩⟩
   ·simp [DataW.trod,hu] at h
   ·cases c <;> simp [DataW.trod,hu] at h
    obtain ⟨⟨rfl,hw⟩,_⟩:=h
    exact ⟨_,zFW (.int _ _ hw) (.int _ _)⟩
   ·simp [DataW.trod,hu] at h
  ·rename_i hu
   simp only [Option.some.injEq,Prod.mk.injEq] at hs
   obtain ⟨_,rfl⟩:=hs
   rcases cs with _ | ⟨c,_ | ⟨c',cs⟩⟩
   ·simp [DataW.trod,hu] at h
   ·cases c <;> simp [DataW.trod,hu] at h
    rename_i s
    have hl : s.data.toList.length ≤ maxLen:=by
     have h1 : s.size ≤ maxLen:=h.1
     exact h1
    exact ⟨_,zFW (.str s.data.toList hl) (rel_str _ _ _ _ s)⟩
   ·simp [DataW.trod,hu] at h
  ·-- a slice
   rename_i e hu
   split at hs
   case h_2=>cases hs
   rename_i ag' es he
   split at hs
   case isFalse=>cases hs
   rename_i hk
   obtain ⟨hk,hk0,hk1⟩:=hk
   simp only [Option.some.injEq,Prod.mk.injEq] at hs
   obtain ⟨_,rfl⟩:=hs
   rcases cs with _ | ⟨c,_ | ⟨c',cs⟩⟩
   ·simp [DataW.trod,hu] at h
   rotate_left
   ·simp [DataW.trod,hu] at h
   cases c
   case slice a len cap=>
    cases a with
    | none=>
     cases len <;> cases cap <;> simp [DataW.trod,hu] at h
     exact ⟨_,zFW (.sl ag' es true [] (Nat.zero_le _) (fun _=>rfl) (fun x hx=>absurd hx (by simp)) (fun x hx=>absurd hx (by simp))) (.lnil _ _ (by simp))⟩
    | some a=>
     simp only [DataW.trod,hu] at h
     split at h
     case isFalse=>cases h
     rename_i hb
     obtain ⟨elems,h1,h⟩:=Option.bind_eq_some_iff.1 h
     obtain ⟨rest,h2,_⟩:=Option.map_eq_some_iff.1 h
     simp only [if_true] at h2
     have at_ : ∀ (i : Nat) (y : DataW H × List MemPlace),((w.cells? 0 (a.add (i * P.cellsOf e)) (P.cellsOf e)).bind (DataW.trod enc P w 0 (fun _=>true) held fuel e)) = some y →
       ∃ xs ci,Stands w es xs ci ∧ ∀ j v,ci[j]? = some v → w.cell? ((a.add (i * es.length)).add j) = some v:=by
      intro i y hy
      obtain ⟨ci,e1,e2⟩:=Option.bind_eq_some_iff.1 hy
      obtain ⟨xs,S⟩:=ih e ci y.1 y.2 m ag' es e2 he
      obtain ⟨e3,e4⟩:=cells_spec e1
      exact ⟨xs,ci,S,by rw [← hk]; exact e4⟩
     obtain ⟨l1,l2⟩:=zFV h1
     obtain ⟨l3,l4⟩:=zFV h2
     rw [List.length_range] at l1 l3
     have elem : ∀ i,i < len → ∃ x : AV,(x.cells.length = es.length ∧ formed ag' x) ∧ (∀ (j : Nat) (s : Sh) (c : AV),es[j]? = some s → x.cells[j]? = some c → Fits s c) ∧ x.elem es.length = true ∧
       ∀ j c,x.cells[j]? = some c → ∃ v,w.cell? ((a.add (i * es.length)).add j) = some v ∧ Rel w (fun _=>none) (zEd w) 0 c v:=by
      intro i hi
      obtain ⟨y,_,hy⟩:=l2 i i (by rw [List.getElem?_range hi])
      obtain ⟨xs,ci,S,hci⟩:=at_ i y hy
      have hrel : ∀ j c,xs[j]? = some c → ∃ v,w.cell? ((a.add (i * es.length)).add j) = some v ∧ Rel w (fun _=>none) (zEd w) 0 c v:=fun j c hj=>by
       have hlt : j < ci.length:=by rw [S.clen,← S.len]; exact (zg hj).1
       exact ⟨ci[j],hci j _ (List.getElem?_eq_getElem hlt),S.rel j c _ hj (List.getElem?_eq_getElem hlt)⟩
      cases ag' with
      | true=>
       refine ⟨.agg xs,⟨S.len,xs,rfl⟩,S.fits,AV.elem_iff.2 ⟨S.len, ?_,fun c hc=>?_⟩,hrel⟩
       ·simp only [AV.noRef,AV.bel,AV.belL_iff]
        intro c hc
        obtain ⟨s,hs⟩:=S.fits' hc
        exact hs.free.1
       ·obtain ⟨s,hs⟩:=S.fits' hc
        exact hs.free.2.1
      | false=>
       have h1 : es.length = 1:=by
        rcases hk1 with h | h
        ·cases h
        ·exact h
       have hl:=S.len
       rw [h1] at hl
       obtain ⟨x,rfl⟩:=List.length_eq_one_iff.1 hl
       obtain ⟨s,hs⟩:=S.fits' (x:=x) (by simp)
       obtain ⟨f1,f2,f3⟩:=hs.free
       refine ⟨x,⟨by rw [f3,h1]; rfl,f3⟩,by rw [f3]; exact S.fits,AV.elem_iff.2 ⟨by rw [f3,h1]; rfl,f1,fun c hc=>?_⟩,by rw [f3]; exact hrel⟩
       rw [f3] at hc
       simp only [List.mem_singleton] at hc
       rw [hc]; exact f2
     obtain ⟨X,x1,x2⟩:=list_of len elem
     have hmem : ∀ x ∈ X,∃ i,X[i]? = some x:=fun x hx=>List.getElem?_of_mem hx
     refine ⟨[.lst (some false) es.length X],zFW (.sl ag' es false X tO (by simp) (fun x hx=>?_) (fun x hx=>?_)) ?_⟩
     ·obtain ⟨i,hi⟩:=hmem x hx; exact (x2 i x hi).1
     ·obtain ⟨i,hi⟩:=hmem x hx; exact (x2 i x hi).2.1
     ·by_cases hc0 : cap = 0
      ·have : len = 0:=by omega
       subst this; subst hc0
       obtain rfl:=List.eq_nil_of_length_eq_zero x1
       exact .lemp _ _ a (by simp)
      ·have hcell : ∃ v,w.cell? a = some v:=by
        by_cases hl0 : len = 0
        ·obtain ⟨y,_,hy⟩:=l4 0 0 (by rw [List.getElem?_range tO])
         obtain ⟨xs,ci,S,hci⟩:=at_ _ y hy
         have hlt : 0 < ci.length:=by rw [S.clen]; exact hk0
         have h0:=hci 0 _ (List.getElem?_eq_getElem hlt)
         simp only [hl0,Nat.add_zero,Nat.zero_mul,Addr.add,if_true] at h0
         exact ⟨_,h0⟩
        ·obtain ⟨y,_,hy⟩:=l2 0 0 (by rw [List.getElem?_range tO])
         obtain ⟨xs,ci,S,hci⟩:=at_ _ y hy
         have hlt : 0 < ci.length:=by rw [S.clen]; exact hk0
         have h0:=hci 0 _ (List.getElem?_eq_getElem hlt)
         simp only [Nat.zero_mul,Addr.add,if_true] at h0
         exact ⟨_,h0⟩
       obtain ⟨v0,hv0⟩:=hcell
       obtain ⟨g1,g2⟩:=zHp hv0
       obtain ⟨ab,ao,asp⟩:=a
       simp only at g1 g2
       subst g2
       rw [← x1]
       refine Rel.mk_lst (by simp) tO hb.2.2 g1 (fun x hx=>?_) (fun i j x c hi hj=>?_)
       ·obtain ⟨i,hi⟩:=hmem x hx; exact (x2 i x hi).2.2.1
       ·obtain ⟨v,e1,e2⟩:=(x2 i x hi).2.2.2 j c hj
        simp only [Addr.add_lit] at e1
        exact ⟨v,e1,e2⟩
   all_goals (simp [DataW.trod,hu] at h)
  ·rename_i fs hu
   split at hs
   case h_2=>cases hs
   rename_i ss' hs'
   split at hs
   case isFalse=>cases hs
   rename_i hc
   simp only [Option.some.injEq,Prod.mk.injEq] at hs
   obtain ⟨_,rfl⟩:=hs
   simp only [DataW.trod,hu] at h
   split at h
   case isFalse=>cases h
   rename_i hcl
   obtain ⟨r,hr,_⟩:=Option.map_eq_some_iff.1 h
   obtain ⟨xs,e1,e2,e3⟩:=stands_fields (fun t cs d ps ag ss h1 h2=>ih t cs d ps m ag ss h1 h2) cs _ 0 ss' r hr hs'
   exact ⟨xs,e1,by rw [hcl,hc],e2,fun i x v h1 h2=>e3 i x v h1 (by rw [Nat.zero_add]; exact h2)⟩
  ·cases hs
theorem zF1 {t : TypeId} {m : Nat} {s : Sh} {v : Value} {d : DataW H} {ps : List MemPlace} {r : Reach} {b0 : Nat} (hs : shOf P m t = some (false,[s])) (ho : Value.okWide P w r b0 t v) (h : DataW.Trod enc P w 0 (fun _=>true) held t v d ps) :
  ∃ x,Fits s x ∧ Rel w (fun _=>none) (zEd w) 0 x v:=by
 obtain ⟨fuel,h⟩:=h
 obtain ⟨xs,S⟩:=stands_of_trod fuel t _ d ps m false [s] h hs
 have hl:=S.len
 obtain ⟨x,rfl⟩:=List.length_eq_one_iff.1 hl
 have hv : v.cells.toList = [v]:=by
  cases m with
  | zero=>simp [shOf] at hs
  | succ m=>
  unfold shOf at hs
  unfold Value.okWide at ho
  split at hs
  all_goals first
   | (cases hs; done)
   | skip
  ·rename_i hu; rw [hu] at ho; simp only [Cell.okWide,hu,Cell.ok] at ho
   cases v <;> first | rfl | (simp at ho)
  ·rename_i hu; rw [hu] at ho; simp only [Cell.okWide,hu,Cell.ok] at ho
   cases v <;> first | rfl | (simp at ho)
  ·rename_i hu; rw [hu] at ho; simp only [Cell.okWide,hu,Cell.ok] at ho
   cases v <;> first | rfl | (simp at ho)
  ·rename_i hu; rw [hu] at ho; simp only [Cell.okWide,hu,Cell.ok] at ho
   cases v <;> first | rfl | (simp at ho)
  ·split at hs
   ·split at hs
    ·cases hs
    ·cases hs
   ·cases hs
 rw [hv] at S
 exact ⟨x,S.fits 0 s x rfl rfl,S.rel 0 x v rfl rfl⟩
end
end Go.AM
