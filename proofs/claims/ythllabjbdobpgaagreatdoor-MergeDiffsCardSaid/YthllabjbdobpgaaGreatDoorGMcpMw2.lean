/- Several texts of mine in one (Mcp, Ms0, Made, Mw1, Mw2). Own work. -/
import Derived.Test.YthllabjbdobpgaaGreatDoorGOpvMev
import Derived.Test.YthllabjbdobpgaaGreatDoorGInsDlg
import Derived.Test.YthllabjbdobpgaaGreatDoorUk
import Derived.Test.YthllabjbdobpgaaGreatDoorGGqBe0
import Derived.Test.YthllabjbdobpgaaGreatDoorGAm23Am29
set_option linter.all false
set_option maxRecDepth 20000
namespace Go.AM
theorem set_old {H : Heap} {b : Nat} (hb : b < H.length) (k : Nat) (ys : List AV) : OldOK H (H.set b (.row k ys)) ∧ H.set b (.row k ys) = (H.set b (.row k ys)).take H.length:=by
 refine ⟨fun c hc=>?_, ?_⟩
 ·by_cases e : b = c
  ·subst e; exact .inr ⟨_,zNB hc,rfl⟩
  ·exact .inl (zNE e)
 ·exact (zNK (by rw [zM5]; exact zMv _)).symm
theorem sStoreK2 {b i : Nat} (j : Nat) (p q : Int × Int) {H : Heap} {xs : List AV} {K : AV → Heap → Prop} (hi : i = j) (h : H[b]? = some (.row 2 xs)) (hx : xs[j]? = some (cV q)) (k : K .undef (H.set b (.row 2 (xs.set j (cV p))))) : actP (.store 2) [.ref b 2 i 0,cV p] H K:=by
 subst hi
 refine sAct ?_ k
 have e : zDJ 0 (cV p) H = some (cV p,H):=rfl
 simp only [astep]
 rw [zMt ⟨rfl,rfl⟩,h]
 simp only [e,h,hx]
 rw [zMt ⟨trivial,by omega,by omega,rfl⟩]
 rfl
theorem sl_from {b k n : Nat} (h : k < n) : zA0 (some 2) (.sl (some true) b 2 0 n) (some (zK k)) none = some (.sl (some true) b 2 k (n - k)):=by
 have hb : zCg n (some (zK k)) none = some (k,n):=by
  have : k ≤ n:=by omega
  simp [zCg,aHi,aLo,zK,this]
 simp only [zA0,zNP]
 rw [hb]
 simp [cutQ,h]
theorem sl_to {b k n : Nat} (h0 : 0 < k) (h : k ≤ n) : zA0 (some 2) (.sl (some true) b 2 0 n) none (some (zK k)) = some (.sl (some true) b 2 0 k):=by
 have hb : zCg n none (some (zK k)) = some (0,k):=by simp [zCg,aHi,aLo,zK,h]
 simp only [zA0,zNP]
 rw [hb]
 simp [cutQ,h0]
theorem cell_ne {p q : Int × Int} (h : q ≠ p) : (p.1 == q.1 && (p.2 == q.2 && true)) = false:=by
 rw [zOU]
 cases hx : (p.1 == q.1)
 ·rfl
 ·cases hy : (p.2 == q.2)
  ·rfl
  ·exact absurd (Prod.ext (zNJ.1 hx).symm (zNJ.1 hy).symm) h
theorem zMm {n0 b k off len : Nat} {q : Option Bool} {H : Heap} (h : b < n0) : zDJ n0 (.sl q b k off len) H = some (.sl q b k off len,H):=by simp only [zDJ]; rw [zMt h]
def padL (xs : List (Int × Int)) : List (Int × Int):=zk xs ++ List.replicate (xs.length - (zk xs).length) (0,0)
theorem take_two {xs : List (Int × Int)} {k : Nat} {p q : Int × Int} (h1 : 1 ≤ k) (hp : xs[k]? = some p) (hq : xs[k - 1]? = some q) : xs.take (k + 1) = xs.take (k - 1) ++ [q,p] ∧ xs.take k = xs.take (k - 1) ++ [q]:=by
 have e1 : xs.take k = xs.take (k - 1) ++ [q]:=by
  conv=>lhs; rw [show k = k - 1 + 1 by omega]
  rw [zOD,hq]; rfl
 refine ⟨?_,e1⟩
 rw [zOD,hp,e1]; simp
theorem zKo {xs : List (Int × Int)} {k : Nat} {p q : Int × Int} (h1 : 1 ≤ k) (hp : xs[k]? = some p) (hq : xs[k - 1]? = some q) : zk (xs.take (k + 1)) = if q = p then zk (xs.take k) else zk (xs.take k) ++ [p]:=by
 obtain ⟨e1,e2⟩:=take_two h1 hp hq
 rw [e1,zJr,e2]
section
variable {C : CSpec} {GT : Nat → Option AV}
set_option maxHeartbeats 4000000 in
theorem compact_ev (b : Nat) (xs : List (Int × Int)) (H : Heap) (hb : H[b]? = some (.row 2 (xs.map cV))) (hne : xs ≠ []) (hl : xs.length ≤ 1000) :
  EFun C GT zAc [.sl (some true) b 2 0 xs.length] H (.sl (some true) b 2 0 (zk xs).length) (H.set b (.row 2 ((padL xs).map cV))):=by
 obtain ⟨n,hn⟩ : ∃ n,xs.length = n:=⟨_,rfl⟩
 have hn0 : 0 < n:=by rw [← hn]; exact zOv.2 hne
 have hbl:=(zg hb).1
 have hsame : zk xs = xs → AV.sl (some true) b 2 0 (zk xs).length = .sl (some true) b 2 0 n ∧ H.set b (.row 2 ((padL xs).map cV)) = H:=fun e=>by
  refine ⟨by rw [e,hn], ?_⟩
  unfold padL
  rw [e,Nat.sub_self,zPI,zN6]
  exact zLP hb
 have hO0 : OldOK H H ∧ H = H.take H.length:=⟨fun c _=>.inl rfl,(zOu).symm⟩
 rw [hn]
 refine za ?_
 by_cases h2 : n < 2
 ·have e : zk xs = xs:=by
   match xs,hn with
   | [],hn=>simp at hn; omega
   | [x],_=>rfl
   | x :: y :: r,hn=>simp at hn; omega
  obtain ⟨e1,e2⟩:=hsame e
  rw [e1,e2]
  refine zDv ?_; refine zc (tT) ?_
  exact sRetW rfl rfl (zMm hbl) (by simp [AV.bel,hbl]) hO0.1 hO0.2
 ·refine zDv ?_; refine zW (tF) ?_; refine zBM (fun k : Nat=>[(3,zK k),(0,.sl (some true) b 2 0 n)]) (fun k H'=>H' = H ∧ 1 ≤ k ∧ k ≤ n ∧ zk (xs.take k) = xs.take k) (fun k=>n - k) 1 rfl ⟨rfl,by omega,by omega,by
   obtain ⟨x,r,rfl⟩:=zOL hne
   rfl⟩ (fun k H1 hi=>?_)
  obtain ⟨hH,hk1,hkn,hck⟩:=hi
  subst hH
  dsimp only
  by_cases hlt : k < n
  ·obtain ⟨p,hp⟩ : ∃ p,xs[k]? = some p:=⟨_,zMr tO⟩
   obtain ⟨q,hq⟩ : ∃ q,xs[k - 1]? = some q:=⟨_,zMr tO⟩
   have hpm : (xs.map cV)[k]? = some (cV p):=by rw [zM2,hp]; rfl
   have hqm : (xs.map cV)[k - 1]? = some (cV q):=by rw [zM2,hq]; rfl
   have hst:=zKo hk1 hp hq
   have hS2 : zA0 (some 2) (.sl (some true) b 2 0 n) (some (zK k)) none = some (.sl (some true) b 2 k (n - k)):=sl_from hlt
   by_cases he : q = p
   ·rw [zMt he] at hst
    have ex : zIW false (p.1 == q.1 && (p.2 == q.2 && true)) = true:=by subst he; simp [zIW]
    refine zDv ?_; refine zc tT ?_; refine sAt ⟨by omega,by omega⟩ ?_; refine zBJ k (cV p) (cV p) tO hb hpm rfl ?_; refine zN (r:=k - 1) tO tO ?_; refine sAt ⟨by omega,by omega⟩ ?_; refine zBJ (k - 1) (cV q) (cV q) tO hb hqm rfl ?_; refine zl rfl ?_; refine zc ex ?_; refine zl hS2 ?_; refine zBM (fun x : Nat × Nat × List (Int × Int)=>[(5,zK x.1),(3,zK x.2.1),(4,.sl (some true) b 2 k (n - k)),(0,.sl (some true) b 2 0 n)]) (fun x H'=>H' = H1.set b (.row 2 (x.2.2.map cV)) ∧ x.2.2.length = n ∧ 1 ≤ x.1 ∧ k + x.1 ≤ n ∧ x.2.2.take x.2.1 = zk (xs.take (k + x.1)) ∧ x.2.1 = (zk (xs.take (k + x.1))).length ∧ x.2.1 + 1 ≤ k + x.1 ∧ ∀ j,k + x.1 ≤ j + 1 → x.2.2[j]? = xs[j]?) (fun x=>n - x.1) (1,k,xs) rfl ⟨(zLP hb).symm,hn,by simp,by simp only; omega,by simp only; rw [hst,hck],by simp only; rw [hst,hck,zM8]; omega,by simp only; omega,fun _ _=>rfl⟩ (fun x H2 hi2=>?_)
    obtain ⟨k2,k',ys⟩:=x
    dsimp only at hi2 ⊢
    obtain ⟨hH2,hy,hk2,hkk,ht,hk',hkb,hsame2⟩:=hi2
    have hb2 : H2[b]? = some (.row 2 (ys.map cV)):=by rw [hH2]; exact zNB hbl
    have hk'0 : 0 < k':=by
     rw [hk']
     refine zOv.2 fun e=>?_
     have:=(zDY (xs.take (k + k2)) (xs[0]'tO)).2 (by
      rw [List.mem_iff_getElem]
      exact ⟨0,by rw [zM8]; omega,by rw [List.getElem_take]⟩)
     rw [e] at this; simp at this
    by_cases hlt2 : k + k2 < n
    ·obtain ⟨p2,hp2⟩ : ∃ p,xs[k + k2]? = some p:=⟨_,zMr tO⟩
     obtain ⟨q2,hq2⟩ : ∃ q,xs[k + k2 - 1]? = some q:=⟨_,zMr tO⟩
     obtain ⟨r2,hr2⟩ : ∃ q,ys[k']? = some q:=⟨_,zMr tO⟩
     have hpm2 : (ys.map cV)[k + k2]? = some (cV p2):=by rw [zM2,hsame2 _ tO,hp2]; rfl
     have hqm2 : (ys.map cV)[k + k2 - 1]? = some (cV q2):=by rw [zM2,hsame2 _ tO,hq2]; rfl
     have hrm2 : (ys.map cV)[k']? = some (cV r2):=by rw [zM2,hr2]; rfl
     have hst2:=zKo (k:=k + k2) tO hp2 hq2
     by_cases he2 : q2 = p2
     ·rw [zMt he2] at hst2
      have ex2 : zIW true (p2.1 == q2.1 && (p2.2 == q2.2 && true)) = false:=by subst he2; simp [zIW]
      refine zDv ?_; refine zc tT ?_; refine sAt ⟨by omega,by omega⟩ ?_; refine zBJ (k + k2) (cV p2) (cV p2) tO hb2 hpm2 rfl ?_; refine zN (r:=k2 - 1) tO tO ?_; refine sAt ⟨by omega,by omega⟩ ?_; refine zBJ (k + k2 - 1) (cV q2) (cV q2) tO hb2 hqm2 rfl ?_; refine zl rfl ?_; refine zW ex2 ?_; refine zN (r:=k2 + 1) rfl tO ?_; refine zAC (k2 + 1,k',ys) rfl ⟨hH2,hy,by simp only; omega,by simp only; omega,by simp only; rw [ht]; exact hst2.symm,by simp only; rw [hk']; exact zNF List.length hst2.symm,by simp only; omega,fun j hj=>hsame2 j (by simp only at hj; omega)⟩ (by simp only; omega)
     ·rw [zMq he2] at hst2
      have ex2 : zIW true (p2.1 == q2.1 && (p2.2 == q2.2 && true)) = true:=by rw [cell_ne he2]; rfl
      refine zDv ?_; refine zc tT ?_; refine sAt ⟨by omega,by omega⟩ ?_; refine zBJ (k + k2) (cV p2) (cV p2) tO hb2 hpm2 rfl ?_; refine zN (r:=k2 - 1) tO tO ?_; refine sAt ⟨by omega,by omega⟩ ?_; refine zBJ (k + k2 - 1) (cV q2) (cV q2) tO hb2 hqm2 rfl ?_; refine zl rfl ?_; refine zc ex2 ?_; refine sAt ⟨by omega,by omega⟩ ?_; refine zBJ (k + k2) (cV p2) (cV p2) tO hb2 hpm2 rfl ?_; refine sAt ⟨by omega,by omega⟩ ?_
      refine sStoreK2 k' p2 r2 tO hb2 hrm2 ?_; refine zN (r:=k' + 1) rfl tO ?_; refine zN (r:=k2 + 1) rfl tO ?_; refine zAC (k2 + 1,k' + 1,ys.set k' p2) rfl ⟨?_,by simp only [zM5]; exact hy,by simp only; omega,by simp only; omega, ?_, ?_,by simp only; omega,fun j hj=>?_⟩ (by simp only; omega)
      ·simp only
       rw [hH2,zOd,List.map_set]
      ·simp only
       rw [show k + (k2 + 1) = k + k2 + 1 by omega,hst2,← ht,zOD,zNB tO,List.take_set_of_le tO]
       rfl
      ·simp only
       rw [show k + (k2 + 1) = k + k2 + 1 by omega,hst2,zM3,← hk']; rfl
      ·simp only at hj ⊢
       rw [zNE tO]
       exact hsame2 j tO
    ·have hfull : xs.take (k + k2) = xs:=zNK tO
     rw [hfull] at ht hk'
     have hS3 : zA0 (some 2) (.sl (some true) b 2 0 n) (some (zK k')) none = some (.sl (some true) b 2 k' (n - k')):=sl_from tO
     have hS4 : zA0 (some 2) (.sl (some true) b 2 0 n) none (some (zK k')) = some (.sl (some true) b 2 0 k'):=sl_to hk'0 tO
     have hrow : (ys.map cV).take k' ++ List.replicate (n - k') (AV.agg zV9) ++ (ys.map cV).drop (k' + (n - k')) = (padL xs).map cV:=by
      rw [show k' + (n - k') = n by omega,List.drop_of_length_le (by simp; omega),zN6,← List.map_take,ht]
      unfold padL
      rw [zNI,zPP,hn,← hk']
      rfl
     obtain ⟨o1,o2⟩:=set_old hbl 2 ((padL xs).map cV)
     rw [← hk']
     refine zDv ?_; refine zW tF ?_; refine zl hS3 ?_; refine sClear hb2 (by simp; omega) tO rfl ?_; refine zl hS4 ?_; refine sRetW rfl rfl (zMm hbl) (by simp [AV.bel,hbl]) ?_ ?_
     ·rw [hrow,hH2,zOd]; exact o1
     ·rw [hrow,hH2,zOd]; exact o2
   ·rw [zMq he] at hst
    have ex : zIW false (p.1 == q.1 && (p.2 == q.2 && true)) = false:=by rw [cell_ne he]; rfl
    refine zDv ?_; refine zc tT ?_; refine sAt ⟨by omega,by omega⟩ ?_; refine zBJ k (cV p) (cV p) tO hb hpm rfl ?_; refine zN (r:=k - 1) tO tO ?_; refine sAt ⟨by omega,by omega⟩ ?_; refine zBJ (k - 1) (cV q) (cV q) tO hb hqm rfl ?_; refine zl rfl ?_; refine zW ex ?_; refine zN (r:=k + 1) rfl tO ?_; refine zAC (k + 1) rfl ⟨rfl,by omega,by omega, ?_⟩ tO
    rw [hst,hck,zOD,hp]; rfl
  ·have hfull : xs.take k = xs:=zNK tO
   rw [hfull] at hck
   obtain ⟨e1,e2⟩:=hsame hck
   rw [e1,e2]
   refine zDv ?_; refine zW tF ?_
   exact sRetW rfl rfl (zMm hbl) (by simp [AV.bel,hbl]) hO0.1 hO0.2
end
end Go.AM
set_option maxRecDepth 100000
namespace Go.Proofs.YthllabjbdobpgaaGreatDoor
open Go.AM Go.Shelf Go.RowKit Go.Lib Go.Sort Go.Proofs
set_option maxHeartbeats 2000000 in
theorem ins_nil (fv : Value) (w : World) : Calls Tryz.prog 62 #[.slice none 0 0,.int .i64 0,.int .i64 0,fv] w fun e w'=>e = .returned (.tuple #[]) ∧ w' = w:=by
 go_enter Tryz.func62,Tryz.ntmps62
 go_wp2
 refine _root_.Go.wp_loop_rounds 1 ?_
 rw [rounds_succ]
 go_wp2
 go_end0
 exact ⟨rfl,rfl⟩
set_option maxHeartbeats 2000000 in
theorem pdq_nil (lim : Int) (fv : Value) (w : World) : Calls Tryz.prog 45 #[.slice none 0 0,.int .i64 0,.int .i64 0,.int .i64 lim,fv] w fun e w'=>e = .returned (.tuple #[]) ∧ w' = w:=by
 have hi:=fun W=>ins_nil fv W
 go_enter Tryz.func45,Tryz.ntmps45
 go_wp2
 refine _root_.Go.wp_loop_rounds 1 ?_
 rw [rounds_succ]
 go_wp2_with (go_at_call 62; refine (hi _).mono ?_; rintro e w' ⟨rfl,rfl⟩)
 (try simp only [Exit.inBlock,Exit.then]); refine bodyPost_ret (results_none rfl _ _ _) rfl ?_
 exact ⟨rfl,rfl⟩
set_option maxHeartbeats 2000000 in
theorem sort_nil (fv : Value) (w : World) : Calls Tryz.prog 31 #[.slice none 0 0,fv] w fun e w'=>e = .returned (.tuple #[]) ∧ w' = w:=by
 have hp:=fun lim W=>pdq_nil lim fv W
 have hl : ∀ W,Calls Tryz.prog 46 #[.int .u64 0] W fun e w'=>e = .returned (.int .i64 (Lib.bitLen 0 : Nat)) ∧ w' = W:=fun W=>by
  have h:=Any.bits_Len (SlLaysF0.n15.bits (P:=Tryz.prog) (ρ:=Tryz.ownSort_ren) { Tryz.ownSort with }) 0 W tO tO
  exact h
 go_enter Tryz.func31,Tryz.ntmps31
 go_wp2_with (first | (go_at_call 46; refine (hl _).mono ?_; rintro e w' ⟨rfl,rfl⟩) | (go_at_call 45; refine (hp _ _).mono ?_; rintro e w' ⟨rfl,rfl⟩))
 go_end0
 exact ⟨rfl,rfl⟩
theorem good_sort0 {GT : Nat → Option AV} (H : Heap) : Go.AM.Good Tryz.prog GT 31 [.lst (some true) 0 [],.fn 32 [] []] H (.tup []) H:=by
 refine zD6 Tryz.func31 (by kernel_rfl) (by kernel_rfl) rfl fun w M I cargs hS hA=>?_
 obtain ⟨v1,v2,rfl,r1,r2⟩:=relL_two hA
 obtain rfl : v1 = .slice none 0 0:=by
  cases r1 with
  | lnil=>rfl
  | lemp _ _ _ hq=>exact absurd rfl hq
  | lst _ _ _ _ _ _ _ hq=>exact absurd rfl hq
 refine Calls.mono (sort_nil v2 w) ?_
 rintro e' w' ⟨rfl,rfl⟩
 exact ⟨_,rfl,M,I,Go.AM.Grow.refl _ _ _ _,hS,.tup [] [] rfl fun i c v h _=>by simp at h⟩
section
variable {C : CSpec} {GT : Nat → Option AV}
theorem compact0_ev (H : Heap) : EFun C GT zAc [.lst (some true) 0 []] H (.lst (some true) 0 []) H:=by
 refine za ?_; refine zAz 0 (⟨_,_,rfl,.inr rfl⟩ : zBI (.lst (some true) 0 []) 2 []) rfl ?_; refine zc tT ?_
 exact sRr
end
end Go.Proofs.YthllabjbdobpgaaGreatDoor
set_option maxRecDepth 20000
namespace Go.AM
section
variable {C : CSpec} {GT : Nat → Option AV}
theorem made_ev (hR : ∀ n H,C zDd [eV n,zK n] H (.bool true) H) (hS : ∀ v w (l : List Fil) H,view H 3 v = some (l.map zR) → view H 3 w = some (l.map zR) → l.length ≤ 1000000 → C zDE [v,w] H (.bool true) H)
  (v w : AV) (l : List Fil) (n : Nat) (H : Heap) (hv : view H 3 v = some (l.map zR)) (hw : view H 3 w = some (l.map zR)) (hl : l.length ≤ 1000000) : EFun C GT zIE [v,eV n,w,zK n] H (.bool true) H:=by
 have hr:=hR n H
 have hs:=hS v w l H hv hw hl
 clear hR hS
 refine za ?_; refine zI hr ?_; refine zI hs ?_; refine zG <| zG ?_
 exact sRr
end
end Go.AM
set_option maxRecDepth 20000
namespace Go.AM
section
variable {C : CSpec} {GT : Nat → Option AV}
theorem texts_ev (lv : AV) (l : List Fil) (H : Heap) (hv : view H 3 lv = some (l.map zR)) (hs : Srtd l) (hl : l.length ≤ 1000) : EFun C GT zJH [lv] H (.mps (l.map zDa) (l.map txV)) H:=by
 have hlm : (l.map zR).length = l.length:=zMx _
 have hv0:=zDD ((Old.refl H).push [ABlk.mp [] []]) hv
 refine za ?_; refine sMkmap ?_; refine sLenN l.length hv0 hlm ?_; refine zBM (fun i : Nat=>[(9,zK i),(3,.mp H.length),(7,lv),(8,zK l.length)]) (fun i H'=>Old H H' ∧ i ≤ l.length ∧ H'[H.length]? = some (.mp ((l.take i).map zDa) ((l.take i).map txV))) (fun i=>l.length - i) 0 rfl ⟨(Old.refl H).push _,by simp,zB⟩ (fun i H1 hi=>?_)
 obtain ⟨hO,hi,hb⟩:=hi
 dsimp only
 have hv1:=zDD hO hv
 by_cases hlt : i < l.length
 ·obtain ⟨g,hg⟩ : ∃ g,l[i]? = some g:=⟨_,zMr hlt⟩
  have hgm : (l.map zR)[i]? = some (zR g):=by rw [zM2,hg]; rfl
  have htk : l.take (i + 1) = l.take i ++ [g]:=by rw [zOD,hg]; rfl
  have hput:=mput_new (l:=l.take i) (f:=g) (by rw [← htk]; exact hs.sublist (List.take_sublist _ _))
  rw [← htk] at hput
  have hbl:=(zg hb).1
  refine zc tT ?_; refine zGp i (zR g) hv1 rfl hgm (fun p hp=>?_)
  refine z6 (zR g) hp rfl ?_; refine zH (v:=zR g) (AV.cells (zR g)) zB rfl rfl rfl rfl ?_; refine zC (zn g.col g.row) (zE zB) rfl ?_; refine zC (AV.str g.text) (zE zB) rfl ?_; refine sMset (zA tO (zD hb)) rfl rfl hput ?_; refine zN (r:=i + 1) rfl tO ?_; refine zAC (i + 1) rfl ⟨((hO.push _).set hO.1 _).set (zMv _) _,by omega, ?_⟩ tO
  exact set_atL (by simp; omega)
 ·have he : l.take i = l:=zNK tO
  rw [he] at hb
  refine zW tF ?_
  exact zIX rfl rfl (frz_mp (zMv _) hb) rfl (hO.set (zMv _) _)
theorem mcheck_ev (hG : ∀ lv l H,view H 3 lv = some (l.map zR) → C zDe [lv] H (eV (zAP l)) H) (v : AV) (vs : List AV) (ls : List (List Fil)) (H : Heap) (hv : view H 1 v = some vs) (hl : vs.length = ls.length) (hll : ls.length ≤ 1000)
  (hvs : ∀ (i : Nat) (x : AV) (l : List Fil),vs[i]? = some x → ls[i]? = some l → x.cells = [x] ∧ view H 3 x = some (l.map zR)) : EFun C GT zJG [v] H (eV (zAb ls)) H:=by
 obtain ⟨R,hR⟩ : ∃ R,zAb ls = R:=⟨_,rfl⟩
 rw [hR]
 refine za ?_; refine sLenN ls.length hv hl ?_; refine zBM (fun i : Nat=>[(8,zK i),(6,v),(7,zK ls.length)]) (fun i H'=>H' = H ∧ i ≤ ls.length ∧ zAb (ls.drop i) = R) (fun i=>ls.length - i) 0 rfl ⟨rfl,by simp,hR⟩ (fun i H1 hi=>?_)
 obtain ⟨hH,hi,hk⟩:=hi
 subst hH
 dsimp only
 by_cases hlt : i < ls.length
 ·obtain ⟨l,hli⟩ : ∃ l,ls[i]? = some l:=⟨_,zMr hlt⟩
  obtain ⟨x,hx⟩ : ∃ x,vs[i]? = some x:=⟨_,zMr tO⟩
  obtain ⟨hc,hxv⟩:=hvs i x l hx hli
  have hg:=hG x l H1 hxv
  rw [checkAll_drop ls i l hli] at hk
  have hpt : part x.cells 0 1 false = some x:=by rw [hc]; rfl
  by_cases h0 : zAP l = 0
  ·rw [zMt h0] at hk
   rw [h0] at hg
   have hg : C zDe [x] H1 .nili H1:=hg
   refine zc tT ?_; refine zGp i x hv rfl hx (fun p hp=>?_)
   refine z6 x hp hpt ?_; refine zI hg ?_; refine zl rfl ?_; refine zF ?_; refine zN (r:=i + 1) rfl tO ?_; refine zAC (i + 1) rfl ⟨rfl,by omega,hk⟩ tO
  ·rw [zMq h0] at hk
   rw [hk] at hg h0
   have he : eV R = zEJ (R : Nat):=by unfold eV; rw [zMq h0]
   rw [he] at hg ⊢
   refine zc tT ?_; refine zGp i x hv rfl hx (fun p hp=>?_)
   refine z6 x hp hpt ?_; refine zI hg ?_; refine zl rfl ?_; refine zG ?_
   exact sRr
 ·have : ls.drop i = []:=List.drop_of_length_le tO
  rw [this] at hk
  have hk : R = 0:=hk.symm
  subst hk
  refine zW tF ?_
  exact sRr
end
end Go.AM
set_option maxRecDepth 20000
namespace Go.AM
theorem flat_take (ls : List (List Fil)) (i : Nat) (l : List Fil) (h : ls[i]? = some l) : (ls.take (i + 1)).flatMap (fun l=>l.map zDa) = (ls.take i).flatMap (fun l=>l.map zDa) ++ l.map zDa:=by
 rw [zOD,h,zPm]
 simp
section
variable {C : CSpec} {GT : Nat → Option AV}
set_option maxHeartbeats 4000000 in
theorem cells_ev (hS : ∀ (b : Nat) (xs : List (Int × Int)) H,H[b]? = some (.row 2 (xs.map cV)) → xs ≠ [] → xs.length ≤ 1000 → C zAa [.sl (some true) b 2 0 xs.length,.fn zBC [] []] H (.tup []) (H.set b (.row 2 ((zDR xs).map cV))))
  (hS0 : ∀ H,C zAa [.lst (some true) 0 [],.fn zBC [] []] H (.tup []) H) (hC0 : ∀ H,C zq [.lst (some true) 0 []] H (.lst (some true) 0 []) H)
  (hC : ∀ (b : Nat) (xs : List (Int × Int)) H,H[b]? = some (.row 2 (xs.map cV)) → xs ≠ [] → xs.length ≤ 1000 → C zq [.sl (some true) b 2 0 xs.length] H (.sl (some true) b 2 0 (zk xs).length) (H.set b (.row 2 ((padL xs).map cV))))
  (v : AV) (vs : List AV) (ls : List (List Fil)) (H : Heap) (hv : view H 1 v = some vs) (hl : vs.length = ls.length) (hll : ls.length ≤ 3) (hle : ∀ l ∈ ls,l.length ≤ 200)
  (hvs : ∀ (i : Nat) (x : AV) (l : List Fil),vs[i]? = some x → ls[i]? = some l → x.cells = [x] ∧ x.one = true ∧ view H 3 x = some (l.map zR)) : EFun C GT zJI [v] H (zIo 2 ((zDt ls).map cV)) H:=by
 have hvl:=view_one hv
 obtain ⟨F,hF⟩ : ∃ F,ls.flatMap (fun l=>l.map zDa) = F:=⟨_,rfl⟩
 have hFl : F.length ≤ 600:=by
  rw [← hF,zPn]
  have : ∀ ls : List (List Fil),(∀ l ∈ ls,l.length ≤ 200) → (ls.map fun l=>(l.map zDa).length).sum ≤ 200 * ls.length:=fun ls h=>by
   induction ls with
   | nil=>simp
   | cons l r ih=>
    have h1:=h l (by simp)
    have h2:=ih fun x hx=>h x (zN1 _ hx)
    simp only [zM4,List.sum_cons,zMx,zMu] at *
    omega
  have:=this ls hle
  omega
 refine za ?_; refine sLenN ls.length hv hl ?_; refine zBM (fun x : Nat × AV=>[(3,x.2),(10,zK x.1),(8,v),(9,zK ls.length)]) (fun x H'=>Old H H' ∧ x.1 ≤ ls.length ∧ Owns H H' x.2 2 (((ls.take x.1).flatMap fun l=>l.map zDa).map cV)) (fun x=>ls.length - x.1) (0,.lst (some true) 0 []) rfl ⟨Old.refl H,by simp,.inl ⟨rfl,by simp⟩⟩ (fun x H1 hi=>?_)
 obtain ⟨i,out⟩:=x
 obtain ⟨hO,hi,ho⟩:=hi
 dsimp only at hi ho ⊢
 have hv1:=zDD hO hv
 by_cases hlt : i < ls.length
 ·obtain ⟨l,hli⟩ : ∃ l,ls[i]? = some l:=⟨_,zMr hlt⟩
  obtain ⟨x,hx⟩ : ∃ x,vs[i]? = some x:=⟨_,zMr tO⟩
  obtain ⟨hc,hx1,hxv⟩:=hvs i x l hx hli
  have hll2:=hle l (zNG hli)
  have hxv1:=zDD hO hxv
  have hlm : (l.map zR).length = l.length:=zMx _
  have hpt : part x.cells 0 1 false = some x:=by rw [hc]; rfl
  obtain ⟨base,hbase⟩ : ∃ base,(ls.take i).flatMap (fun l=>l.map zDa) = base:=⟨_,rfl⟩
  have hbl : base.length ≤ 600:=by
   have e : ls = ls.take i ++ ls.drop i:=(zOO i ls).symm
   have : F = base ++ (ls.drop i).flatMap (fun l=>l.map zDa):=by rw [← hF,← hbase,← List.flatMap_append,← e]
   rw [this,zM3] at hFl; omega
  have hbn:=flat_take ls i l hli
  rw [hbase] at ho hbn
  refine zc tT ?_; refine zGp i x hv1 rfl hx (fun p hp=>?_)
  refine z6 x hp hpt ?_; refine sLenN l.length hxv1 hlm ?_; refine zBM (fun y : Nat × AV=>[(16,zK y.1),(3,y.2),(14,x),(8,v),(9,zK ls.length),(10,zK i),(15,zK l.length)]) (fun y H'=>Old H H' ∧ y.1 ≤ l.length ∧ Owns H H' y.2 2 ((base ++ (l.take y.1).map zDa).map cV)) (fun y=>l.length - y.1) (0,out) rfl ⟨hO,by simp,by simpa using ho⟩ (fun y H2 hi2=>?_)
  obtain ⟨j,out2⟩:=y
  obtain ⟨hO2,hj,ho2⟩:=hi2
  dsimp only at hj ho2 ⊢
  by_cases hlt2 : j < l.length
  ·obtain ⟨g,hg⟩ : ∃ g,l[j]? = some g:=⟨_,zMr hlt2⟩
   have hgm : (l.map zR)[j]? = some (zR g):=by rw [zM2,hg]; rfl
   have hxv2:=zDD hO2 hxv
   have htk : (l.take (j + 1)).map zDa = (l.take j).map zDa ++ [zDa g]:=by rw [zOD,hg]; simp
   refine zc tT ?_; refine zGp j (zR g) hxv2 rfl hgm (fun p hp=>?_)
   refine z6 (zR g) hp rfl ?_; refine zH (v:=zR g) (AV.cells (zR g)) zB rfl rfl rfl rfl ?_; refine zC (zn g.col g.row) (zE zB) rfl ?_; refine zAF rfl rfl ?_; refine zAq (H0:=H) (ys:=[cV (zDa g)]) ((ho2.pushSet _ _).push _) (((hO2.push _).set hO2.1 _).push _) zAM (by decide) (by simp only [zMx,zM3,zM8,zO6]; omega) (by simp) (fun v' H' ho' hO' _ hfr=>?_)
   refine zN (r:=j + 1) rfl tO ?_; refine zAC (j + 1,v') rfl ⟨hO',by simp only; omega, ?_⟩ (by simp only; omega)
   have e : [cV (zDa g)] = [zDa g].map cV:=rfl
   rw [e,← List.map_append] at ho'
   rw [htk,← List.append_assoc]
   exact ho'
  ·have he : l.take j = l:=zNK tO
   rw [he,← hbn] at ho2
   refine zW tF ?_; refine zN (r:=i + 1) rfl tO ?_; refine zAC (i + 1,out2) rfl ⟨hO2,by simp only; omega,ho2⟩ (by simp only; omega)
 ·have he : ls.take i = ls:=zNK tO
  rw [he,hF] at ho
  refine zW tF ?_
  rcases ho with ⟨rfl,hnil⟩ | ⟨b,rfl,hb0,hb,hne⟩
  ·have hF0 : F = []:=zOa.1 hnil
   have hcs : zDt ls = []:=by unfold zDt; rw [hF,hF0,show zDR [] = [] from zOX.1 (zEa []).length_eq]; rfl
   rw [hcs]
   refine zI (hS0 _) ?_; refine zI (hC0 _) ?_
   exact zBN rfl rfl rfl rfl hO
  ·have hFn : F ≠ []:=fun e=>hne (by rw [e]; rfl)
   have hbl:=(zg hb).1
   have hs:=hS b F H1 hb hFn tO
   have hsl : (zDR F).length = F.length:=(zEa F).length_eq
   have hsn : zDR F ≠ []:=fun e=>hFn (zOX.1 (by rw [← hsl,e]; rfl))
   have hc:=hC b (zDR F) (H1.set b (.row 2 ((zDR F).map cV))) (zNB hbl) hsn tO
   have hcs : zDt ls = zk (zDR F):=by unfold zDt; rw [hF]
   rw [zMx]
   rw [hsl,zOd] at hc
   have hcn : (zDt ls).map cV ≠ []:=by
    rw [hcs]
    intro e
    have e:=zOa.1 e
    obtain ⟨z,r,hz⟩:=zOL hsn
    have:=(zDY (zDR F) z).2 (by rw [hz]; simp)
    rw [e] at this; simp at this
   have hfz : zDJ H.length (.sl (some true) b 2 0 (zk (zDR F)).length) (H1.set b (.row 2 ((padL (zDR F)).map cV))) = some (zIo 2 ((zDt ls).map cV),(H1.set b (.row 2 ((padL (zDR F)).map cV))).set b (.frz 2 ((padL (zDR F)).map cV))):=by
    simp only [zDJ]
    rw [zMq tO,zNB hbl]
    have hle : 0 + (zk (zDR F)).length ≤ ((padL (zDR F)).map cV).length:=by unfold padL; simp
    have htk : (((padL (zDR F)).map cV).drop 0).take (zk (zDR F)).length = (zDt ls).map cV:=by
     rw [zO8,← List.map_take,hcs]
     unfold padL
     rw [List.take_left]
    simp only [true_and,zMt hle,htk]
    rw [hcs] at hcn ⊢
    cases hq : (zk (zDR F)).map cV with
    | nil=>exact absurd hq hcn
    | cons z r=>rfl
   refine zAZ hs (fun h=>by cases h) ?_; refine zAZ hc (fun h=>by cases h) ?_
   exact zIX rfl rfl hfz (lstF_bel _ _ _) ((hO.set hb0 _).set hb0 _)
end
end Go.AM
