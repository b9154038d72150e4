/- Several texts of mine in one (Mcp, Ms0, Mw1, Mw2, Mw3). Own work. -/
import Derived.Test.YtmmbcogejaofpaaGreatDoorGOpvMev
import Derived.Test.YtmmbcogejaofpaaGreatDoorGDelWtc
import Derived.Test.YtmmbcogejaofpaaGreatDoorGMcMk
import Derived.Test.YtmmbcogejaofpaaGreatDoorGAm23Am29
set_option linter.all false
set_option maxRecDepth 20000
namespace Go.AM
theorem set_old {H : Heap} {b : Nat} (hb : b < H.length) (k : Nat) (ys : List AV) : OldOK H (H.set b (.row k ys)) ∧ H.set b (.row k ys) = (H.set b (.row k ys)).take H.length:=by
 refine ⟨fun c hc=>?_, ?_⟩
 ·by_cases e : b = c
  ·subst e; exact .inr ⟨_,List.getElem?_set_self hc,rfl⟩
  ·exact .inl (List.getElem?_set_ne e)
 ·exact (List.take_of_length_le (by rw [List.length_set]; exact Nat.le_refl _)).symm
theorem sStoreK2 {b i : Nat} (j : Nat) (p q : Int × Int) {H : Heap} {xs : List AV} {K : AV → Heap → Prop} (hi : i = j) (h : H[b]? = some (.row 2 xs)) (hx : xs[j]? = some (cV q)) (k : K .undef (H.set b (.row 2 (xs.set j (cV p))))) : actP (.store 2) [.ref b 2 i 0,cV p] H K:=by
 subst hi
 refine sAct ?_ k
 have e : zB0 0 (cV p) H = some (cV p,H):=rfl
 simp only [astep]
 rw [if_pos ⟨rfl,rfl⟩,h]
 simp only [e,h,hx]
 rw [if_pos ⟨trivial,by omega,by omega,rfl⟩]
 rfl
theorem sl_from {b k n : Nat} (h : k < n) : zAq (some 2) (.sl (some true) b 2 0 n) (some (zP k)) none = some (.sl (some true) b 2 k (n - k)):=by
 have hb : zB2 n (some (zP k)) none = some (k,n):=by
  have : k ≤ n:=by omega
  simp [zB2,aHi,aLo,zP,this]
 simp only [zAq,if_true]
 rw [hb]
 simp [cutQ,h]
theorem sl_to {b k n : Nat} (h0 : 0 < k) (h : k ≤ n) : zAq (some 2) (.sl (some true) b 2 0 n) none (some (zP k)) = some (.sl (some true) b 2 0 k):=by
 have hb : zB2 n none (some (zP k)) = some (0,k):=by simp [zB2,aHi,aLo,zP,h]
 simp only [zAq,if_true]
 rw [hb]
 simp [cutQ,h0]
theorem cell_ne {p q : Int × Int} (h : q ≠ p) : (p.1 == q.1 && (p.2 == q.2 && true)) = false:=by
 rw [Bool.and_true]
 cases hx : (p.1 == q.1)
 ·rfl
 ·cases hy : (p.2 == q.2)
  ·rfl
  ·exact absurd (Prod.ext (beq_iff_eq.1 hx).symm (beq_iff_eq.1 hy).symm) h
theorem zIG {n0 b k off len : Nat} {q : Option Bool} {H : Heap} (h : b < n0) : zB0 n0 (.sl q b k off len) H = some (.sl q b k off len,H):=by simp only [zB0]; rw [if_pos h]
def padL (xs : List (Int × Int)) : List (Int × Int):=zM xs ++ List.replicate (xs.length - (zM xs).length) (0,0)
theorem take_two {xs : List (Int × Int)} {k : Nat} {p q : Int × Int} (h1 : 1 ≤ k) (hp : xs[k]? = some p) (hq : xs[k - 1]? = some q) : xs.take (k + 1) = xs.take (k - 1) ++ [q,p] ∧ xs.take k = xs.take (k - 1) ++ [q]:=by
 have e1 : xs.take k = xs.take (k - 1) ++ [q]:=by
  conv=>lhs; rw [show k = k - 1 + 1 by omega]
  rw [List.take_succ,hq]; rfl
 refine ⟨?_,e1⟩
 rw [List.take_succ,hp,e1]; simp
theorem zGi {xs : List (Int × Int)} {k : Nat} {p q : Int × Int} (h1 : 1 ≤ k) (hp : xs[k]? = some p) (hq : xs[k - 1]? = some q) : zM (xs.take (k + 1)) = if q = p then zM (xs.take k) else zM (xs.take k) ++ [p]:=by
 obtain ⟨e1,e2⟩:=take_two h1 hp hq
 rw [e1,zF6,e2]
section
variable {C : CSpec} {GT : Nat → Option AV}
set_option maxHeartbeats 4000000 in
theorem compact_ev (b : Nat) (xs : List (Int × Int)) (H : Heap) (hb : H[b]? = some (.row 2 (xs.map cV))) (hne : xs ≠ []) (hl : xs.length ≤ 1000) :
  EFun C GT zu [.sl (some true) b 2 0 xs.length] H (.sl (some true) b 2 0 (zM xs).length) (H.set b (.row 2 ((padL xs).map cV))):=by
 obtain ⟨n,hn⟩ : ∃ n,xs.length = n:=⟨_,rfl⟩
 have hn0 : 0 < n:=by rw [← hn]; exact List.length_pos_iff.2 hne
 have hbl:=(zg hb).1
 have hsame : zM xs = xs → AV.sl (some true) b 2 0 (zM xs).length = .sl (some true) b 2 0 n ∧ H.set b (.row 2 ((padL xs).map cV)) = H:=fun e=>by
  refine ⟨by rw [e,hn], ?_⟩
  unfold padL
  rw [e,Nat.sub_self,List.replicate_zero,List.append_nil]
  exact zHC hb
 have hO0 : OldOK H H ∧ H = H.take H.length:=⟨fun c _=>.inl rfl,(List.take_length).symm⟩
 rw [hn]
 refine ze ?_
 by_cases h2 : n < 2
 ·have e : zM xs = xs:=by
   match xs,hn with
   | [],hn=>simp at hn; omega
   | [x],_=>rfl
   | x :: y :: r,hn=>simp at hn; omega
  obtain ⟨e1,e2⟩:=hsame e
  rw [e1,e2]
  refine zEY ?_; refine za (tT) ?_
  exact sRetW rfl rfl (zIG hbl) (by simp [AV.bel,hbl]) hO0.1 hO0.2
 ·refine zEY ?_; refine zV (tF) ?_; refine zCI (fun k : Nat=>[(3,zP k),(0,.sl (some true) b 2 0 n)]) (fun k H'=>H' = H ∧ 1 ≤ k ∧ k ≤ n ∧ zM (xs.take k) = xs.take k) (fun k=>n - k) 1 rfl ⟨rfl,by omega,by omega,by
   obtain ⟨x,r,rfl⟩:=List.exists_cons_of_ne_nil hne
   rfl⟩ (fun k H1 hi=>?_)
  obtain ⟨hH,hk1,hkn,hck⟩:=hi
  subst hH
  dsimp only
  by_cases hlt : k < n
  ·obtain ⟨p,hp⟩ : ∃ p,xs[k]? = some p:=⟨_,List.getElem?_eq_getElem tO⟩
   obtain ⟨q,hq⟩ : ∃ q,xs[k - 1]? = some q:=⟨_,List.getElem?_eq_getElem tO⟩
   have hpm : (xs.map cV)[k]? = some (cV p):=by rw [List.getElem?_map,hp]; rfl
   have hqm : (xs.map cV)[k - 1]? = some (cV q):=by rw [List.getElem?_map,hq]; rfl
   have hst:=zGi hk1 hp hq
   have hS2 : zAq (some 2) (.sl (some true) b 2 0 n) (some (zP k)) none = some (.sl (some true) b 2 k (n - k)):=sl_from hlt
   by_cases he : q = p
   ·rw [if_pos he] at hst
    have ex : negB false (p.1 == q.1 && (p.2 == q.2 && true)) = true:=by subst he; simp [negB]
    refine zEY ?_; refine za tT ?_; refine sAt ⟨by omega,by omega⟩ ?_; refine zAs k (cV p) (cV p) tO hb hpm rfl ?_; refine zb (r:=k - 1) tO tO ?_; refine sAt ⟨by omega,by omega⟩ ?_; refine zAs (k - 1) (cV q) (cV q) tO hb hqm rfl ?_; refine zT rfl ?_; refine za ex ?_; refine zT hS2 ?_; refine zCI (fun x : Nat × Nat × List (Int × Int)=>[(5,zP x.1),(3,zP x.2.1),(4,.sl (some true) b 2 k (n - k)),(0,.sl (some true) b 2 0 n)]) (fun x H'=>H' = H1.set b (.row 2 (x.2.2.map cV)) ∧ x.2.2.length = n ∧ 1 ≤ x.1 ∧ k + x.1 ≤ n ∧ x.2.2.take x.2.1 = zM (xs.take (k + x.1)) ∧ x.2.1 = (zM (xs.take (k + x.1))).length ∧ x.2.1 + 1 ≤ k + x.1 ∧ ∀ j,k + x.1 ≤ j + 1 → x.2.2[j]? = xs[j]?) (fun x=>n - x.1) (1,k,xs) rfl ⟨(zHC hb).symm,hn,by simp,by simp only; omega,by simp only; rw [hst,hck],by simp only; rw [hst,hck,List.length_take]; omega,by simp only; omega,fun _ _=>rfl⟩ (fun x H2 hi2=>?_)
    obtain ⟨k2,k',ys⟩:=x
    dsimp only at hi2 ⊢
    obtain ⟨hH2,hy,hk2,hkk,ht,hk',hkb,hsame2⟩:=hi2
    have hb2 : H2[b]? = some (.row 2 (ys.map cV)):=by rw [hH2]; exact List.getElem?_set_self hbl
    have hk'0 : 0 < k':=by
     rw [hk']
     refine List.length_pos_iff.2 fun e=>?_
     have:=(zBm (xs.take (k + k2)) (xs[0]'tO)).2 (by
      rw [List.mem_iff_getElem]
      exact ⟨0,by rw [List.length_take]; omega,by rw [List.getElem_take]⟩)
     rw [e] at this; simp at this
    by_cases hlt2 : k + k2 < n
    ·obtain ⟨p2,hp2⟩ : ∃ p,xs[k + k2]? = some p:=⟨_,List.getElem?_eq_getElem tO⟩
     obtain ⟨q2,hq2⟩ : ∃ q,xs[k + k2 - 1]? = some q:=⟨_,List.getElem?_eq_getElem tO⟩
     obtain ⟨r2,hr2⟩ : ∃ q,ys[k']? = some q:=⟨_,List.getElem?_eq_getElem tO⟩
     have hpm2 : (ys.map cV)[k + k2]? = some (cV p2):=by rw [List.getElem?_map,hsame2 _ tO,hp2]; rfl
     have hqm2 : (ys.map cV)[k + k2 - 1]? = some (cV q2):=by rw [List.getElem?_map,hsame2 _ tO,hq2]; rfl
     have hrm2 : (ys.map cV)[k']? = some (cV r2):=by rw [List.getElem?_map,hr2]; rfl
     have hst2:=zGi (k:=k + k2) tO hp2 hq2
     by_cases he2 : q2 = p2
     ·rw [if_pos he2] at hst2
      have ex2 : negB true (p2.1 == q2.1 && (p2.2 == q2.2 && true)) = false:=by subst he2; simp [negB]
      refine zEY ?_; refine za tT ?_; refine sAt ⟨by omega,by omega⟩ ?_; refine zAs (k + k2) (cV p2) (cV p2) tO hb2 hpm2 rfl ?_; refine zb (r:=k2 - 1) tO tO ?_; refine sAt ⟨by omega,by omega⟩ ?_; refine zAs (k + k2 - 1) (cV q2) (cV q2) tO hb2 hqm2 rfl ?_; refine zT rfl ?_; refine zV ex2 ?_; refine zb (r:=k2 + 1) rfl tO ?_; refine zAf (k2 + 1,k',ys) rfl ⟨hH2,hy,by simp only; omega,by simp only; omega,by simp only; rw [ht]; exact hst2.symm,by simp only; rw [hk']; exact congrArg List.length hst2.symm,by simp only; omega,fun j hj=>hsame2 j (by simp only at hj; omega)⟩ (by simp only; omega)
     ·rw [if_neg he2] at hst2
      have ex2 : negB true (p2.1 == q2.1 && (p2.2 == q2.2 && true)) = true:=by rw [cell_ne he2]; rfl
      refine zEY ?_; refine za tT ?_; refine sAt ⟨by omega,by omega⟩ ?_; refine zAs (k + k2) (cV p2) (cV p2) tO hb2 hpm2 rfl ?_; refine zb (r:=k2 - 1) tO tO ?_; refine sAt ⟨by omega,by omega⟩ ?_; refine zAs (k + k2 - 1) (cV q2) (cV q2) tO hb2 hqm2 rfl ?_; refine zT rfl ?_; refine za ex2 ?_; refine sAt ⟨by omega,by omega⟩ ?_; refine zAs (k + k2) (cV p2) (cV p2) tO hb2 hpm2 rfl ?_; refine sAt ⟨by omega,by omega⟩ ?_
      refine sStoreK2 k' p2 r2 tO hb2 hrm2 ?_; refine zb (r:=k' + 1) rfl tO ?_; refine zb (r:=k2 + 1) rfl tO ?_; refine zAf (k2 + 1,k' + 1,ys.set k' p2) rfl ⟨?_,by simp only [List.length_set]; exact hy,by simp only; omega,by simp only; omega, ?_, ?_,by simp only; omega,fun j hj=>?_⟩ (by simp only; omega)
      ·simp only
       rw [hH2,List.set_set,List.map_set]
      ·simp only
       rw [show k + (k2 + 1) = k + k2 + 1 by omega,hst2,← ht,List.take_succ,List.getElem?_set_self tO,List.take_set_of_le tO]
       rfl
      ·simp only
       rw [show k + (k2 + 1) = k + k2 + 1 by omega,hst2,List.length_append,← hk']; rfl
      ·simp only at hj ⊢
       rw [List.getElem?_set_ne tO]
       exact hsame2 j tO
    ·have hfull : xs.take (k + k2) = xs:=List.take_of_length_le tO
     rw [hfull] at ht hk'
     have hS3 : zAq (some 2) (.sl (some true) b 2 0 n) (some (zP k')) none = some (.sl (some true) b 2 k' (n - k')):=sl_from tO
     have hS4 : zAq (some 2) (.sl (some true) b 2 0 n) none (some (zP k')) = some (.sl (some true) b 2 0 k'):=sl_to hk'0 tO
     have hrow : (ys.map cV).take k' ++ List.replicate (n - k') (AV.agg [.int .i64 0,.int .i64 0]) ++ (ys.map cV).drop (k' + (n - k')) = (padL xs).map cV:=by
      rw [show k' + (n - k') = n by omega,List.drop_of_length_le (by simp; omega),List.append_nil,← List.map_take,ht]
      unfold padL
      rw [List.map_append,List.map_replicate,hn,← hk']
      rfl
     obtain ⟨o1,o2⟩:=set_old hbl 2 ((padL xs).map cV)
     rw [← hk']
     refine zEY ?_; refine zV tF ?_; refine zT hS3 ?_; refine sClear hb2 (by simp; omega) tO rfl ?_; refine zT hS4 ?_; refine sRetW rfl rfl (zIG hbl) (by simp [AV.bel,hbl]) ?_ ?_
     ·rw [hrow,hH2,List.set_set]; exact o1
     ·rw [hrow,hH2,List.set_set]; exact o2
   ·rw [if_neg he] at hst
    have ex : negB false (p.1 == q.1 && (p.2 == q.2 && true)) = false:=by rw [cell_ne he]; rfl
    refine zEY ?_; refine za tT ?_; refine sAt ⟨by omega,by omega⟩ ?_; refine zAs k (cV p) (cV p) tO hb hpm rfl ?_; refine zb (r:=k - 1) tO tO ?_; refine sAt ⟨by omega,by omega⟩ ?_; refine zAs (k - 1) (cV q) (cV q) tO hb hqm rfl ?_; refine zT rfl ?_; refine zV ex ?_; refine zb (r:=k + 1) rfl tO ?_; refine zAf (k + 1) rfl ⟨rfl,by omega,by omega, ?_⟩ tO
    rw [hst,hck,List.take_succ,hp]; rfl
  ·have hfull : xs.take k = xs:=List.take_of_length_le tO
   rw [hfull] at hck
   obtain ⟨e1,e2⟩:=hsame hck
   rw [e1,e2]
   refine zEY ?_; refine zV tF ?_
   exact sRetW rfl rfl (zIG hbl) (by simp [AV.bel,hbl]) hO0.1 hO0.2
end
end Go.AM
set_option maxRecDepth 100000
namespace Go.Proofs.YtmmbcogejaofpaaGreatDoor
open Go.AM Go.Shelf Go.RowKit Go.Lib Go.Sort Go.Proofs
set_option maxHeartbeats 2000000 in
theorem ins_nil (fv : Value) (w : World) : Calls Tryz.prog 57 #[.slice none 0 0,.int .i64 0,.int .i64 0,fv] w fun e w'=>e = .returned (.tuple #[]) ∧ w' = w:=by
 go_enter Tryz.func57,Tryz.ntmps57
 go_wp2
 refine _root_.Go.wp_loop_rounds 1 ?_
 rw [rounds_succ]
 go_wp2
 go_end0
 exact ⟨rfl,rfl⟩
set_option maxHeartbeats 2000000 in
theorem pdq_nil (lim : Int) (fv : Value) (w : World) : Calls Tryz.prog 41 #[.slice none 0 0,.int .i64 0,.int .i64 0,.int .i64 lim,fv] w fun e w'=>e = .returned (.tuple #[]) ∧ w' = w:=by
 have hi:=fun W=>ins_nil fv W
 go_enter Tryz.func41,Tryz.ntmps41
 go_wp2
 refine _root_.Go.wp_loop_rounds 1 ?_
 rw [rounds_succ]
 go_wp2_with (go_at_call 57; refine (hi _).mono ?_; rintro e w' ⟨rfl,rfl⟩)
 (try simp only [Exit.inBlock,Exit.then]); refine bodyPost_ret (results_none rfl _ _ _) rfl ?_
 exact ⟨rfl,rfl⟩
set_option maxHeartbeats 2000000 in
theorem sort_nil (fv : Value) (w : World) : Calls Tryz.prog 27 #[.slice none 0 0,fv] w fun e w'=>e = .returned (.tuple #[]) ∧ w' = w:=by
 have hp:=fun lim W=>pdq_nil lim fv W
 have hl : ∀ W,Calls Tryz.prog 42 #[.int .u64 0] W fun e w'=>e = .returned (.int .i64 (Lib.bitLen 0 : Nat)) ∧ w' = W:=fun W=>by
  have h:=Any.bits_Len (SlLaysF0.n15.bits (P:=Tryz.prog) (ρ:=Tryz.ownSort_ren) { Tryz.ownSort with }) 0 W tO tO
  exact h
 go_enter Tryz.func27,Tryz.ntmps27
 go_wp2_with (first | (go_at_call 42; refine (hl _).mono ?_; rintro e w' ⟨rfl,rfl⟩) | (go_at_call 41; refine (hp _ _).mono ?_; rintro e w' ⟨rfl,rfl⟩))
 go_end0
 exact ⟨rfl,rfl⟩
theorem good_sort0 {GT : Nat → Option AV} (H : Heap) : Go.AM.Good Tryz.prog GT 27 [.lst (some true) 0 [],.fn 28 [] []] H (.tup []) H:=by
 refine zE2 Tryz.func27 (by kernel_rfl) (by kernel_rfl) rfl fun w M I cargs hS hA=>?_
 obtain ⟨v1,v2,rfl,r1,r2⟩:=zHA hA
 obtain rfl : v1 = .slice none 0 0:=by
  cases r1 with
  | lnil=>rfl
  | lemp _ _ _ hq=>exact absurd rfl hq
  | lst _ _ _ _ _ _ _ hq=>exact absurd rfl hq
 refine Calls.mono (sort_nil v2 w) ?_
 rintro e' w' ⟨rfl,rfl⟩
 exact ⟨_,rfl,M,I,Go.AM.Grow.refl _ _ _ _,hS,.tup [] [] rfl fun i c v h _=>by simp at h⟩
section
variable {C : CSpec} {GT : Nat → Option AV}
theorem compact0_ev (H : Heap) : EFun C GT zu [.lst (some true) 0 []] H (.lst (some true) 0 []) H:=by
 refine ze ?_; refine sLenO 0 (⟨_,_,rfl,.inr rfl⟩ : zCJ (.lst (some true) 0 []) 2 []) rfl ?_; refine za tT ?_
 exact sRr
end
end Go.Proofs.YtmmbcogejaofpaaGreatDoor
set_option maxRecDepth 20000
namespace Go.AM
section
variable {C : CSpec} {GT : Nat → Option AV}
theorem texts_ev (lv : AV) (l : List Fil) (H : Heap) (hv : view H 3 lv = some (l.map zZ)) (hs : Srtd l) (hl : l.length ≤ 1000) : EFun C GT zFl [lv] H (.mps (l.map zB1) (l.map txV)) H:=by
 have hlm : (l.map zZ).length = l.length:=List.length_map _
 have hv0:=zCv ((Old.refl H).push [ABlk.mp [] []]) hv
 refine ze ?_; refine sMkmap ?_; refine sLenN l.length hv0 hlm ?_; refine zCI (fun i : Nat=>[(9,zP i),(3,.mp H.length),(7,lv),(8,zP l.length)]) (fun i H'=>Old H H' ∧ i ≤ l.length ∧ H'[H.length]? = some (.mp ((l.take i).map zB1) ((l.take i).map txV))) (fun i=>l.length - i) 0 rfl ⟨(Old.refl H).push _,by simp,zD⟩ (fun i H1 hi=>?_)
 obtain ⟨hO,hi,hb⟩:=hi
 dsimp only
 have hv1:=zCv hO hv
 by_cases hlt : i < l.length
 ·obtain ⟨g,hg⟩ : ∃ g,l[i]? = some g:=⟨_,List.getElem?_eq_getElem hlt⟩
  have hgm : (l.map zZ)[i]? = some (zZ g):=by rw [List.getElem?_map,hg]; rfl
  have htk : l.take (i + 1) = l.take i ++ [g]:=by rw [List.take_succ,hg]; rfl
  have hput:=mput_new (l:=l.take i) (f:=g) (by rw [← htk]; exact hs.sublist (List.take_sublist _ _))
  rw [← htk] at hput
  have hbl:=(zg hb).1
  refine za tT ?_; refine zB4 i (zZ g) hv1 rfl hgm (fun p hp=>?_)
  refine zAT (zZ g) hp rfl ?_; refine zG (v:=zZ g) (AV.cells (zZ g)) zD rfl rfl rfl rfl ?_; refine zC (zB7 g.col g.row) (zE zD) rfl ?_; refine zC (AV.str g.text) (zE zD) rfl ?_; refine sMset (zB tO (zA hb)) rfl rfl hput ?_; refine zb (r:=i + 1) rfl tO ?_; refine zAf (i + 1) rfl ⟨((hO.push _).set hO.1 _).set (Nat.le_refl _) _,by omega, ?_⟩ tO
  exact set_atL (by simp; omega)
 ·have he : l.take i = l:=List.take_of_length_le tO
  rw [he] at hb
  refine zV tF ?_
  exact sRetF rfl rfl (frz_mp (Nat.le_refl _) hb) rfl (hO.set (Nat.le_refl _) _)
theorem mcheck_ev (hG : ∀ lv l H,view H 3 lv = some (l.map zZ) → C zAA [lv] H (eV (zAV l)) H) (v : AV) (vs : List AV) (ls : List (List Fil)) (H : Heap) (hv : view H 1 v = some vs) (hl : vs.length = ls.length) (hll : ls.length ≤ 1000)
  (hvs : ∀ (i : Nat) (x : AV) (l : List Fil),vs[i]? = some x → ls[i]? = some l → x.cells = [x] ∧ view H 3 x = some (l.map zZ)) : EFun C GT zFk [v] H (eV (zAN ls)) H:=by
 obtain ⟨R,hR⟩ : ∃ R,zAN ls = R:=⟨_,rfl⟩
 rw [hR]
 refine ze ?_; refine sLenN ls.length hv hl ?_; refine zCI (fun i : Nat=>[(8,zP i),(6,v),(7,zP ls.length)]) (fun i H'=>H' = H ∧ i ≤ ls.length ∧ zAN (ls.drop i) = R) (fun i=>ls.length - i) 0 rfl ⟨rfl,by simp,hR⟩ (fun i H1 hi=>?_)
 obtain ⟨hH,hi,hk⟩:=hi
 subst hH
 dsimp only
 by_cases hlt : i < ls.length
 ·obtain ⟨l,hli⟩ : ∃ l,ls[i]? = some l:=⟨_,List.getElem?_eq_getElem hlt⟩
  obtain ⟨x,hx⟩ : ∃ x,vs[i]? = some x:=⟨_,List.getElem?_eq_getElem tO⟩
  obtain ⟨hc,hxv⟩:=hvs i x l hx hli
  have hg:=hG x l H1 hxv
  rw [checkAll_drop ls i l hli] at hk
  have hpt : part x.cells 0 1 false = some x:=by rw [hc]; rfl
  by_cases h0 : zAV l = 0
  ·rw [if_pos h0] at hk
   rw [h0] at hg
   have hg : C zAA [x] H1 .nili H1:=hg
   refine za tT ?_; refine zB4 i x hv rfl hx (fun p hp=>?_)
   refine zAT x hp hpt ?_; refine zI hg ?_; refine zT rfl ?_; refine zF ?_; refine zb (r:=i + 1) rfl tO ?_; refine zAf (i + 1) rfl ⟨rfl,by omega,hk⟩ tO
  ·rw [if_neg h0] at hk
   rw [hk] at hg h0
   have he : eV R = zD6 (R : Nat):=by unfold eV; rw [if_neg h0]
   rw [he] at hg ⊢
   refine za tT ?_; refine zB4 i x hv rfl hx (fun p hp=>?_)
   refine zAT x hp hpt ?_; refine zI hg ?_; refine zT rfl ?_; refine zH ?_
   exact sRr
 ·have : ls.drop i = []:=List.drop_of_length_le tO
  rw [this] at hk
  have hk : R = 0:=hk.symm
  subst hk
  refine zV tF ?_
  exact sRr
end
end Go.AM
set_option maxRecDepth 20000
namespace Go.AM
theorem flat_take (ls : List (List Fil)) (i : Nat) (l : List Fil) (h : ls[i]? = some l) : (ls.take (i + 1)).flatMap (fun l=>l.map zB1) = (ls.take i).flatMap (fun l=>l.map zB1) ++ l.map zB1:=by
 rw [List.take_succ,h,List.flatMap_append]
 simp
section
variable {C : CSpec} {GT : Nat → Option AV}
set_option maxHeartbeats 4000000 in
theorem cells_ev (hS : ∀ (b : Nat) (xs : List (Int × Int)) H,H[b]? = some (.row 2 (xs.map cV)) → xs ≠ [] → xs.length ≤ 1000 → C zt [.sl (some true) b 2 0 xs.length,.fn zAm [] []] H (.tup []) (H.set b (.row 2 ((zBi xs).map cV))))
  (hS0 : ∀ H,C zt [.lst (some true) 0 [],.fn zAm [] []] H (.tup []) H) (hC0 : ∀ H,C zR [.lst (some true) 0 []] H (.lst (some true) 0 []) H)
  (hC : ∀ (b : Nat) (xs : List (Int × Int)) H,H[b]? = some (.row 2 (xs.map cV)) → xs ≠ [] → xs.length ≤ 1000 → C zR [.sl (some true) b 2 0 xs.length] H (.sl (some true) b 2 0 (zM xs).length) (H.set b (.row 2 ((padL xs).map cV))))
  (v : AV) (vs : List AV) (ls : List (List Fil)) (H : Heap) (hv : view H 1 v = some vs) (hl : vs.length = ls.length) (hll : ls.length ≤ 3) (hle : ∀ l ∈ ls,l.length ≤ 200)
  (hvs : ∀ (i : Nat) (x : AV) (l : List Fil),vs[i]? = some x → ls[i]? = some l → x.cells = [x] ∧ x.one = true ∧ view H 3 x = some (l.map zZ)) : EFun C GT zFm [v] H (zFh 2 ((zCH ls).map cV)) H:=by
 have hvl:=view_one hv
 obtain ⟨F,hF⟩ : ∃ F,ls.flatMap (fun l=>l.map zB1) = F:=⟨_,rfl⟩
 have hFl : F.length ≤ 600:=by
  rw [← hF,List.length_flatMap]
  have : ∀ ls : List (List Fil),(∀ l ∈ ls,l.length ≤ 200) → (ls.map fun l=>(l.map zB1).length).sum ≤ 200 * ls.length:=fun ls h=>by
   induction ls with
   | nil=>simp
   | cons l r ih=>
    have h1:=h l (by simp)
    have h2:=ih fun x hx=>h x (List.mem_cons_of_mem _ hx)
    simp only [List.map_cons,List.sum_cons,List.length_map,List.length_cons] at *
    omega
  have:=this ls hle
  omega
 refine ze ?_; refine sLenN ls.length hv hl ?_; refine zCI (fun x : Nat × AV=>[(3,x.2),(10,zP x.1),(8,v),(9,zP ls.length)]) (fun x H'=>Old H H' ∧ x.1 ≤ ls.length ∧ Owns H H' x.2 2 (((ls.take x.1).flatMap fun l=>l.map zB1).map cV)) (fun x=>ls.length - x.1) (0,.lst (some true) 0 []) rfl ⟨Old.refl H,by simp,.inl ⟨rfl,by simp⟩⟩ (fun x H1 hi=>?_)
 obtain ⟨i,out⟩:=x
 obtain ⟨hO,hi,ho⟩:=hi
 dsimp only at hi ho ⊢
 have hv1:=zCv hO hv
 by_cases hlt : i < ls.length
 ·obtain ⟨l,hli⟩ : ∃ l,ls[i]? = some l:=⟨_,List.getElem?_eq_getElem hlt⟩
  obtain ⟨x,hx⟩ : ∃ x,vs[i]? = some x:=⟨_,List.getElem?_eq_getElem tO⟩
  obtain ⟨hc,hx1,hxv⟩:=hvs i x l hx hli
  have hll2:=hle l (List.mem_of_getElem? hli)
  have hxv1:=zCv hO hxv
  have hlm : (l.map zZ).length = l.length:=List.length_map _
  have hpt : part x.cells 0 1 false = some x:=by rw [hc]; rfl
  obtain ⟨base,hbase⟩ : ∃ base,(ls.take i).flatMap (fun l=>l.map zB1) = base:=⟨_,rfl⟩
  have hbl : base.length ≤ 600:=by
   have e : ls = ls.take i ++ ls.drop i:=(List.take_append_drop i ls).symm
   have : F = base ++ (ls.drop i).flatMap (fun l=>l.map zB1):=by rw [← hF,← hbase,← List.flatMap_append,← e]
   rw [this,List.length_append] at hFl; omega
  have hbn:=flat_take ls i l hli
  rw [hbase] at ho hbn
  refine za tT ?_; refine zB4 i x hv1 rfl hx (fun p hp=>?_)
  refine zAT x hp hpt ?_; refine sLenN l.length hxv1 hlm ?_; refine zCI (fun y : Nat × AV=>[(16,zP y.1),(3,y.2),(14,x),(8,v),(9,zP ls.length),(10,zP i),(15,zP l.length)]) (fun y H'=>Old H H' ∧ y.1 ≤ l.length ∧ Owns H H' y.2 2 ((base ++ (l.take y.1).map zB1).map cV)) (fun y=>l.length - y.1) (0,out) rfl ⟨hO,by simp,by simpa using ho⟩ (fun y H2 hi2=>?_)
  obtain ⟨j,out2⟩:=y
  obtain ⟨hO2,hj,ho2⟩:=hi2
  dsimp only at hj ho2 ⊢
  by_cases hlt2 : j < l.length
  ·obtain ⟨g,hg⟩ : ∃ g,l[j]? = some g:=⟨_,List.getElem?_eq_getElem hlt2⟩
   have hgm : (l.map zZ)[j]? = some (zZ g):=by rw [List.getElem?_map,hg]; rfl
   have hxv2:=zCv hO2 hxv
   have htk : (l.take (j + 1)).map zB1 = (l.take j).map zB1 ++ [zB1 g]:=by rw [List.take_succ,hg]; simp
   refine za tT ?_; refine zB4 j (zZ g) hxv2 rfl hgm (fun p hp=>?_)
   refine zAT (zZ g) hp rfl ?_; refine zG (v:=zZ g) (AV.cells (zZ g)) zD rfl rfl rfl rfl ?_; refine zC (zB7 g.col g.row) (zE zD) rfl ?_; refine zAv rfl rfl ?_; refine zB5 (H0:=H) (ys:=[cV (zB1 g)]) ((ho2.pushSet _ _).push _) (((hO2.push _).set hO2.1 _).push _) zAt (by decide) (by simp only [List.length_map,List.length_append,List.length_take,List.length_singleton]; omega) (by simp) (fun v' H' ho' hO' _ hfr=>?_)
   refine zb (r:=j + 1) rfl tO ?_; refine zAf (j + 1,v') rfl ⟨hO',by simp only; omega, ?_⟩ (by simp only; omega)
   have e : [cV (zB1 g)] = [zB1 g].map cV:=rfl
   rw [e,← List.map_append] at ho'
   rw [htk,← List.append_assoc]
   exact ho'
  ·have he : l.take j = l:=List.take_of_length_le tO
   rw [he,← hbn] at ho2
   refine zV tF ?_; refine zb (r:=i + 1) rfl tO ?_; refine zAf (i + 1,out2) rfl ⟨hO2,by simp only; omega,ho2⟩ (by simp only; omega)
 ·have he : ls.take i = ls:=List.take_of_length_le tO
  rw [he,hF] at ho
  refine zV tF ?_
  rcases ho with ⟨rfl,hnil⟩ | ⟨b,rfl,hb0,hb,hne⟩
  ·have hF0 : F = []:=List.map_eq_nil_iff.1 hnil
   have hcs : zCH ls = []:=by unfold zCH; rw [hF,hF0,show zBi [] = [] from List.length_eq_zero_iff.1 (zCY []).length_eq]; rfl
   rw [hcs]
   refine zI (hS0 _) ?_; refine zI (hC0 _) ?_
   exact zBX rfl rfl rfl rfl hO
  ·have hFn : F ≠ []:=fun e=>hne (by rw [e]; rfl)
   have hbl:=(zg hb).1
   have hs:=hS b F H1 hb hFn tO
   have hsl : (zBi F).length = F.length:=(zCY F).length_eq
   have hsn : zBi F ≠ []:=fun e=>hFn (List.length_eq_zero_iff.1 (by rw [← hsl,e]; rfl))
   have hc:=hC b (zBi F) (H1.set b (.row 2 ((zBi F).map cV))) (List.getElem?_set_self hbl) hsn tO
   have hcs : zCH ls = zM (zBi F):=by unfold zCH; rw [hF]
   rw [List.length_map]
   rw [hsl,List.set_set] at hc
   have hcn : (zCH ls).map cV ≠ []:=by
    rw [hcs]
    intro e
    have e:=List.map_eq_nil_iff.1 e
    obtain ⟨z,r,hz⟩:=List.exists_cons_of_ne_nil hsn
    have:=(zBm (zBi F) z).2 (by rw [hz]; simp)
    rw [e] at this; simp at this
   have hfz : zB0 H.length (.sl (some true) b 2 0 (zM (zBi F)).length) (H1.set b (.row 2 ((padL (zBi F)).map cV))) = some (zFh 2 ((zCH ls).map cV),(H1.set b (.row 2 ((padL (zBi F)).map cV))).set b (.frz 2 ((padL (zBi F)).map cV))):=by
    simp only [zB0]
    rw [if_neg tO,List.getElem?_set_self hbl]
    have hle : 0 + (zM (zBi F)).length ≤ ((padL (zBi F)).map cV).length:=by unfold padL; simp
    have htk : (((padL (zBi F)).map cV).drop 0).take (zM (zBi F)).length = (zCH ls).map cV:=by
     rw [List.drop_zero,← List.map_take,hcs]
     unfold padL
     rw [List.take_left]
    simp only [true_and,if_pos hle,htk]
    rw [hcs] at hcn ⊢
    cases hq : (zM (zBi F)).map cV with
    | nil=>exact absurd hq hcn
    | cons z r=>rfl
   refine z7 hs (fun h=>by cases h) ?_; refine z7 hc (fun h=>by cases h) ?_
   exact sRetF rfl rfl hfz (lstF_bel _ _ _) ((hO.set hb0 _).set hb0 _)
end
end Go.AM
set_option maxRecDepth 20000
namespace Go.AM
theorem frz_pair2 {n : Nat} {v v' y : AV} {H H' : Heap} (h : zB0 n v H = some (v',H')) (hy : ∀ H,zB0 n y H = some (y,H)) : zB0 n (.tup [v,y]) H = some (.tup [v',y],H'):=by
 simp only [zB0,zGR,h,hy]
theorem bel_pair (n k : Nat) (xs : List AV) : (AV.tup [zFh k xs,.nili]).bel n = true:=by simp [AV.bel,AV.belL,lstF_bel]
theorem diffK_take (a b : List Fil) (cs : List (Int × Int)) (i : Nat) (p : Int × Int) (h : cs[i]? = some p) : zGy a b (cs.take (i + 1)) = zGy a b (cs.take i) ++ (if zAE a p ≠ zAE b p then [⟨p.1,p.2,zAE b p⟩] else []):=by
 unfold zGy
 rw [List.take_succ,h,List.filter_append,List.map_append]
 by_cases e : zAE a p ≠ zAE b p
 ·rw [if_pos e]; simp [e]
 ·rw [if_neg e]; simp [e]
section
variable {C : CSpec} {GT : Nat → Option AV}
structure MergC (C : CSpec) : Prop where
 check : ∀ (v : AV) (vs : List AV) (ls : List (List Fil)) H,view H 1 v = some vs → vs.length = ls.length → ls.length ≤ 1000 → (∀ (i : Nat) (x : AV) (l : List Fil),vs[i]? = some x → ls[i]? = some l → x.cells = [x] ∧ view H 3 x = some (l.map zZ)) → C zCS [v] H (eV (zAN ls)) H
 texts : ∀ (lv : AV) (l : List Fil) H,view H 3 lv = some (l.map zZ) → Srtd l → l.length ≤ 1000 → C zCT [lv] H (.mps (l.map zB1) (l.map txV)) H
 cells : ∀ (v : AV) (vs : List AV) (ls : List (List Fil)) H,view H 1 v = some vs → vs.length = ls.length → ls.length ≤ 3 → (∀ l ∈ ls,l.length ≤ 200) → (∀ (i : Nat) (x : AV) (l : List Fil),vs[i]? = some x → ls[i]? = some l → x.cells = [x] ∧ x.one = true ∧ view H 3 x = some (l.map zZ)) → C zDn [v] H (zFh 2 ((zCH ls).map cV)) H
set_option maxHeartbeats 4000000 in
theorem diff_ev (hM : MergC C) (av bv : AV) (a b : List Fil) (hav : zCJ av 3 (a.map zZ)) (hbv : zCJ bv 3 (b.map zZ)) (H : Heap) : EFun C GT zGb [av,bv] H (.tup [diffV a b,eV (zAN [a,b])]) H:=by
 have hva:=fun H=>hav.view H
 have hvb:=fun H=>hbv.view H
 have fra : ∀ H,zGR 0 [av,bv] H = some ([av,bv],H):=fun H=>by
  obtain ⟨q,k,rfl,_⟩:=hav
  obtain ⟨q',k',rfl,_⟩:=hbv
  rfl
 have hel : [av,bv].all (fun v=>v.elem 1) = true:=by
  obtain ⟨q,k,rfl,_⟩:=hav
  obtain ⟨q',k',rfl,_⟩:=hbv
  rfl
 have h2 : ∀ H,∀ (i : Nat) (x : AV) (l : List Fil),[av,bv][i]? = some x → [a,b][i]? = some l → x.cells = [x] ∧ x.one = true ∧ view H 3 x = some (l.map zZ):=fun H i x l hx hl=>by
  match i,hx,hl with
  | 0,hx,hl=>cases hx; cases hl; exact ⟨hav.cells,(view_one (hva H)).2,hva H⟩
  | 1,hx,hl=>cases hx; cases hl; exact ⟨hbv.cells,(view_one (hvb H)).2,hvb H⟩
  | i + 2,hx,_=>simp at hx
 have hck:=hM.check (.sl (some false) H.length 1 0 [av,bv].length) [av,bv] [a,b] (H ++ [.row 1 [av,bv]]) zAt rfl (by simp) (fun i x l hx hl=>⟨(h2 (H ++ [.row 1 [av,bv]]) i x l hx hl).1,(h2 (H ++ [.row 1 [av,bv]]) i x l hx hl).2.2⟩)
 by_cases c0 : zAN [a,b] = 0
 ·have hga:=zFJ c0 a (by simp)
  have hgb:=zFJ c0 b (by simp)
  have hla:=hga.len
  have hlb:=hgb.len
  have hta:=fun H=>hM.texts av a H (hva H) hga.srt tO
  have htb:=fun H=>hM.texts bv b H (hvb H) hgb.srt tO
  have hce:=hM.cells (.sl (some false) (H ++ [ABlk.row 1 [av,bv]]).length 1 0 [av,bv].length) [av,bv] [a,b] (H ++ [ABlk.row 1 [av,bv]] ++ [.row 1 [av,bv]]) zAt rfl (by simp) (fun l hl=>by simp at hl; rcases hl with rfl | rfl <;> omega) (h2 _)
  have hcl:=cellsS_len [a,b]
  have hcl : (zCH [a,b]).length ≤ 400:=by simp at hcl; omega
  have hdv : diffV a b = zFh 3 ((zGy a b (zCH [a,b])).map zZ):=by unfold diffV; rw [if_pos c0]; rfl
  rw [c0] at hck ⊢
  rw [hdv]
  have hck : C zCS [.sl (some false) H.length 1 0 [av,bv].length] (H ++ [.row 1 [av,bv]]) .nili (H ++ [.row 1 [av,bv]]):=hck
  clear hM hdv
  generalize zCH [a,b] = cs at *
  have hcm : (cs.map cV).length = cs.length:=List.length_map _
  obtain ⟨cv,hcv⟩ : ∃ cv,zFh 2 (cs.map cV) = cv:=⟨_,rfl⟩
  have hcvl : zCJ cv 2 (cs.map cV):=by rw [← hcv]; exact lstF_of _ _
  rw [hcv] at hce
  clear hcv
  refine ze ?_; refine zAv (fra _) hel ?_; refine zI hck ?_; refine zT rfl ?_; refine zF ?_; refine zI (hta _) ?_; refine zI (htb _) ?_; refine zAv (fra _) hel ?_; refine zI hce ?_; refine sLenO cs.length hcvl hcm ?_; refine zCI (fun x : Nat × AV=>[(28,zP x.1),(8,.mps (b.map zB1) (b.map txV)),(9,x.2),(7,.mps (a.map zB1) (a.map txV)),(26,cv),(27,zP cs.length)]) (fun x H'=>Old H H' ∧ x.1 ≤ cs.length ∧ Owns H H' x.2 3 ((zGy a b (cs.take x.1)).map zZ)) (fun x=>cs.length - x.1) (0,.lst (some true) 0 []) rfl ⟨((Old.refl H).push _).push _,by simp,.inl ⟨rfl,by simp [zGy]⟩⟩ (fun x H1 hi=>?_)
  obtain ⟨i,out⟩:=x
  obtain ⟨hO,hi,ho⟩:=hi
  dsimp only at hi ho ⊢
  by_cases hlt : i < cs.length
  ·obtain ⟨p,hp⟩ : ∃ p,cs[i]? = some p:=⟨_,List.getElem?_eq_getElem hlt⟩
   have hpm : (cs.map cV)[i]? = some (cV p):=by rw [List.getElem?_map,hp]; rfl
   have htk:=diffK_take a b cs i p hp
   have hga2 : ∀ H,mgetV H (.str []) false (.mps (a.map zB1) (a.map txV)) (cV p) = some (.str (zAE a p)):=fun H=>mgetV_text rfl p.1 p.2
   have hgb2 : ∀ H,mgetV H (.str []) false (.mps (b.map zB1) (b.map txV)) (cV p) = some (.str (zAE b p)):=fun H=>mgetV_text rfl p.1 p.2
   have hdl : (zGy a b (cs.take i)).length ≤ 400:=by
    unfold zGy
    rw [List.length_map]
    have:=List.length_filter_le (fun p=>decide (zAE a p ≠ zAE b p)) (cs.take i)
    rw [List.length_take] at this; omega
   generalize zAE a p = ta at *
   generalize zAE b p = tb at *
   by_cases e : ta = tb
   ·rw [if_neg (by simp [e]),List.append_nil] at htk
    have ex : (!(ta == tb)) = false:=by rw [e]; simp
    refine za tT ?_; refine sIdxO i _ hcvl rfl hpm ?_; refine zCN (cV p) rfl ?_; refine zG (v:=cV p) (AV.cells (cV p)) zD rfl rfl rfl rfl ?_; refine zC (cV p) (zE zD) rfl ?_; refine sMget (hga2 _) ?_; refine zC (cV p) (zE zD) rfl ?_; refine sMget (hgb2 _) ?_; refine zV ex ?_; refine zb (r:=i + 1) rfl tO ?_; refine zAf (i + 1,out) rfl ⟨(hO.push _).set hO.1 _,by simp only; omega, ?_⟩ (by simp only; omega)
    simp only
    rw [htk]
    exact ho.pushSet _ _
   ·rw [if_pos e] at htk
    have ex : (!(ta == tb)) = true:=by simpa using e
    refine za tT ?_; refine sIdxO i _ hcvl rfl hpm ?_; refine zCN (cV p) rfl ?_; refine zG (v:=cV p) (AV.cells (cV p)) zD rfl rfl rfl rfl ?_; refine zC (cV p) (zE zD) rfl ?_; refine sMget (hga2 _) ?_; refine zC (cV p) (zE zD) rfl ?_; refine sMget (hgb2 _) ?_; refine za ex ?_; refine zC (cV p) (zE zD) rfl ?_; refine zC (cV p) (zE zD) rfl ?_; refine sMget (hgb2 _) ?_; refine zT (v:=[zf p.fst,zf p.snd,AV.str tb]) rfl ?_
    refine zAv rfl rfl ?_; refine zB5 (H0:=H) (ys:=[zZ ⟨p.1,p.2,tb⟩]) ((ho.pushSet _ _).push _) (((hO.push _).set hO.1 _).push _) zAt (by decide) (by simp only [List.length_map,List.length_singleton]; omega) (by simp) (fun v' H' ho' hO' _ hfr=>?_)
    refine zb (r:=i + 1) rfl tO ?_; refine zAf (i + 1,v') rfl ⟨hO',by simp only; omega, ?_⟩ (by simp only; omega)
    have e2 : [zZ ⟨p.1,p.2,tb⟩] = [(⟨p.1,p.2,tb⟩ : Fil)].map zZ:=rfl
    rw [e2,← List.map_append,← htk] at ho'
    exact ho'
  ·have he : cs.take i = cs:=List.take_of_length_le tO
   rw [he] at ho
   obtain ⟨H2,hf,hO2,_⟩:=ho.frz hO
   refine zV tF ?_
   exact sRetF rfl rfl (frz_pair2 hf fun _=>rfl) (bel_pair _ _ _) hO2
 ·have hdv : diffV a b = .lst (some true) 0 []:=if_neg c0
  have he : eV (zAN [a,b]) = zD6 (zAN [a,b] : Nat):=by unfold eV; rw [if_neg c0]
  rw [hdv,he]
  rw [he] at hck
  generalize zAN [a,b] = n at *
  clear hM
  refine ze ?_; refine zAv (fra _) hel ?_; refine zI hck ?_; refine zT rfl ?_; refine zH ?_
  exact zBX rfl rfl rfl rfl ((Old.refl _).push _)
end
end Go.AM
