/- Several texts of mine in one (Sf0, Made, Sw1, Dec, Rt0). Own work. -/
import Derived.Test.YtljipljfelkodaaGreatDoorSff
import Derived.Test.YtljipljfelkodaaGreatDoorGGqAm32
import Derived.Test.YtljipljfelkodaaGreatDoorGMgcSk0
import Derived.Test.YtljipljfelkodaaGreatDoorGAm30Fp1
import Derived.Test.YtljipljfelkodaaGreatDoorGRffRfi
import Derived.Test.YtljipljfelkodaaGreatDoorGRf5Rf3
import Derived.Test.YtljipljfelkodaaGreatDoorVc
import Derived.Test.YtljipljfelkodaaGreatDoorGAm23Am29
set_option linter.all false
set_option maxRecDepth 100000
namespace Go.Proofs.YtljipljfelkodaaGreatDoor
open Go.AM Go.Shelf Go.RowKit Go.Lib Go.Sort Go.Proofs
set_option maxHeartbeats 2000000 in
theorem ins_nil (fv : Value) (w : World) : Calls Tryz.prog 81 #[.slice none 0 0,.int .i64 0,.int .i64 0,fv] w fun e w'=>e = .returned (.tuple #[]) ∧ w' = w:=by
 go_enter Tryz.func81,Tryz.ntmps81
 go_wp2
 refine _root_.Go.wp_loop_rounds 1 ?_
 rw [rounds_succ]
 go_wp2
 go_end0
 exact ⟨rfl,rfl⟩
set_option maxHeartbeats 2000000 in
theorem pdq_nil (lim : Int) (fv : Value) (w : World) : Calls Tryz.prog 53 #[.slice none 0 0,.int .i64 0,.int .i64 0,.int .i64 lim,fv] w fun e w'=>e = .returned (.tuple #[]) ∧ w' = w:=by
 have hi:=fun W=>ins_nil fv W
 go_enter Tryz.func53,Tryz.ntmps53
 go_wp2
 refine _root_.Go.wp_loop_rounds 1 ?_
 rw [rounds_succ]
 go_wp2_with (go_at_call 81; refine (hi _).mono ?_; rintro e w' ⟨rfl,rfl⟩)
 (try simp only [Exit.inBlock,Exit.then]); refine bodyPost_ret (results_none rfl _ _ _) rfl ?_
 exact ⟨rfl,rfl⟩
set_option maxHeartbeats 2000000 in
theorem sort_nil (fv : Value) (w : World) : Calls Tryz.prog 34 #[.slice none 0 0,fv] w fun e w'=>e = .returned (.tuple #[]) ∧ w' = w:=by
 have hp:=fun lim W=>pdq_nil lim fv W
 have hl : ∀ W,Calls Tryz.prog 54 #[.int .u64 0] W fun e w'=>e = .returned (.int .i64 (Lib.bitLen 0 : Nat)) ∧ w' = W:=fun W=>by
  have h:=Any.bits_Len (SlLaysF0.n15.bits (P:=Tryz.prog) (ρ:=Tryz.ownSort_ren) { Tryz.ownSort with }) 0 W tO tO
  exact h
 go_enter Tryz.func34,Tryz.ntmps34
 go_wp2_with (first | (go_at_call 54; refine (hl _).mono ?_; rintro e w' ⟨rfl,rfl⟩) | (go_at_call 53; refine (hp _ _).mono ?_; rintro e w' ⟨rfl,rfl⟩))
 go_end0
 exact ⟨rfl,rfl⟩
theorem good_sort0 {GT : Nat → Option AV} (H : Heap) : Go.AM.Good Tryz.prog GT 34 [.lst (some true) 0 [],.fn 35 [] []] H (.tup []) H:=by
 refine zHu Tryz.func34 (by kernel_rfl) (by kernel_rfl) rfl fun w M I cargs hS hA=>?_
 obtain ⟨v1,v2,rfl,r1,r2⟩:=relL_two hA
 obtain rfl : v1 = .slice none 0 0:=by
  cases r1 with
  | lnil=>rfl
  | lemp _ _ _ hq=>exact absurd rfl hq
  | lst _ _ _ _ _ _ _ hq=>exact absurd rfl hq
 refine Calls.mono (sort_nil v2 w) ?_
 rintro e' w' ⟨rfl,rfl⟩
 exact ⟨_,rfl,M,I,Go.AM.Grow.refl _ _ _ _,hS,.tup [] [] rfl fun i c v h _=>by simp at h⟩
end Go.Proofs.YtljipljfelkodaaGreatDoor
set_option maxRecDepth 20000
namespace Go.AM
section
variable {C : CSpec} {GT : Nat → Option AV}
theorem made_ev (hR : ∀ n H,C zDF [eV n,zK n] H (.bool true) H) (hS : ∀ v w (l : List Fil) H,view H 3 v = some (l.map zh) → view H 3 w = some (l.map zh) → l.length ≤ 1000000 → C zCt [v,w] H (.bool true) H)
  (v w : AV) (l : List Fil) (n : Nat) (H : Heap) (hv : view H 3 v = some (l.map zh)) (hw : view H 3 w = some (l.map zh)) (hl : l.length ≤ 1000000) : EFun C GT zHl [v,eV n,w,zK n] H (.bool true) H:=by
 have hr:=hR n H
 have hs:=hS v w l H hv hw hl
 clear hR hS
 refine zZ ?_; refine zL hr ?_; refine zL hs ?_; refine zG <| zG ?_
 exact sRr
end
end Go.AM
set_option maxRecDepth 20000
namespace Go.AM
section
variable {C : CSpec} {GT : Nat → Option AV}
def kidsV (n : Nd) : AV:=.lst (some n.kq) n.kk (kxs n)
set_option maxHeartbeats 4000000 in
theorem nsame_ev (n : Nd) (hE : ∀ H,C zR [kidsV n,kidsV n,.fn z8 [] []] H (.bool true) H) (H : Heap) : EFun C GT zLP [ndV n,ndV n] H (.bool true) H:=by
 have e1 : (n.text == n.text) = true:=beq_self_eq_true _
 have e2 : ∀ r : RefP,((r.col == r.col) && ((r.row == r.row) && ((r.fc == r.fc) && ((r.fr == r.fr) && true)))) = true:=fun r=>by simp
 have e3 : ∀ r : RefP,negB false ((r.col == r.col) && ((r.row == r.row) && ((r.fc == r.fc) && ((r.fr == r.fr) && true)))) = true:=fun r=>by simp [negB]
 have e4 : ∀ k : Int,(k == k) = true:=fun k=>beq_self_eq_true _
 refine zZ ?_; refine zCj (x:=ndV n) rfl <| zCj (x:=ndV n) rfl ?_; refine zD (AV.int IntKind.i64 n.kind) (zC zB) rfl ?_; refine zD (AV.int IntKind.i64 n.kind) zB rfl ?_; refine zb (e4 _) ?_; refine zD (AV.int IntKind.i64 n.num) (zC zB) rfl ?_; refine zD (AV.int IntKind.i64 n.num) zB rfl ?_; refine zG ?_; refine zb (e4 _) ?_; refine zD (AV.str n.text) (zC zB) rfl ?_; refine zD (AV.str n.text) zB rfl ?_
 refine zG ?_; refine zb e1 ?_; refine zD (AV.agg [AV.int IntKind.i64 n.ref.col,AV.int IntKind.i64 n.ref.row,AV.bool n.ref.fc,AV.bool n.ref.fr]) (zC zB) rfl ?_; refine zD (AV.agg [AV.int IntKind.i64 n.ref.col,AV.int IntKind.i64 n.ref.row,AV.bool n.ref.fc,AV.bool n.ref.fr]) zB rfl ?_; refine zl rfl ?_; refine zG ?_; refine zb (e3 n.ref) ?_; refine zD (AV.agg [AV.int IntKind.i64 n.to.col,AV.int IntKind.i64 n.to.row,AV.bool n.to.fc,AV.bool n.to.fr]) (zC zB) rfl ?_
 refine zD (AV.agg [AV.int IntKind.i64 n.to.col,AV.int IntKind.i64 n.to.row,AV.bool n.to.fc,AV.bool n.to.fr]) zB rfl ?_; refine zl rfl ?_; refine zG ?_; refine zb (e3 n.to) ?_; refine zD (AV.lst (some n.kq) n.kk (kxs n)) (zC zB) rfl ?_; refine zD (AV.lst (some n.kq) n.kk (kxs n)) zB rfl ?_; refine zL (hE _) ?_; refine zG ?_
 exact zBW rfl rfl rfl rfl (((Old.refl _).push _).push _)
set_option maxHeartbeats 4000000 in
theorem equal_ev (xv : AV) (ks : List Nd) (hxv : zDB xv 12 (ks.map ndV)) (hl : ks.length ≤ 1000000) (hS : ∀ k ∈ ks,∀ H,C z8 [ndV k,ndV k] H (.bool true) H) (H : Heap) :
  EFun C GT zAC [xv,xv,.fn z8 [] []] H (.bool true) H:=by
 have hlm : (ks.map ndV).length = ks.length:=zL6 _
 refine zZ ?_; refine zBD ks.length hxv hlm ?_; refine zBD ks.length hxv hlm ?_; refine zY (zMQ.2 rfl) ?_; refine zBD ks.length hxv hlm ?_; refine zBm (fun i : Nat=>[(17,zK i),(2,.fn z8 [] []),(1,xv),(15,xv),(16,zK ks.length)]) (fun i H'=>Old H H' ∧ i ≤ ks.length) (fun i=>ks.length - i) 0 rfl ⟨Old.refl _,by omega⟩ (fun i H1 hi=>?_)
 obtain ⟨hO,hi⟩:=hi
 dsimp only
 by_cases hlt : i < ks.length
 ·obtain ⟨k,hk⟩ : ∃ k,ks[i]? = some k:=⟨_,zLy hlt⟩
  have hkm : (ks.map ndV)[i]? = some (ndV k):=by rw [zL9,hk]; rfl
  have hs:=hS k (zMH hk)
  clear hS
  refine zb tT ?_; refine zD0 i (ndV k) hxv rfl hkm ?_; refine zt (ndV k) rfl ?_; refine zH (v:=ndV k) (AV.cells (ndV k)) (by (repeat' (first | assumption | exact zB | exact zC1 (by first | omega | (simp only [zL3,zL1,zLw,zL4]; omega)) | refine zC ?_ | refine zA (by first | assumption | omega | (simp only [zL3,zL1,zLw,zL4]; omega) | (simp; done) | (simp; omega)) ?_)); done) rfl rfl rfl rfl ?_
  refine zD0 i (ndV k) hxv rfl hkm ?_; refine zt (ndV k) rfl ?_; refine zH (v:=ndV k) (AV.cells (ndV k)) (by (repeat' (first | assumption | exact zB | exact zC1 (by first | omega | (simp only [zL3,zL1,zLw,zL4]; omega)) | refine zC ?_ | refine zA (by first | assumption | omega | (simp only [zL3,zL1,zLw,zL4]; omega) | (simp; done) | (simp; omega)) ?_)); done) rfl rfl rfl rfl ?_
  refine zD (ndV k) (by (repeat' (first | assumption | exact zB | exact zC1 (by first | omega | (simp only [zL3,zL1,zLw,zL4]; omega)) | refine zC ?_ | refine zA (by first | assumption | omega | (simp only [zL3,zL1,zLw,zL4]; omega) | (simp; done) | (simp; omega)) ?_)); done) rfl ?_; refine zD (ndV k) (by (repeat' (first | assumption | exact zB | exact zC1 (by first | omega | (simp only [zL3,zL1,zLw,zL4]; omega)) | refine zC ?_ | refine zA (by first | assumption | omega | (simp only [zL3,zL1,zLw,zL4]; omega) | (simp; done) | (simp; omega)) ?_)); done) rfl ?_
  refine zL (hs _) ?_; refine zF ?_; refine zN (r:=i + 1) rfl tO ?_; refine zAU (i + 1) rfl ⟨(((hO.push _).set hO.1 _).push _).set (by rw [zL3,zL1]; have:=hO.1; omega) _,by omega⟩ tO
 ·refine zY tF ?_
  exact zBW rfl rfl rfl rfl hO
def offV (row : Bool) : Nat:=if row then 1 else 0
theorem along_ev (b : Nat) (row : Bool) (cs : List AV) (H : Heap) (hb : H[b]? = some (.box cs)) : EFun C GT zJ0 [.ref b 0 0 0,.bool row] H (.ref b 0 0 (offV row)) H:=by
 have hbl:=(zg hb).1
 refine zZ ?_
 cases row with
 | true=>
  refine zG ?_
  exact zBW rfl rfl rfl (by simp [AV.bel,hbl]) (Old.refl _)
 | false=>
  refine zF ?_
  exact zBW rfl rfl rfl (by simp [AV.bel,hbl]) (Old.refl _)
def swN (a b k : Int) : Int:=if k = a then b else if k = b then a else k
def swF (row : Bool) (a b : Int) (f : Fil) : Fil:=if row then ⟨f.col,swN a b f.row,f.text⟩ else ⟨swN a b f.col,f.row,f.text⟩
set_option maxHeartbeats 4000000 in
theorem swapc1_ev (hA : ∀ b row cs H,H[b]? = some (.box cs) → C zEh [.ref b 0 0 0,.bool row] H (.ref b 0 0 (offV row)) H) (b n1 n2 n3 : Nat) (row : Bool) (x y : Int) (f : Fil) (H : Heap) (hb : H[b]? = some (.box (zh f).cells))
  (h1 : H[n1]? = some (.box [.bool row])) (h2 : H[n2]? = some (.box [zI x])) (h3 : H[n3]? = some (.box [zI y])) (d1 : b ≠ n1) (d2 : b ≠ n2) (d3 : b ≠ n3) :
  EFun C GT zHn [.ref b 0 0 0,.ref n1 0 0 0,.ref n2 0 0 0,.ref n3 0 0 0] H (.tup [.bool true,.nili]) (H.set b (.box (zh (swF row x y f)).cells)):=by
 have hbl:=(zg hb).1
 have ha:=hA b row _ H hb
 have hrefl : H.set b (.box (zh f).cells) = H:=zKh hb
 clear hA
 cases row with
 | true=>
  have hf : swF true x y f = ⟨f.col,swN x y f.row,f.text⟩:=rfl
  rw [hf]
  unfold swN
  by_cases e1 : f.row = x
  ·rw [zLx e1]
   refine zZ ?_; refine zD (AV.bool true) h1 rfl ?_; refine zL ha ?_; refine zD (zI f.row) hb rfl ?_; refine zD (zI x) h2 rfl ?_; refine zb (tE e1) ?_; refine zD (zI y) h3 rfl ?_; refine zH (v:=zI y) [zI f.col,zI y,.str f.text] hb rfl rfl rfl rfl ?_
   exact zJk rfl rfl rfl rfl rfl rfl
  ·rw [zLv e1]
   by_cases e2 : f.row = y
   ·rw [zLx e2]
    refine zZ ?_; refine zD (AV.bool true) h1 rfl ?_; refine zL ha ?_; refine zD (zI f.row) hb rfl ?_; refine zD (zI x) h2 rfl ?_; refine zY (tN e1) ?_; refine zD (zI y) h3 rfl ?_; refine zb (tE e2) ?_; refine zD (zI x) h2 rfl ?_; refine zH (v:=zI x) [zI f.col,zI x,.str f.text] hb rfl rfl rfl rfl ?_
    exact zJk rfl rfl rfl rfl rfl rfl
   ·rw [zLv e2]
    refine zZ ?_; refine zD (AV.bool true) h1 rfl ?_; refine zL ha ?_; refine zD (zI f.row) hb rfl ?_; refine zD (zI x) h2 rfl ?_; refine zY (tN e1) ?_; refine zD (zI y) h3 rfl ?_; refine zY (tN e2) ?_
    exact zJk hrefl.symm rfl rfl rfl rfl rfl
 | false=>
  have hf : swF false x y f = ⟨swN x y f.col,f.row,f.text⟩:=rfl
  rw [hf]
  unfold swN
  by_cases e1 : f.col = x
  ·rw [zLx e1]
   refine zZ ?_; refine zD (AV.bool false) h1 rfl ?_; refine zL ha ?_; refine zD (zI f.col) hb rfl ?_; refine zD (zI x) h2 rfl ?_; refine zb (tE e1) ?_; refine zD (zI y) h3 rfl ?_; refine zH (v:=zI y) [zI y,zI f.row,.str f.text] hb rfl rfl rfl rfl ?_
   exact zJk rfl rfl rfl rfl rfl rfl
  ·rw [zLv e1]
   by_cases e2 : f.col = y
   ·rw [zLx e2]
    refine zZ ?_; refine zD (AV.bool false) h1 rfl ?_; refine zL ha ?_; refine zD (zI f.col) hb rfl ?_; refine zD (zI x) h2 rfl ?_; refine zY (tN e1) ?_; refine zD (zI y) h3 rfl ?_; refine zb (tE e2) ?_; refine zD (zI x) h2 rfl ?_; refine zH (v:=zI x) [zI x,zI f.row,.str f.text] hb rfl rfl rfl rfl ?_
    exact zJk rfl rfl rfl rfl rfl rfl
   ·rw [zLv e2]
    refine zZ ?_; refine zD (AV.bool false) h1 rfl ?_; refine zL ha ?_; refine zD (zI f.col) hb rfl ?_; refine zD (zI x) h2 rfl ?_; refine zY (tN e1) ?_; refine zD (zI y) h3 rfl ?_; refine zY (tN e2) ?_
    exact zJk hrefl.symm rfl rfl rfl rfl rfl
set_option maxHeartbeats 4000000 in
theorem swapc2_ev (n : Nd) (H : Heap) : EFun C GT zHo [ndV n] H (.tup [ndV n,.nili]) H:=by
 refine zZ ?_; refine zCj (x:=ndV n) rfl ?_; refine zD (ndV n) (by (repeat' (first | assumption | exact zB | exact zC1 (by first | omega | (simp only [zL3,zL1,zLw,zL4]; omega)) | refine zC ?_ | refine zA (by first | assumption | omega | (simp only [zL3,zL1,zLw,zL4]; omega) | (simp; done) | (simp; omega)) ?_)); done) rfl ?_
 refine zH (v:=ndV n) (AV.cells (ndV n)) (by (repeat' (first | assumption | exact zB | exact zC1 (by first | omega | (simp only [zL3,zL1,zLw,zL4]; omega)) | refine zC ?_ | refine zA (by first | assumption | omega | (simp only [zL3,zL1,zLw,zL4]; omega) | (simp; done) | (simp; omega)) ?_)); done) rfl rfl rfl rfl ?_
 exact zP (o:=0) rfl rfl (zJ (zE zB)) rfl rfl rfl rfl ((((Old.refl _).push _).push _).set (by first | assumption | exact zL0 _ | omega | (simp only [zL3,zL1,zLw,zL4]; omega) | (simp; done) | (simp; omega)) _)
set_option maxHeartbeats 4000000 in
theorem rew_ev (hCo : ∀ s H,C zAK [.str s] H (.bool (decide (s.head? ≠ some 61))) H) (hP : ∀ s H,C zAN [.str s] H (zER s) H) (hN : ∀ n H,C zAP [ndV n] H (.tup [ndV n,.nili]) H)
  (t : Bs) (ht : zA4 t = 0) (hS : ∀ n,zCd t = some n → ∀ H,C z8 [ndV n,ndV n] H (.bool true) H) (H : Heap) : EFun C GT zGK [.str t,.fn zAP [] []] H (.tup [.str t,.nili]) H:=by
 have hc:=hCo t
 have hp:=hP t
 clear hCo hP
 by_cases h : t.head? = some 61
 ·rw [tF (fun x=>x h)] at hc
  unfold zER at hp
  cases hq : zCd t with
  | none=>
   unfold zA4 at ht
   by_cases h2 : 200 < t.length
   ·rw [zLx h2] at ht; cases ht
   ·rw [zLv h2,zLx h,hq] at ht; cases ht
  | some n=>
   rw [hq] at hp
   have hp : ∀ H,C zAN [.str t] H (.tup [ndV n,.int .i64 0,.nili]) H:=hp
   have hs:=hS n hq
   have hn:=hN n
   clear hS hN
   refine zZ ?_; refine zL (hc _) ?_; refine zF ?_; refine zL (hp _) ?_; refine zl rfl ?_; refine zl rfl ?_; refine zl rfl ?_; refine zH (v:=ndV n) (AV.cells (ndV n)) (by (repeat' (first | assumption | exact zB | exact zC1 (by first | omega | (simp only [zL3,zL1,zLw,zL4]; omega)) | refine zC ?_ | refine zA (by first | assumption | omega | (simp only [zL3,zL1,zLw,zL4]; omega) | (simp; done) | (simp; omega)) ?_)); done) rfl rfl rfl rfl ?_
   refine zl rfl ?_; refine zF ?_; refine zD (ndV n) (by (repeat' (first | assumption | exact zB | exact zC1 (by first | omega | (simp only [zL3,zL1,zLw,zL4]; omega)) | refine zC ?_ | refine zA (by first | assumption | omega | (simp only [zL3,zL1,zLw,zL4]; omega) | (simp; done) | (simp; omega)) ?_)); done) rfl ?_
   refine zL (hn _) ?_; refine zl rfl ?_; refine zl rfl ?_; refine zH (v:=ndV n) (AV.cells (ndV n)) (by (repeat' (first | assumption | exact zB | exact zC1 (by first | omega | (simp only [zL3,zL1,zLw,zL4]; omega)) | refine zC ?_ | refine zA (by first | assumption | omega | (simp only [zL3,zL1,zLw,zL4]; omega) | (simp; done) | (simp; omega)) ?_)); done) rfl rfl rfl rfl ?_
   refine zl rfl ?_; refine zF ?_; refine zD (ndV n) (by (repeat' (first | assumption | exact zB | exact zC1 (by first | omega | (simp only [zL3,zL1,zLw,zL4]; omega)) | refine zC ?_ | refine zA (by first | assumption | omega | (simp only [zL3,zL1,zLw,zL4]; omega) | (simp; done) | (simp; omega)) ?_)); done) rfl ?_
   refine zD (ndV n) (by (repeat' (first | assumption | exact zB | exact zC1 (by first | omega | (simp only [zL3,zL1,zLw,zL4]; omega)) | refine zC ?_ | refine zA (by first | assumption | omega | (simp only [zL3,zL1,zLw,zL4]; omega) | (simp; done) | (simp; omega)) ?_)); done) rfl ?_; refine zL (hs _) ?_
   refine zG ?_
   exact zBW rfl rfl rfl rfl (((((Old.refl _).push _).set (by first | assumption | exact zL0 _ | omega | (simp only [zL3,zL1,zLw,zL4]; omega) | (simp; done) | (simp; omega)) _).push _).set (by first | assumption | exact zL0 _ | omega | (simp only [zL3,zL1,zLw,zL4]; omega) | (simp; done) | (simp; omega)) _)
 ·rw [zMM h] at hc
  refine zZ ?_; refine zL (hc _) ?_; refine zG ?_
  exact sRr
theorem span_ev (row : Bool) (a m : Int) (H : Heap) : EFun C GT zLJ [.bool row,zI a,zI m] H (.bool (decide (1 ≤ a ∧ a ≤ (if row then 99 else 26) ∧ 0 ≤ m ∧ m ≤ (if row then 99 else 26)))) H:=by
 refine zZ ?_
 cases row with
 | true=>
  by_cases h1 : 1 ≤ a
  ·by_cases h2 : a ≤ 99
   ·by_cases h3 : 0 ≤ m
    ·by_cases h4 : m ≤ 99
     ·rw [tT (by simp; omega)]
      refine zG ?_; refine zb (tT) ?_; refine zG ?_; refine zb (tT) ?_; refine zG ?_; refine zb (tT) ?_; refine zG ?_
      exact zGx (v0:=.bool (decide (m ≤ 99))) (by rw [zMM h4]) rfl rfl rfl rfl (Old.refl _)
     ·rw [tF (by simp; omega)]
      refine zG ?_; refine zb (tT) ?_; refine zG ?_; refine zb (tT) ?_; refine zG ?_; refine zb (tT) ?_; refine zG ?_
      exact zGx (v0:=.bool (decide (m ≤ 99))) (by rw [zMV h4]) rfl rfl rfl rfl (Old.refl _)
    ·rw [tF (by simp; omega)]
     refine zG ?_; refine zb (tT) ?_; refine zG ?_; refine zb (tT) ?_; refine zG ?_; refine zY (tF) ?_; refine zF ?_
     exact sRr
   ·rw [tF (by simp; omega)]
    refine zG ?_; refine zb (tT) ?_; refine zG ?_; refine zY (tF) ?_; refine zF ?_; refine zF ?_; refine zF ?_
    exact sRr
  ·rw [tF (by simp; omega)]
   refine zG ?_; refine zY (tF) ?_; refine zF ?_; refine zF ?_; refine zF ?_; refine zF ?_; refine zF ?_
   exact sRr
 | false=>
  by_cases h1 : 1 ≤ a
  ·by_cases h2 : a ≤ 26
   ·by_cases h3 : 0 ≤ m
    ·by_cases h4 : m ≤ 26
     ·rw [tT (by simp; omega)]
      refine zF ?_; refine zb (tT) ?_; refine zG ?_; refine zb (tT) ?_; refine zG ?_; refine zb (tT) ?_; refine zG ?_
      exact zGx (v0:=.bool (decide (m ≤ 26))) (by rw [zMM h4]) rfl rfl rfl rfl (Old.refl _)
     ·rw [tF (by simp; omega)]
      refine zF ?_; refine zb (tT) ?_; refine zG ?_; refine zb (tT) ?_; refine zG ?_; refine zb (tT) ?_; refine zG ?_
      exact zGx (v0:=.bool (decide (m ≤ 26))) (by rw [zMV h4]) rfl rfl rfl rfl (Old.refl _)
    ·rw [tF (by simp; omega)]
     refine zF ?_; refine zb (tT) ?_; refine zG ?_; refine zb (tT) ?_; refine zG ?_; refine zY (tF) ?_; refine zF ?_
     exact sRr
   ·rw [tF (by simp; omega)]
    refine zF ?_; refine zb (tT) ?_; refine zG ?_; refine zY (tF) ?_; refine zF ?_; refine zF ?_; refine zF ?_
    exact sRr
  ·rw [tF (by simp; omega)]
   refine zF ?_; refine zY (tF) ?_; refine zF ?_; refine zF ?_; refine zF ?_; refine zF ?_; refine zF ?_
   exact sRr
theorem rspan_ev (row : Bool) (a m : Int) (H : Heap) : EFun C GT zHm [.bool row,zI a,zI m] H (.bool (decide (1 ≤ a ∧ a ≤ (if row then 99 else 26) ∧ 0 ≤ m ∧ m ≤ (if row then 99 else 26)))) H:=by
 refine zZ ?_
 cases row with
 | true=>
  by_cases h1 : 1 ≤ a
  ·by_cases h2 : a ≤ 99
   ·by_cases h3 : 0 ≤ m
    ·by_cases h4 : m ≤ 99
     ·rw [tT (by simp; omega)]
      refine zG ?_; refine zb (tT) ?_; refine zG ?_; refine zb (tT) ?_; refine zG ?_; refine zb (tT) ?_; refine zG ?_
      exact zGx (v0:=.bool (decide (m ≤ 99))) (by rw [zMM h4]) rfl rfl rfl rfl (Old.refl _)
     ·rw [tF (by simp; omega)]
      refine zG ?_; refine zb (tT) ?_; refine zG ?_; refine zb (tT) ?_; refine zG ?_; refine zb (tT) ?_; refine zG ?_
      exact zGx (v0:=.bool (decide (m ≤ 99))) (by rw [zMV h4]) rfl rfl rfl rfl (Old.refl _)
    ·rw [tF (by simp; omega)]
     refine zG ?_; refine zb (tT) ?_; refine zG ?_; refine zb (tT) ?_; refine zG ?_; refine zY (tF) ?_; refine zF ?_
     exact sRr
   ·rw [tF (by simp; omega)]
    refine zG ?_; refine zb (tT) ?_; refine zG ?_; refine zY (tF) ?_; refine zF ?_; refine zF ?_; refine zF ?_
    exact sRr
  ·rw [tF (by simp; omega)]
   refine zG ?_; refine zY (tF) ?_; refine zF ?_; refine zF ?_; refine zF ?_; refine zF ?_; refine zF ?_
   exact sRr
 | false=>
  by_cases h1 : 1 ≤ a
  ·by_cases h2 : a ≤ 26
   ·by_cases h3 : 0 ≤ m
    ·by_cases h4 : m ≤ 26
     ·rw [tT (by simp; omega)]
      refine zF ?_; refine zb (tT) ?_; refine zG ?_; refine zb (tT) ?_; refine zG ?_; refine zb (tT) ?_; refine zG ?_
      exact zGx (v0:=.bool (decide (m ≤ 26))) (by rw [zMM h4]) rfl rfl rfl rfl (Old.refl _)
     ·rw [tF (by simp; omega)]
      refine zF ?_; refine zb (tT) ?_; refine zG ?_; refine zb (tT) ?_; refine zG ?_; refine zb (tT) ?_; refine zG ?_
      exact zGx (v0:=.bool (decide (m ≤ 26))) (by rw [zMV h4]) rfl rfl rfl rfl (Old.refl _)
    ·rw [tF (by simp; omega)]
     refine zF ?_; refine zb (tT) ?_; refine zG ?_; refine zb (tT) ?_; refine zG ?_; refine zY (tF) ?_; refine zF ?_
     exact sRr
   ·rw [tF (by simp; omega)]
    refine zF ?_; refine zb (tT) ?_; refine zG ?_; refine zY (tF) ?_; refine zF ?_; refine zF ?_; refine zF ?_
    exact sRr
  ·rw [tF (by simp; omega)]
   refine zF ?_; refine zY (tF) ?_; refine zF ?_; refine zF ?_; refine zF ?_; refine zF ?_; refine zF ?_
   exact sRr
end
end Go.AM
set_option maxRecDepth 20000
namespace Go.AM
def dcF : Nat → Nat → List UInt8
 | 0,_=>[]
 | f + 1,n=>if n = 0 then [] else UInt8.ofNat (48 + n % 10) :: dcF f (n / 10)
def decL (n : Nat) : List UInt8:=dcF n n
theorem dcF_fuel : ∀ f g n,n ≤ f → n ≤ g → dcF f n = dcF g n
 | 0,0,_,_,_=>rfl
 | 0,g + 1,n,h,_=>by
  have : n = 0:=by omega
  subst this; rfl
 | f + 1,0,n,_,h=>by
  have : n = 0:=by omega
  subst this; rfl
 | f + 1,g + 1,n,h,k=>by
  simp only [dcF]
  split
  ·rfl
  ·rw [dcF_fuel f g (n / 10) tO tO]
theorem decL_zero : decL 0 = []:=rfl
theorem decL_pos {n : Nat} (h : n ≠ 0) : decL n = UInt8.ofNat (48 + n % 10) :: decL (n / 10):=by
 unfold decL
 obtain ⟨m,rfl⟩ : ∃ m,n = m + 1:=⟨n - 1,by omega⟩
 rw [dcF,zLv h,dcF_fuel m ((m + 1) / 10) _ tO (zL0 _)]
theorem decL_len : ∀ (k n : Nat),n < 10 ^ k → (decL n).length ≤ k
 | 0,n,h=>by
  have : n = 0:=by simpa using h
  subst this; exact zL0 _
 | k + 1,n,h=>by
  by_cases h0 : n = 0
  ·subst h0; simp [decL_zero]
  ·rw [decL_pos h0,zLw]
   have:=decL_len k (n / 10) (by rw [zMp] at h; omega)
   omega
def signed (v : Int) : List UInt8:=if v < 0 then decL v.natAbs ++ [45] else decL v.natAbs
end Go.AM
set_option maxRecDepth 20000
namespace Go.AM
def digT (n : Nat) : Bs:=if n = 0 then [48] else (decL n).reverse
def esc : Bs → Bs
 | []=>[]
 | c :: r=>if c = 34 then 34 :: 34 :: esc r else c :: esc r
def refT (r : RefP) : Bs:=(if r.fc then [36] else []) ++ [UInt8.ofNat (64 + r.col.toNat)] ++ (if r.fr then [36] else []) ++ digT r.row.toNat
def opT (op : Nat) : Bs:=[[],[61],[60,62],[60],[60,61],[62],[62,61],[38],[43],[45],[42],[47]].getD op []
def zAr (n : Nd) : Nat:=if n.kind = 8 then tight n.num.toNat else 9
def brk (need : Bool) (t : Bs) : Bs:=if need then 40 :: t ++ [41] else t
def zJn : List Bs → Bs
 | []=>[]
 | [t]=>t
 | t :: u :: r=>t ++ 44 :: zJn (u :: r)
def txtK (k num : Int) (t : Bs) (r o : RefP) (ks : List (Nat × Bs)) : Bs:=
 if k = 1 then digT num.toNat
 else if k = 2 then 34 :: esc t ++ [34]
 else if k = 3 then (if num = 1 then trueW else zHr)
 else if k = 4 then wrongs.getD (num.toNat - 1) []
 else if k = 5 then refT r
 else if k = 6 then refT r ++ 58 :: refT o
 else if k = 7 then (match ks with
  | [a]=>45 :: brk (decide (a.1 < 9)) a.2
  | _=>[])
 else if k = 8 then (match ks with
  | [a,b]=>brk (decide (a.1 < tight num.toNat)) a.2 ++ opT num.toNat ++ brk (decide (b.1 ≤ tight num.toNat)) b.2
  | _=>[])
 else t ++ 40 :: zJn (ks.map (·.2)) ++ [41]
mutual
def txt : Nd → Bs
 | .mk k num t r o ks=>txtK k num t r o (txts ks)
def txts : List Nd → List (Nat × Bs)
 | []=>[]
 | n :: r=>(zAr n,txt n) :: txts r
end
theorem txts_map : ∀ ks : List Nd,txts ks = ks.map fun n=>(zAr n,txt n)
 | []=>rfl
 | n :: r=>by rw [txts,zL8,txts_map r]
theorem txt_num (n : Int) : txt (numN n) = digT n.toNat:=rfl
theorem txt_txt (t : Bs) : txt (txtN t) = 34 :: esc t ++ [34]:=rfl
theorem txt_tru (b : Bool) : txt (truN b) = if b then trueW else zHr:=by cases b <;> rfl
theorem txt_bad (k : Nat) : txt (badN k) = wrongs.getD (k - 1) []:=by show wrongs.getD ((k : Int).toNat - 1) [] = _; rw [zMh]
theorem txt_ref (r : RefP) : txt (refN r) = refT r:=rfl
theorem txt_box (r o : RefP) : txt (boxN r o) = refT r ++ 58 :: refT o:=rfl
theorem txt_neg (n : Nd) : txt (negN n) = 45 :: brk (decide (zAr n < 9)) (txt n):=rfl
theorem txt_two (op : Nat) (a b : Nd) : txt (zFl op a b) = brk (decide (zAr a < tight op)) (txt a) ++ opT op ++ brk (decide (zAr b ≤ tight op)) (txt b):=by
 show brk (decide (zAr a < tight (op : Int).toNat)) (txt a) ++ opT (op : Int).toNat ++ brk (decide (zAr b ≤ tight (op : Int).toNat)) (txt b) = _
 rw [zMh]
theorem txt_call (t : Bs) (ks : List Nd) : txt (zC2 t ks) = t ++ 40 :: zJn (ks.map txt) ++ [41]:=by
 show t ++ 40 :: zJn ((txts ks).map (·.2)) ++ [41] = _
 rw [txts_map,zNk]
 rfl
def okR (r : RefP) : Prop:=1 ≤ r.col ∧ r.col ≤ 26 ∧ 1 ≤ r.row ∧ r.row ≤ 99
inductive Wf : Bool → Nd → Prop where
 | num (x : Bool) (n : Nat) (h : n ≤ 9223372036854775807) : Wf x (numN n)
 | txt (x : Bool) (t : Bs) : Wf x (txtN t)
 | tru (x b : Bool) : Wf x (truN b)
 | bad (x : Bool) (k : Nat) (h : 1 ≤ k ∧ k ≤ 6) : Wf x (badN k)
 | ref (x : Bool) (r : RefP) (h : okR r) : Wf x (refN r)
 | box (r o : RefP) (h : okR r) (k : okR o) : Wf true (boxN r o)
 | neg (x : Bool) (n : Nd) (h : Wf false n) : Wf x (negN n)
 | two (x : Bool) (op : Nat) (a b : Nd) (h : 1 ≤ op ∧ op ≤ 11) (ha : Wf false a) (hb : Wf false b) : Wf x (zFl op a b)
 | call (x : Bool) (t : Bs) (ks : List Nd) (h : zBI t = true) (hk : ∀ k ∈ ks,Wf true k) : Wf x (zC2 t ks)
def needK (k num : Int) (ks : List (Nat × Nat)) : Nat:=
 if k = 7 then (match ks with
  | [a]=>1 + (a.2 + if a.1 < 9 then 1 else 0)
  | _=>0)
 else if k = 8 then (match ks with
  | [a,b]=>max (a.2 + if a.1 < tight num.toNat then 1 else 0) (b.2 + if b.1 ≤ tight num.toNat then 1 else 0)
  | _=>0)
 else if k = 9 then 1 + (ks.map (·.2)).foldr max 0
 else 0
mutual
def need : Nd → Nat
 | .mk k num _ _ _ ks=>needK k num (needs ks)
def needs : List Nd → List (Nat × Nat)
 | []=>[]
 | n :: r=>(zAr n,need n) :: needs r
end
theorem needs_map : ∀ ks : List Nd,needs ks = ks.map fun n=>(zAr n,need n)
 | []=>rfl
 | n :: r=>by rw [needs,zL8,needs_map r]
theorem need_neg (n : Nd) : need (negN n) = 1 + (need n + if zAr n < 9 then 1 else 0):=rfl
theorem need_two (op : Nat) (a b : Nd) : need (zFl op a b) = max (need a + if zAr a < tight op then 1 else 0) (need b + if zAr b ≤ tight op then 1 else 0):=by
 show max (need a + if zAr a < tight (op : Int).toNat then 1 else 0) (need b + if zAr b ≤ tight (op : Int).toNat then 1 else 0) = _
 rw [zMh]
theorem need_call (t : Bs) (ks : List Nd) : need (zC2 t ks) = 1 + (ks.map need).foldr max 0:=by
 show 1 + ((needs ks).map (·.2)).foldr max 0 = _
 rw [needs_map,zNk]
 rfl
theorem tight_two (op : Nat) (a b : Nd) : zAr (zFl op a b) = tight op:=by
 show (if (8 : Int) = 8 then tight (op : Int).toNat else 9) = _
 rw [zLx rfl,zMh]
theorem zJo (op : Nat) : 1 ≤ tight op ∧ tight op ≤ 4:=by unfold tight; split <;> (try split) <;> (try split) <;> omega
end Go.AM
