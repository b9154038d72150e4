/- Several texts of mine in one (Rf5, Bg1, Bg2, Bgm, Rf3). Own work. -/
import Derived.Test.YtaohficjbicfgaaGreatDoorRf2
import Derived.Test.YtaohficjbicfgaaGreatDoorGPreFr1
import Derived.Test.YtaohficjbicfgaaGreatDoorGAm23Am29
import Derived.Test.YtaohficjbicfgaaGreatDoorQc
import Derived.Test.YtaohficjbicfgaaGreatDoorGFp0Trm
import Derived.Test.YtaohficjbicfgaaGreatDoorGAm31Rf1
set_option linter.all false
set_option maxRecDepth 20000
namespace Go.AM
def tkK : Tok → Nat
 | .fin=>0
 | .word _ _=>1
 | .txt _ _=>2
 | .bad _ _=>3
 | .sign _ _=>4
 | .none=>9
def tkE (q : Nat) : Tok → Nat
 | .fin=>q
 | .word e _=>e
 | .txt e _=>e
 | .bad e _=>e
 | .sign e _=>e
 | .none=>q
def tkT : Tok → Bs
 | .fin=>[]
 | .word _ t=>t
 | .txt _ t=>t
 | .bad _ k=>wrongs.getD (k - 1) []
 | .sign _ t=>t
 | .none=>[]
theorem zEi (s : Bs) (a : Nat) : tkV s a = kV (tkK (tok s a)) (skip s a) (tkE (skip s a) (tok s a)) (tkT (tok s a)):=by
 unfold tkV tkAt tok
 cases zCF s (skip s a) <;> rfl
theorem zHV {s : Bs} {a : Nat} (h : a ≤ s.length) : tkE (skip s a) (tok s a) ≤ s.length:=by
 have h1:=zBb s a
 have h2:=zBX h
 cases hk : tok s a <;> rw [hk] at h1 <;> simp only [tkE,Tok.endsBy] at h1 ⊢ <;> omega
theorem tkT_41 {s : Bs} {a : Nat} : (∃ e,tok s a = .sign e [41]) ↔ tkK (tok s a) = 4 ∧ tkT (tok s a) = [41]:=by
 constructor
 ·rintro ⟨e,h⟩; rw [h]; exact ⟨rfl,rfl⟩
 ·intro h
  cases hk : tok s a <;> rw [hk] at h <;> simp only [tkK,tkT] at h
  all_goals first | omega | skip
  exact ⟨_,by rw [h.2]⟩
section
variable {C : CSpec} {GT : Nat → Option AV}
theorem rclose_ok (hT : ∀ s a H,a ≤ s.length → s.length ≤ 1000 → C zV [.str s,zJ a] H (tkV s a) H)
  (b : Nat) (s : Bs) (p d e : Nat) (H : Heap) (hb : H[b]? = some (rP s p (d + 1))) (hp : p ≤ s.length) (hl : s.length ≤ 200) (hd : d ≤ 1000) (hk : tok s p = .sign e [41]) : zBt C GT zBP [pR b] H b [] .undef (some (.tup [],rP s e d)):=by
 have hbl : b < H.length:=(zg hb).1
 have ht:=fun H=>hT s p H hp tO
 rw [zEi,hk] at ht
 have ht : ∀ H,C zV [.str s,zJ p] H (kV 4 (skip s p) e [41]) H:=ht
 generalize skip s p = q at *
 clear hT
 refine z7 ?_; refine zB (AV.str s) hb rfl ?_; refine zB (zK ↑p) hb rfl ?_; refine zGU ?_ ?_
 ·refine zI (ht _) ?_; refine zF (v:=kV 4 q e [41]) (AV.cells (kV 4 q e [41])) zC rfl rfl rfl rfl ?_; refine zB (zK 0) (zA tA (zD hb)) rfl ?_; refine zH ?_; refine zB (zJ 4) (zE zC) rfl ?_; refine zG ?_; refine zB (AV.str [41]) (zE zC) rfl ?_; refine zG <| zH <| zG ?_; refine zB (zJ e) (zE zC) rfl ?_; refine zF (v:=zJ e) [AV.str s,zJ e,zK 0,zK 0,zK ↑(d + 1)] (zA tA (zD hb)) rfl rfl rfl rfl ?_
  refine zB (zK ↑(d + 1)) (zE (zA tA (zD hb))) rfl ?_; refine zM (r:=d) tO tO ?_; refine zF (v:=.int .i64 ↑d) [AV.str s,zJ e,zK 0,zK 0,.int .i64 ↑d] (zE (zA tA (zD hb))) rfl rfl rfl rfl ?_
  exact zFS _ (by first | rfl | assumption) rfl rfl rfl rfl (((((OldB.start hb).push _).set tA _).setB _).setB _) rfl
 ·refine zI (ht _) ?_; refine zF (v:=kV 4 q e [41]) (AV.cells (kV 4 q e [41])) zC rfl rfl rfl rfl ?_; refine zB (zK 0) (zA tA (zD hb)) rfl ?_; refine zH ?_; refine zB (zJ 4) (zE zC) rfl ?_; refine zG ?_; refine zB (AV.str [41]) (zE zC) rfl ?_; refine zG <| zH <| zG ?_; refine zB (zJ e) (zE zC) rfl ?_; refine zF (v:=zJ e) [AV.str s,zJ e,zK 0,zK 0,zK ↑(d + 1)] (zA tA (zD hb)) rfl rfl rfl rfl ?_
  refine zB (zK ↑(d + 1)) (zE (zA tA (zD hb))) rfl ?_; refine zM (r:=d) tO tO ?_; refine zF (v:=.int .i64 ↑d) [AV.str s,zJ e,zK 0,zK 0,.int .i64 ↑d] (zE (zA tA (zD hb))) rfl rfl rfl rfl ?_
  exact zFS _ (by first | rfl | assumption) rfl rfl rfl rfl (((((OldB.start hb).push _).set tA _).setB _).setB _) rfl
theorem rclose_no (hT : ∀ s a H,a ≤ s.length → s.length ≤ 1000 → C zV [.str s,zJ a] H (tkV s a) H)
  (hF : ∀ b s p d a e H,H[b]? = some (pB s p 0 0 d) → C zd [pR b,zK a,zK e] H (.tup []) (H.set b (pB s p a e d)))
  (b : Nat) (s : Bs) (p d : Nat) (H : Heap) (hb : H[b]? = some (rP s p (d + 1))) (hp : p ≤ s.length) (hl : s.length ≤ 200) (hd : d ≤ 1000) (hk : ¬ ∃ e,tok s p = .sign e [41]) : zBt C GT zBP [pR b] H b [] .undef (some (.tup [],pB s (tkE (skip s p) (tok s p) : Nat) (skip s p : Nat) 2 d)):=by
 have hbl : b < H.length:=(zg hb).1
 have ht:=fun H=>hT s p H hp tO
 rw [zEi] at ht
 rw [tkT_41] at hk
 have hf:=fun H=>hF b s p (d + 1 : Nat) (skip s p : Nat) 2 H
 clear hT hF
 generalize tkE (skip s p) (tok s p) = e at *
 generalize tkK (tok s p) = kk at *
 generalize tkT (tok s p) = t at *
 generalize skip s p = q at *
 refine z7 ?_
 by_cases h4 : kk = 4
 ·subst h4
  have h41 : t ≠ [41]:=fun x=>hk ⟨rfl,x⟩
  refine zB (AV.str s) hb rfl ?_; refine zB (zK ↑p) hb rfl ?_; refine zGU ?_ ?_
  ·refine zI (ht _) ?_; refine zF (v:=kV 4 q e t) (AV.cells (kV 4 q e t)) zC rfl rfl rfl rfl ?_; refine zB (zK 0) (zA tA (zD hb)) rfl ?_; refine zH ?_; refine zB (zJ 4) (zE zC) rfl ?_; refine zG ?_; refine zB (AV.str t) (zE zC) rfl ?_; refine zG <| zH <| zP (bne_iff_ne.2 h41) ?_; refine zB (zJ q) (zE zC) rfl ?_; refine zm (hf _ hP) (fun h=>by cases h) ?_; refine zB (zJ e) (zA tA (zE zC)) rfl ?_
   refine zF (v:=zJ e) [AV.str s,zJ e,zK ↑q,zK 2,zK ↑(d + 1)] (zE (zA tA (zD hb))) rfl rfl rfl rfl ?_; refine zB (zK ↑(d + 1)) (zE (zE (zA tA (zD hb)))) rfl ?_; refine zM (r:=d) tO tO ?_; refine zF (v:=.int .i64 ↑d) [AV.str s,zJ e,zK ↑q,zK 2,.int .i64 ↑d] (zE (zE (zA tA (zD hb)))) rfl rfl rfl rfl ?_
   exact zFS _ (by first | rfl | assumption) rfl rfl rfl rfl ((((((OldB.start hb).push _).set tA _).setB _).setB _).setB _) rfl
  ·refine zI (ht _) ?_; refine zF (v:=kV 4 q e t) (AV.cells (kV 4 q e t)) zC rfl rfl rfl rfl ?_; refine zB (zK 0) (zA tA (zD hb)) rfl ?_; refine zH ?_; refine zB (zJ 4) (zE zC) rfl ?_; refine zG ?_; refine zB (AV.str t) (zE zC) rfl ?_; refine zG <| zH <| zP (bne_iff_ne.2 h41) ?_; refine zB (zJ q) (zE zC) rfl ?_; refine zm (hf _ hP) (fun h=>by cases h) ?_; refine zB (zJ e) (zA tA (zE zC)) rfl ?_
   refine zF (v:=zJ e) [AV.str s,zJ e,zK ↑q,zK 2,zK ↑(d + 1)] (zE (zA tA (zD hb))) rfl rfl rfl rfl ?_; refine zB (zK ↑(d + 1)) (zE (zE (zA tA (zD hb)))) rfl ?_; refine zM (r:=d) tO tO ?_; refine zF (v:=.int .i64 ↑d) [AV.str s,zJ e,zK ↑q,zK 2,.int .i64 ↑d] (zE (zE (zA tA (zD hb)))) rfl rfl rfl rfl ?_
   exact zFS _ (by first | rfl | assumption) rfl rfl rfl rfl ((((((OldB.start hb).push _).set tA _).setB _).setB _).setB _) rfl
 ·refine zB (AV.str s) hb rfl ?_; refine zB (zK ↑p) hb rfl ?_; refine zGU ?_ ?_
  ·refine zI (ht _) ?_; refine zF (v:=kV kk q e t) (AV.cells (kV kk q e t)) zC rfl rfl rfl rfl ?_; refine zB (zK 0) (zA tA (zD hb)) rfl ?_; refine zH ?_; refine zB (zJ kk) (zE zC) rfl ?_; refine zP (bne_iff_ne.2 tO) <| zH <| zH <| zH ?_; refine zB (zJ q) (zE zC) rfl ?_; refine zm (hf _ hP) (fun h=>by cases h) ?_; refine zB (zJ e) (zA tA (zE zC)) rfl ?_; refine zF (v:=zJ e) [AV.str s,zJ e,zK ↑q,zK 2,zK ↑(d + 1)] (zE (zA tA (zD hb))) rfl rfl rfl rfl ?_
   refine zB (zK ↑(d + 1)) (zE (zE (zA tA (zD hb)))) rfl ?_; refine zM (r:=d) tO tO ?_; refine zF (v:=.int .i64 ↑d) [AV.str s,zJ e,zK ↑q,zK 2,.int .i64 ↑d] (zE (zE (zA tA (zD hb)))) rfl rfl rfl rfl ?_
   exact zFS _ (by first | rfl | assumption) rfl rfl rfl rfl ((((((OldB.start hb).push _).set tA _).setB _).setB _).setB _) rfl
  ·refine zI (ht _) ?_; refine zF (v:=kV kk q e t) (AV.cells (kV kk q e t)) zC rfl rfl rfl rfl ?_; refine zB (zK 0) (zA tA (zD hb)) rfl ?_; refine zH ?_; refine zB (zJ kk) (zE zC) rfl ?_; refine zP (bne_iff_ne.2 tO) <| zH <| zH <| zH ?_; refine zB (zJ q) (zE zC) rfl ?_; refine zm (hf _ hP) (fun h=>by cases h) ?_; refine zB (zJ e) (zA tA (zE zC)) rfl ?_; refine zF (v:=zJ e) [AV.str s,zJ e,zK ↑q,zK 2,zK ↑(d + 1)] (zE (zA tA (zD hb))) rfl rfl rfl rfl ?_
   refine zB (zK ↑(d + 1)) (zE (zE (zA tA (zD hb)))) rfl ?_; refine zM (r:=d) tO tO ?_; refine zF (v:=.int .i64 ↑d) [AV.str s,zJ e,zK ↑q,zK 2,.int .i64 ↑d] (zE (zE (zA tA (zD hb)))) rfl rfl rfl rfl ?_
   exact zFS _ (by first | rfl | assumption) rfl rfl rfl rfl ((((((OldB.start hb).push _).set tA _).setB _).setB _).setB _) rfl
theorem rclose_bad (hT : ∀ s a H,a ≤ s.length → s.length ≤ 1000 → C zV [.str s,zJ a] H (tkV s a) H)
  (b : Nat) (s : Bs) (p : Nat) (w e d : Int) (H : Heap) (hb : H[b]? = some (pB s p w e d)) (he : e ≠ 0) (hp : p ≤ s.length) (hl : s.length ≤ 200) : zBt C GT zBP [pR b] H b [] .undef (some (.tup [],pB s (tkE (skip s p) (tok s p) : Nat) w e (IntKind.wrap .i64 (d - 1)))):=by
 have hbl : b < H.length:=(zg hb).1
 have ht:=fun H=>hT s p H hp tO
 rw [zEi] at ht
 clear hT
 generalize tkE (skip s p) (tok s p) = ee at *
 generalize tkK (tok s p) = kk at *
 generalize tkT (tok s p) = t at *
 generalize skip s p = q at *
 refine z7 ?_; refine zB (AV.str s) hb rfl ?_; refine zB (zK ↑p) hb rfl ?_; refine zGU ?_ ?_
 ·refine zI (ht _) ?_; refine zF (v:=kV kk q ee t) (AV.cells (kV kk q ee t)) zC rfl rfl rfl rfl ?_; refine zB (zK e) (zA tA (zD hb)) rfl ?_; refine zN (tN he) <| zG <| zG ?_; refine zB (zJ ee) (zE zC) rfl ?_; refine zF (v:=zJ ee) [AV.str s,zJ ee,zK w,zK e,zK d] (zA tA (zD hb)) rfl rfl rfl rfl ?_; refine zB (zK d) (zE (zA tA (zD hb))) rfl ?_; refine sVal rfl ?_; refine zF (v:=.int .i64 (IntKind.i64.wrap (d - 1))) [AV.str s,zJ ee,zK w,zK e,.int .i64 (IntKind.i64.wrap (d - 1))] (zE (zA tA (zD hb))) rfl rfl rfl rfl ?_
  exact zFS _ (by first | rfl | assumption) rfl rfl rfl rfl (((((OldB.start hb).push _).set tA _).setB _).setB _) rfl
 ·refine zI (ht _) ?_; refine zF (v:=kV kk q ee t) (AV.cells (kV kk q ee t)) zC rfl rfl rfl rfl ?_; refine zB (zK e) (zA tA (zD hb)) rfl ?_; refine zN (tN he) <| zG <| zG ?_; refine zB (zJ ee) (zE zC) rfl ?_; refine zF (v:=zJ ee) [AV.str s,zJ ee,zK w,zK e,zK d] (zA tA (zD hb)) rfl rfl rfl rfl ?_; refine zB (zK d) (zE (zA tA (zD hb))) rfl ?_; refine sVal rfl ?_; refine zF (v:=.int .i64 (IntKind.i64.wrap (d - 1))) [AV.str s,zJ ee,zK w,zK e,.int .i64 (IntKind.i64.wrap (d - 1))] (zE (zA tA (zD hb))) rfl rfl rfl rfl ?_
  exact zFS _ (by first | rfl | assumption) rfl rfl rfl rfl (((((OldB.start hb).push _).set tA _).setB _).setB _) rfl
end
end Go.AM
set_option maxRecDepth 20000
namespace Go.AM
def zA5 (w : Nat) : AV:=.int .u32 w
def u64V (w : Nat) : AV:=.int .u64 w
def zDw (n : Nat) : AV:=.lst (some false) 1 ((wds n).map zA5)
def Mag (v : AV) (n : Nat) : Prop:=zG5 v 1 ((wds n).map zA5)
theorem zGw (n : Nat) : Mag (zDw n) n:=⟨_,_,rfl,.inl rfl⟩
theorem Mag.nil (k : Nat) : Mag (.lst (some true) k []) 0:=⟨_,_,rfl,.inr rfl⟩
theorem zIo {n i : Nat} (h : i < (wds n).length) : ((wds n).map zA5)[i]? = some (zA5 (wds n)[i]):=by rw [List.getElem?_map,List.getElem?_eq_getElem h]; rfl
theorem sl_take {b m n : Nat} (h : n ≤ m) : zBI (some 1) (.sl (some false) b 1 0 m) none (some (.int .i64 (n : Int))) = some (.sl (some false) b 1 0 n):=by
 have e : zDy m none (some (.int .i64 (n : Int))) = some (0,n):=by
  simp only [zDy,aHi,aLo]
  rw [if_pos ⟨by omega,by omega⟩]
  simp
 simp only [zBI,if_true,e,Option.map_some,Nat.zero_add,Nat.sub_zero]
 rfl
theorem frz_mag {H0 H : Heap} {b n : Nat} {ws : List Nat} (hbl : H0.length ≤ b) (hb : H[b]? = some (.row 1 (ws.map zA5))) (hw : Small ws) (hn : wval ws = n) :
  zDo H0.length (.sl (some false) b 1 0 (wds n).length) H = some (zDw n,H.set b (.frz 1 (ws.map zA5))):=by
 subst hn
 have h:=wds_take hw
 simp only [zDo,hb]
 rw [if_neg tO,if_pos ⟨trivial,by rw [List.length_map]; omega⟩]
 simp only [List.drop_zero,← List.map_take,h.2]
 rfl
theorem shr32 (s : Nat) : zCP .shr .u64 (s : Int) 32 = some (.int .u64 ((s / 4294967296 : Nat) : Int)):=by
 simp only [zCP]
 rw [if_neg tO]
 have : (2 : Int) ^ Nat.min (32 : Int).toNat IntKind.u64.bits = 4294967296:=by rfl
 rw [this,Int.fdiv_eq_ediv_of_nonneg _ tO]
 rfl
theorem shr63 (s : Nat) : zCP .shr .u64 (s : Int) 63 = some (.int .u64 ((s / 9223372036854775808 : Nat) : Int)):=by
 simp only [zCP]
 rw [if_neg tO]
 have : (2 : Int) ^ Nat.min (63 : Int).toNat IntKind.u64.bits = 9223372036854775808:=by rfl
 rw [this,Int.fdiv_eq_ediv_of_nonneg _ tO]
 rfl
theorem sWu32 {x : Int} {K : Int → Prop} (r : Nat) (h : x % 4294967296 = r) (k : K (r : Int)) : valP (IntKind.wrap .u32 x) K:=sVal (by rw [IntKind.wrap_u32]; omega) k
theorem sWu64 {x : Int} {K : Int → Prop} (r : Nat) (h : x % 18446744073709551616 = r) (k : K (r : Int)) : valP (IntKind.wrap .u64 x) K:=sVal (by rw [IntKind.wrap_u64]; omega) k
theorem set_pad (ds : List Nat) (m d : Nat) : ((ds ++ List.replicate (m + 1) 0).map zA5).set ds.length (zA5 d) = ((ds ++ [d]) ++ List.replicate m 0).map zA5:=by
 rw [List.replicate_succ,← List.map_set,List.set_append_right _ _ (Nat.le_refl _),Nat.sub_self]
 simp
theorem pad_get (ds : List Nat) (m : Nat) : ((ds ++ List.replicate (m + 1) 0).map zA5)[ds.length]? = some (zA5 0):=by
 rw [List.getElem?_map,List.getElem?_append_right (Nat.le_refl _),Nat.sub_self,List.replicate_succ]; rfl
theorem Small.snoc {ds : List Nat} {d : Nat} (h : Small ds) (hd : d < 4294967296) : Small (ds ++ [d]):=by
 intro w hw
 rcases List.mem_append.1 hw with hw | hw
 ·exact h w hw
 ·rw [List.mem_singleton.1 hw]; exact hd
section
variable {C : CSpec} {GT : Nat → Option AV}
theorem trim_ev (b m : Nat) (ws : List Nat) (H : Heap) (hm : ws.length = m) (hb : H[b]? = some (.row 1 (ws.map zA5))) (hw : Small ws) (hl : m ≤ 1000000) :
  EFun C GT zEA [.sl (some false) b 1 0 m] H (.sl (some false) b 1 0 (wds (wval ws)).length) H:=by
 have hbl : b < H.length:=(zg hb).1
 subst hm
 have fin : ∀ n : Nat,n ≤ ws.length → (wds (wval ws)).length = n → (.sl (some false) b 1 0 (wds (wval ws)).length : AV) = .sl (some false) b 1 0 n:=fun n _ h=>by rw [h]
 refine zf ?_; refine zKb ?_; refine zBu (fun n : Nat=>[(3,zJ n),(0,.sl (some false) b 1 0 ws.length)]) (fun n H'=>H' = H ∧ n ≤ ws.length ∧ wval (ws.take n) = wval ws) (fun n=>n) ws.length rfl ⟨rfl,Nat.le_refl _,by rw [List.take_length]⟩ (fun n H1 ⟨e,hn,hv⟩=>?_)
 subst e
 dsimp only
 have hsm : Small (ws.take n):=fun w h=>hw w (List.mem_of_mem_take h)
 refine zDZ (fun h=>?_) (fun h=>?_)
 ·have h : 0 < n:=by have:=of_decide_eq_true h; omega
  have hi : n - 1 < ws.length:=by omega
  have hx : (ws.map zA5)[n - 1]? = some (zA5 ws[n - 1]):=by rw [List.getElem?_map,List.getElem?_eq_getElem hi]; rfl
  have ht : ws.take n = ws.take (n - 1) ++ [ws[n - 1]]:=by
   have:=List.take_succ_eq_append_getElem hi
   rwa [Nat.sub_add_cancel h] at this
  refine zM (r:=n - 1) tO tO ?_; refine sAt ⟨by omega,by omega⟩ ?_; refine zC1 (n - 1) (zA5 ws[n - 1]) (zA5 ws[n - 1]) tO hb hx rfl ?_; refine zH ?_; refine zDZ (fun h0=>?_) (fun h0=>?_)
  ·have h0 : ws[n - 1] = 0:=by have:=eq_of_beq h0; omega
   refine zM (r:=n - 1) tO tO ?_; refine zAM (n - 1) rfl ⟨rfl,by omega, ?_⟩ tO
   rw [← hv,ht,zDI,h0]; simp
  ·have h0 : ws[n - 1] ≠ 0:=fun e=>by rw [e] at h0; exact absurd h0 (by simp)
   have hd : wds (wval ws) = ws.take n:=by
    rw [← hv]
    refine wds_val hsm fun w hw=>?_
    rw [ht,List.getLast?_concat] at hw
    cases hw
    exact h0
   have e:=fin n hn (by rw [hd,List.length_take]; omega)
   refine zU (sl_take hn) ?_
   exact sRetE e rfl rfl (by simp only [zDo]; rw [if_pos hbl]) (by simp only [AV.bel]; exact decide_eq_true hbl) (Old.refl _)
 ·have h : n = 0:=by have:=of_decide_eq_false h; omega
  subst h
  have e:=fin 0 hn (by rw [← hv]; rfl)
  refine zG <| zG ?_; refine zU (sl_take hn) ?_
  exact sRetE e rfl rfl (by simp only [zDo]; rw [if_pos hbl]) (by simp only [AV.bel]; exact decide_eq_true hbl) (Old.refl _)
theorem words_ev (hT : ∀ b m ws H,ws.length = m → H[b]? = some (.row 1 (ws.map zA5)) → Small ws → m ≤ 1000000 → C zx [.sl (some false) b 1 0 m] H (.sl (some false) b 1 0 (wds (wval ws)).length) H)
  (x : Nat) (hx : x < 18446744073709551616) (H : Heap) : EFun C GT zDm [u64V x] H (zDw x) H:=by
 have hb : (H ++ [ABlk.row 1 [zA5 (x % 4294967296),zA5 (x / 4294967296)]])[H.length]? = some (.row 1 (([x % 4294967296,x / 4294967296] : List Nat).map zA5)):=zC
 have hw : Small [x % 4294967296,x / 4294967296]:=by
  intro w hw
  simp at hw
  omega
 have hv : wval [x % 4294967296,x / 4294967296] = x:=by simp only [wval]; omega
 have ht:=hT H.length 2 [x % 4294967296,x / 4294967296] _ rfl hb hw tO
 rw [hv] at ht
 refine zf ?_; refine sWu32 (x % 4294967296) tO ?_; refine zU (shr32 x) ?_; refine sWu32 (x / 4294967296) tO ?_; refine zAi (vs':=[zA5 (x % 4294967296),zA5 (x / 4294967296)]) rfl rfl ?_; refine zI (ht) ?_
 exact sRetF rfl rfl (frz_mag (Nat.le_refl _) hb hw hv) rfl (((Old.refl H).push _).set (Nat.le_refl _) _)
structure SAd where
 i : Nat
 c : Nat
 ds : List Nat
theorem add_tail (hT : ∀ b m ws H,ws.length = m → H[b]? = some (.row 1 (ws.map zA5)) → Small ws → m ≤ 1000000 → C zx [.sl (some false) b 1 0 m] H (.sl (some false) b 1 0 (wds (wval ws)).length) H)
  (av bv : AV) (x y n : Nat) (H : Heap) (ha : Mag av x) (hb : Mag bv y) (hn : (wds x).length = n) (hle : (wds y).length ≤ n) (hl : n ≤ 100000) :
  EW C GT (zEZ.behind 2) (finF zDG H (zDw (x + y)) H) [(1,bv),(0,av)] H:=by
 have hal : ((wds x).map zA5).length = n:=by rw [List.length_map,hn]
 refine zCH n ha hal ?_; refine zM (r:=n + 1) rfl tO ?_; refine sMake (n:=n + 1) rfl (Int.le_refl _) ⟨by omega,by omega⟩ rfl ?_; refine zBu (fun s : SAd=>[(7,zJ s.i),(5,.sl (some false) H.length 1 0 (n + 1)),(1,bv),(0,av),(6,u64V s.c)])
  (fun s H'=>Old H H' ∧ s.ds.length = s.i ∧ s.i ≤ n ∧ Small s.ds ∧ s.c ≤ 1 ∧ H'[H.length]? = some (.row 1 ((s.ds ++ List.replicate (n + 1 - s.i) 0).map zA5)) ∧ wval s.ds + 4294967296 ^ s.i * s.c = wval ((wds x).take s.i) + wval ((wds y).take s.i)) (fun s=>n - s.i) ⟨0,0,[]⟩ rfl
  ⟨(Old.refl _).push _,rfl,Nat.zero_le _,(fun w hw=>by cases hw),Nat.zero_le _,by rw [List.nil_append,Nat.sub_zero,List.map_replicate]; exact zC,rfl⟩ (fun ⟨i,c,ds⟩ H1 ⟨hO,hd,hi,hsm,hc,hrow,hval⟩=>?_)
 simp only at hd hi hsm hc hrow hval
 dsimp only
 refine zCH n ha hal ?_; refine zDZ (fun h=>?_) (fun h=>?_)
 ·have h : i < n:=by have:=of_decide_eq_true h; omega
  have hx : i < (wds x).length:=by omega
  have hax:=zIo hx
  have htx:=zCg hx
  have hsx:=zBR x _ (List.getElem_mem hx)
  obtain ⟨a,had⟩ : ∃ a,(wds x)[i] = a:=⟨_,rfl⟩
  rw [had] at hax htx hsx
  have hm : n + 1 - i = (n - i) + 1:=by omega
  rw [hm] at hrow
  have hget:=pad_get ds (n - i)
  have hset:=fun d=>set_pad ds (n - i) d
  rw [hd] at hget hset
  have hlen : ds.length = i:=hd
  refine zHf i (zA5 a) ha rfl hax ?_; refine zz (zA5 a) rfl ?_; refine zDN (r:=a) rfl tO ?_; refine zDN (r:=c + a) tO tO ?_; refine zCH (wds y).length hb (by simp) ?_; refine zDZ (fun h2=>?_) (fun h2=>?_)
  ·have h2 : i < (wds y).length:=by have:=of_decide_eq_true h2; omega
   have hby:=zIo h2
   have hty:=zCg h2
   have hsy:=zBR y _ (List.getElem_mem h2)
   obtain ⟨d,hdd⟩ : ∃ d,(wds y)[i] = d:=⟨_,rfl⟩
   rw [hdd] at hby hty hsy
   refine zHf i (zA5 d) hb rfl hby ?_; refine zz (zA5 d) rfl ?_; refine zDN (r:=d) rfl tO ?_; refine zDN (r:=c + a + d) tO tO ?_; refine sWu32 ((c + a + d) % 4294967296) tO ?_; refine sAt ⟨by omega,by omega⟩ ?_; refine zKc i (zA5 ((c + a + d) % 4294967296)) tO hrow hget rfl (by decide) rfl (fun cs h=>by cases h) ?_; refine zU (shr32 (c + a + d)) ?_; refine zM (r:=i + 1) rfl tO ?_; refine zAM (SAd.mk (i + 1) ((c + a + d) / 4294967296) (ds ++ [(c + a + d) % 4294967296])) rfl ⟨hO.set (Nat.le_refl _) _,by simp [hlen],by simp only; omega,hsm.snoc tO,by simp only; omega, ?_, ?_⟩ (by simp only; omega)
   ·rw [hset]
    have : n + 1 - (i + 1) = n - i:=by omega
    simp only [this]
    exact zE hrow
   ·simp only [zDI,hlen,htx,hty,Nat.pow_succ]
    have e : (c + a + d) % 4294967296 + 4294967296 * ((c + a + d) / 4294967296) = c + a + d:=by omega
    have e2 : 4294967296 ^ i * ((c + a + d) % 4294967296) + 4294967296 ^ i * 4294967296 * ((c + a + d) / 4294967296) = 4294967296 ^ i * c + 4294967296 ^ i * a + 4294967296 ^ i * d:=by
     rw [Nat.mul_assoc,← Nat.mul_add,e,Nat.mul_add,Nat.mul_add]
    omega
  ·have h2 : (wds y).length ≤ i:=by have:=of_decide_eq_false h2; omega
   have hty : wval ((wds y).take (i + 1)) = wval ((wds y).take i):=by rw [List.take_of_length_le tO,List.take_of_length_le h2]
   refine sWu32 ((c + a) % 4294967296) tO ?_; refine sAt ⟨by omega,by omega⟩ ?_; refine zKc i (zA5 ((c + a) % 4294967296)) tO hrow hget rfl (by decide) rfl (fun cs h=>by cases h) ?_; refine zU (shr32 (c + a)) ?_; refine zM (r:=i + 1) rfl tO ?_; refine zAM (SAd.mk (i + 1) ((c + a) / 4294967296) (ds ++ [(c + a) % 4294967296])) rfl ⟨hO.set (Nat.le_refl _) _,by simp [hlen],by simp only; omega,hsm.snoc tO,by simp only; omega, ?_, ?_⟩ (by simp only; omega)
   ·rw [hset]
    have : n + 1 - (i + 1) = n - i:=by omega
    simp only [this]
    exact zE hrow
   ·simp only [zDI,hlen,htx,hty,Nat.pow_succ]
    have e : (c + a) % 4294967296 + 4294967296 * ((c + a) / 4294967296) = c + a:=by omega
    have e2 : 4294967296 ^ i * ((c + a) % 4294967296) + 4294967296 ^ i * 4294967296 * ((c + a) / 4294967296) = 4294967296 ^ i * c + 4294967296 ^ i * a:=by
     rw [Nat.mul_assoc,← Nat.mul_add,e,Nat.mul_add]
    omega
 ·have h : i = n:=by have:=of_decide_eq_false h; omega
  subst h
  have hm : i + 1 - i = 0 + 1:=by omega
  rw [hm] at hrow
  have hget:=pad_get ds 0
  have hset:=fun d=>set_pad ds 0 d
  rw [hd] at hget hset
  rw [List.take_of_length_le tO,List.take_of_length_le tO,zDV,zDV,← hd,← zDI] at hval
  have hsm2 : Small (ds ++ [c]):=hsm.snoc tO
  have hr2 : (H1.set H.length (.row 1 ((ds ++ [c]).map zA5)))[H.length]? = some (.row 1 ((ds ++ [c]).map zA5)):=zE hrow
  have hset2 : ((ds ++ List.replicate (0 + 1) 0).map zA5).set i (zA5 c) = (ds ++ [c]).map zA5:=by rw [hset]; simp
  have ht:=hT H.length (i + 1) (ds ++ [c]) _ (by simp [hd]) hr2 hsm2 tO
  rw [hval] at ht
  rw [← hset2] at ht hr2
  refine zCH i ha hal ?_; refine sWu32 c tO ?_; refine sAt ⟨by omega,by omega⟩ ?_; refine zKc i (zA5 c) tO hrow hget rfl (by decide) rfl (fun cs h=>by cases h) ?_; refine zI ht ?_
  rw [hset2] at hr2
  exact sRetF rfl rfl (frz_mag (Nat.le_refl _) (by rw [hset2]; exact hr2) hsm2 hval) rfl ((hO.set (Nat.le_refl _) _).set (Nat.le_refl _) _)
theorem add_ev (hT : ∀ b m ws H,ws.length = m → H[b]? = some (.row 1 (ws.map zA5)) → Small ws → m ≤ 1000000 → C zx [.sl (some false) b 1 0 m] H (.sl (some false) b 1 0 (wds (wval ws)).length) H)
  (av bv : AV) (x y : Nat) (H : Heap) (ha : Mag av x) (hb : Mag bv y) (h1 : (wds x).length ≤ 100000) (h2 : (wds y).length ≤ 100000) : EFun C GT zDG [av,bv] H (zDw (x + y)) H:=by
 refine zf ?_; refine zCH (wds x).length ha (by simp) ?_; refine zCH (wds y).length hb (by simp) ?_; refine zDZ (fun h=>?_) (fun h=>?_)
 ·have h : (wds x).length < (wds y).length:=by have:=of_decide_eq_true h; omega
  rw [Nat.add_comm x y]
  refine sTail rfl (add_tail hT bv av y x _ H hb ha rfl tO h2) ?_
  rfl
 ·have h : (wds y).length ≤ (wds x).length:=by have:=of_decide_eq_false h; omega
  refine sTail rfl (add_tail hT av bv x y _ H ha hb rfl h h1) ?_
  rfl
theorem sub_ev (hT : ∀ b m ws H,ws.length = m → H[b]? = some (.row 1 (ws.map zA5)) → Small ws → m ≤ 1000000 → C zx [.sl (some false) b 1 0 m] H (.sl (some false) b 1 0 (wds (wval ws)).length) H)
  (av bv : AV) (x y n : Nat) (H : Heap) (ha : Mag av x) (hb : Mag bv y) (hyx : y ≤ x) (hn : (wds x).length = n) (hl : n ≤ 100000) : EFun C GT zEb [av,bv] H (zDw (x - y)) H:=by
 have hal : ((wds x).map zA5).length = n:=by rw [List.length_map,hn]
 have hle : (wds y).length ≤ n:=by rw [← hn]; exact wds_len_mono hyx
 refine zf ?_; refine zCH n ha hal ?_; refine sMake (n:=n) rfl (Int.le_refl _) ⟨by omega,by omega⟩ rfl ?_; refine zBu (fun s : SAd=>[(7,zJ s.i),(5,.sl (some false) H.length 1 0 n),(1,bv),(6,u64V s.c),(0,av)])
  (fun s H'=>Old H H' ∧ s.ds.length = s.i ∧ s.i ≤ n ∧ Small s.ds ∧ s.c ≤ 1 ∧ H'[H.length]? = some (.row 1 ((s.ds ++ List.replicate (n - s.i) 0).map zA5)) ∧ wval s.ds + wval ((wds y).take s.i) = wval ((wds x).take s.i) + 4294967296 ^ s.i * s.c) (fun s=>n - s.i) ⟨0,0,[]⟩ rfl
  ⟨(Old.refl _).push _,rfl,Nat.zero_le _,(fun w hw=>by cases hw),Nat.zero_le _,by rw [List.nil_append,Nat.sub_zero,List.map_replicate]; exact zC,rfl⟩ (fun ⟨i,c,ds⟩ H1 ⟨hO,hd,hi,hsm,hc,hrow,hval⟩=>?_)
 simp only at hd hi hsm hc hrow hval
 dsimp only
 refine zCH n ha hal ?_; refine zDZ (fun h=>?_) (fun h=>?_)
 ·have h : i < n:=by have:=of_decide_eq_true h; omega
  have hx : i < (wds x).length:=by omega
  have hax:=zIo hx
  have htx:=zCg hx
  have hsx:=zBR x _ (List.getElem_mem hx)
  obtain ⟨a,had⟩ : ∃ a,(wds x)[i] = a:=⟨_,rfl⟩
  rw [had] at hax htx hsx
  obtain ⟨m,hm⟩ : ∃ m,n - i = m + 1:=⟨n - i - 1,by omega⟩
  rw [hm] at hrow
  have hget:=pad_get ds m
  have hset:=fun d=>set_pad ds m d
  rw [hd] at hget hset
  have hlen : ds.length = i:=hd
  refine zHf i (zA5 a) ha rfl hax ?_; refine zz (zA5 a) rfl ?_; refine zDN (r:=a) rfl tO ?_; refine sWu64 ((((a : Int) - c) % 18446744073709551616).toNat) tO ?_; refine zCH (wds y).length hb (by simp) ?_
  have next : ∀ (e d c' : Nat),(e : Int) = (a : Int) - c' - c ∨ True → True:=fun _ _ _ _=>trivial
  refine zDZ (fun h2=>?_) (fun h2=>?_)
  ·have h2 : i < (wds y).length:=by have:=of_decide_eq_true h2; omega
   have hby:=zIo h2
   have hty:=zCg h2
   have hsy:=zBR y _ (List.getElem_mem h2)
   obtain ⟨d,hdd⟩ : ∃ d,(wds y)[i] = d:=⟨_,rfl⟩
   rw [hdd] at hby hty hsy
   obtain ⟨D,hD⟩ : ∃ D : Nat,(((a : Int) - c - d) % 18446744073709551616) = D:=⟨(((a : Int) - c - d) % 18446744073709551616).toNat,by omega⟩
   refine zHf i (zA5 d) hb rfl hby ?_; refine zz (zA5 d) rfl ?_; refine zDN (r:=d) rfl tO ?_; refine sWu64 D tO ?_; refine sWu32 (D % 4294967296) tO ?_; refine sAt ⟨by omega,by omega⟩ ?_; refine zKc i (zA5 (D % 4294967296)) tO hrow hget rfl (by decide) rfl (fun cs h=>by cases h) ?_; refine zU (shr63 D) ?_; refine zM (r:=i + 1) rfl tO ?_; refine zAM (SAd.mk (i + 1) (D / 9223372036854775808) (ds ++ [D % 4294967296])) rfl ⟨hO.set (Nat.le_refl _) _,by simp [hlen],by simp only; omega,hsm.snoc tO,by simp only; omega, ?_, ?_⟩ (by simp only; omega)
   ·rw [hset]
    have : n - (i + 1) = m:=by omega
    simp only [this]
    exact zE hrow
   ·simp only [zDI,hlen,htx,hty,Nat.pow_succ]
    have e : D % 4294967296 + c + d = a + 4294967296 * (D / 9223372036854775808):=by omega
    have e2 : 4294967296 ^ i * (D % 4294967296) + 4294967296 ^ i * c + 4294967296 ^ i * d = 4294967296 ^ i * a + 4294967296 ^ i * 4294967296 * (D / 9223372036854775808):=by
     rw [Nat.mul_assoc,← Nat.mul_add,← Nat.mul_add,e,Nat.mul_add]
    omega
  ·have h2 : (wds y).length ≤ i:=by have:=of_decide_eq_false h2; omega
   have hty : wval ((wds y).take (i + 1)) = wval ((wds y).take i):=by rw [List.take_of_length_le tO,List.take_of_length_le h2]
   obtain ⟨D,hD⟩ : ∃ D : Nat,(((a : Int) - c) % 18446744073709551616).toNat = D:=⟨_,rfl⟩
   rw [hD]
   refine sWu32 (D % 4294967296) tO ?_; refine sAt ⟨by omega,by omega⟩ ?_; refine zKc i (zA5 (D % 4294967296)) tO hrow hget rfl (by decide) rfl (fun cs h=>by cases h) ?_; refine zU (shr63 D) ?_; refine zM (r:=i + 1) rfl tO ?_; refine zAM (SAd.mk (i + 1) (D / 9223372036854775808) (ds ++ [D % 4294967296])) rfl ⟨hO.set (Nat.le_refl _) _,by simp [hlen],by simp only; omega,hsm.snoc tO,by simp only; omega, ?_, ?_⟩ (by simp only; omega)
   ·rw [hset]
    have : n - (i + 1) = m:=by omega
    simp only [this]
    exact zE hrow
   ·simp only [zDI,hlen,htx,hty,Nat.pow_succ]
    have e : D % 4294967296 + c = a + 4294967296 * (D / 9223372036854775808):=by omega
    have e2 : 4294967296 ^ i * (D % 4294967296) + 4294967296 ^ i * c = 4294967296 ^ i * a + 4294967296 ^ i * 4294967296 * (D / 9223372036854775808):=by
     rw [Nat.mul_assoc,← Nat.mul_add,← Nat.mul_add,e]
    omega
 ·have h : i = n:=by have:=of_decide_eq_false h; omega
  subst h
  rw [Nat.sub_self,List.replicate_zero,List.append_nil] at hrow
  rw [List.take_of_length_le tO,List.take_of_length_le tO,zDV,zDV] at hval
  have hv : wval ds = x - y:=by
   have h1:=wval_lt hsm
   rw [hd] at h1
   have hc0 : c = 0:=by
    rcases Nat.eq_zero_or_pos c with h | h
    ·exact h
    ·have hc1 : c = 1:=by omega
     rw [hc1,Nat.mul_one] at hval
     omega
   rw [hc0] at hval
   omega
  have ht:=hT H.length i ds _ hd hrow hsm tO
  rw [hv] at ht
  refine zI ht ?_
  exact sRetF rfl rfl (frz_mag (Nat.le_refl _) hrow hsm hv) rfl (hO.set (Nat.le_refl _) _)
def cmpN (x y : Nat) : Int:=if x < y then -1 else if x = y then 0 else 1
theorem cmpN_lt {x y : Nat} (h : x < y) : cmpN x y = -1:=if_pos h
theorem cmpN_eq (x : Nat) : cmpN x x = 0:=by unfold cmpN; rw [if_neg tO,if_pos rfl]
theorem cmpN_gt {x y : Nat} (h : y < x) : cmpN x y = 1:=by unfold cmpN; rw [if_neg tO,if_neg tO]
theorem bcmp_ev (av bv : AV) (x y : Nat) (H : Heap) (ha : Mag av x) (hb : Mag bv y) (h1 : (wds x).length ≤ 100000) (h2 : (wds y).length ≤ 100000) : EFun C GT zEa [av,bv] H (zK (cmpN x y)) H:=by
 refine zf ?_; refine zCH (wds x).length ha (by simp) ?_; refine zCH (wds y).length hb (by simp) ?_; refine zDZ (fun h=>?_) (fun h=>?_)
 ·have h : (wds x).length ≠ (wds y).length:=by simp only [bne_iff_ne,ne_eq] at h; omega
  refine zCH (wds x).length ha (by simp) ?_; refine zCH (wds y).length hb (by simp) ?_; refine zDZ (fun h2=>?_) (fun h2=>?_)
  ·have h2 : (wds x).length < (wds y).length:=by have:=of_decide_eq_true h2; omega
   rw [cmpN_lt (zJH h2)]
   exact zc rfl rfl rfl rfl (Old.refl _)
  ·have h2 : (wds y).length < (wds x).length:=by have:=of_decide_eq_false h2; omega
   rw [cmpN_gt (zJH h2)]
   exact zc rfl rfl rfl rfl (Old.refl _)
 have h : (wds x).length = (wds y).length:=by simp only [bne_eq_false_iff_eq] at h; omega
 have key : ∀ (e : Int),cmpN x y = e → True:=fun _ _=>trivial
 refine zCH (wds x).length ha (by simp) ?_; refine sW64 ⟨by omega,by omega⟩ ?_; refine zBu (fun k : Nat=>[(5,zK ((k : Int) - 1)),(1,bv),(0,av)]) (fun k H'=>H' = H ∧ k ≤ (wds x).length ∧ (wds x).drop k = (wds y).drop k) (fun k=>k) (wds x).length rfl
  ⟨rfl,Nat.le_refl _,by rw [List.drop_length,h,List.drop_length]⟩ (fun k H1 ⟨e,hk,hd⟩=>?_)
 subst e
 dsimp only
 refine zDZ (fun h3=>?_) (fun h3=>?_)
 ·have h3 : 1 ≤ k:=by have:=of_decide_eq_true h3; omega
  obtain ⟨i,rfl⟩ : ∃ i,k = i + 1:=⟨k - 1,by omega⟩
  have hx : i < (wds x).length:=by omega
  have hy : i < (wds y).length:=by omega
  have hax:=zIo hx
  have hby:=zIo hy
  have hsx:=zBR x _ (List.getElem_mem hx)
  have hsy:=zBR y _ (List.getElem_mem hy)
  have top1:=fun hlt=>cmp_top (zBR x) (zBR y) h hx hd hlt
  have top2:=fun hlt=>cmp_top (zBR y) (zBR x) h.symm hy hd.symm hlt
  rw [zDV,zDV] at top1 top2
  have hdx : (wds x).drop i = (wds x)[i] :: (wds x).drop (i + 1):=(List.getElem_cons_drop hx).symm
  have hdy : (wds y).drop i = (wds y)[i] :: (wds y).drop (i + 1):=(List.getElem_cons_drop hy).symm
  generalize (wds x)[i] = a at *
  generalize (wds y)[i] = d at *
  refine zHf i (zA5 a) ha tO hax ?_; refine zz (zA5 a) rfl ?_; refine zHf i (zA5 d) hb tO hby ?_; refine zz (zA5 d) rfl ?_; refine zDZ (fun h4=>?_) (fun h4=>?_)
  ·have h4 : a ≠ d:=by simp only [bne_iff_ne,ne_eq] at h4; omega
   refine zHf i (zA5 a) ha tO hax ?_; refine zz (zA5 a) rfl ?_; refine zHf i (zA5 d) hb tO hby ?_; refine zz (zA5 d) rfl ?_; refine zDZ (fun h5=>?_) (fun h5=>?_)
   ·have h5 : a < d:=by have:=of_decide_eq_true h5; omega
    rw [cmpN_lt (top1 h5)]
    exact zc rfl rfl rfl rfl (Old.refl _)
   ·have h5 : d < a:=by have:=of_decide_eq_false h5; omega
    rw [cmpN_gt (top2 h5)]
    exact zc rfl rfl rfl rfl (Old.refl _)
  ·have h4 : a = d:=by simp only [bne_eq_false_iff_eq] at h4; omega
   refine sW64 ⟨by omega,by omega⟩ ?_; refine zAM i ?_ ⟨rfl,by omega,by rw [hdx,hdy,h4,hd]⟩ tO
   have : ((i + 1 : Nat) : Int) - 1 - 1 = (i : Int) - 1:=by omega
   simp only [← this]
   rfl
 ·have h3 : k = 0:=by have:=of_decide_eq_false h3; omega
  subst h3
  have e : x = y:=by
   rw [← zDV x,← zDV y]
   simp only [List.drop_zero] at hd
   rw [hd]
  rw [e,cmpN_eq]
  exact zc rfl rfl rfl rfl (Old.refl _)
def sumS (xn : Bool) (x : Nat) (yn : Bool) (y : Nat) : Bool × Nat:=if xn = yn then (xn,x + y) else if y ≤ x then (xn,x - y) else (yn,y - x)
theorem bsum_ev (hA : ∀ av bv x y H,Mag av x → Mag bv y → (wds x).length ≤ 100000 → (wds y).length ≤ 100000 → C zCB [av,bv] H (zDw (x + y)) H)
  (hS : ∀ av bv x y H,Mag av x → Mag bv y → y ≤ x → (wds x).length ≤ 100000 → C zBL [av,bv] H (zDw (x - y)) H)
  (hC : ∀ av bv x y H,Mag av x → Mag bv y → (wds x).length ≤ 100000 → (wds y).length ≤ 100000 → C zCC [av,bv] H (zK (cmpN x y)) H)
  (av bv : AV) (xn yn : Bool) (x y : Nat) (H : Heap) (ha : Mag av x) (hb : Mag bv y) (h1 : (wds x).length ≤ 100000) (h2 : (wds y).length ≤ 100000) :
  EFun C GT zEY [.bool xn,av,.bool yn,bv] H (.tup [.bool (sumS xn x yn y).1,zDw (sumS xn x yn y).2]) H:=by
 obtain ⟨r,hr⟩ : ∃ r,sumS xn x yn y = r:=⟨_,rfl⟩
 rw [hr]
 unfold sumS at hr
 have c1:=hA av bv x y H ha hb h1 h2
 have c2:=hC av bv x y H ha hb h1 h2
 refine zf ?_
 by_cases he : xn = yn
 ·rw [if_pos he] at hr
  subst hr
  subst he
  cases xn
  ·refine zH ?_; refine zI (c1) ?_
   exact zc rfl rfl rfl rfl (Old.refl _)
  ·refine zH ?_; refine zI (c1) ?_
   exact zc rfl rfl rfl rfl (Old.refl _)
 rw [if_neg he] at hr
 by_cases hle : y ≤ x
 ·rw [if_pos hle] at hr
  subst hr
  have c3:=hS av bv x y H ha hb hle h1
  have hg : decide (cmpN x y ≥ 0) = true:=by unfold cmpN; rw [if_neg tO]; split <;> rfl
  cases xn <;> cases yn <;> first | exact absurd rfl he | skip
  ·refine zG ?_; refine zI (c2) ?_; refine zDZ (fun _=>?_) (fun h=>absurd (hg.symm.trans h) (by simp))
   refine zI (c3) ?_
   exact zc rfl rfl rfl rfl (Old.refl _)
  ·refine zG ?_; refine zI (c2) ?_; refine zDZ (fun _=>?_) (fun h=>absurd (hg.symm.trans h) (by simp))
   refine zI (c3) ?_
   exact zc rfl rfl rfl rfl (Old.refl _)
 ·rw [if_neg hle] at hr
  subst hr
  have c3:=hS bv av y x H hb ha tO h2
  have hg : decide (cmpN x y ≥ 0) = false:=by unfold cmpN; rw [if_pos tO]; rfl
  cases xn <;> cases yn <;> first | exact absurd rfl he | skip
  ·refine zG ?_; refine zI (c2) ?_; refine zDZ (fun h=>absurd (hg.symm.trans h) (by simp)) (fun _=>?_)
   refine zI (c3) ?_
   exact zc rfl rfl rfl rfl (Old.refl _)
  ·refine zG ?_; refine zI (c2) ?_; refine zDZ (fun h=>absurd (hg.symm.trans h) (by simp)) (fun _=>?_)
   refine zI (c3) ?_
   exact zc rfl rfl rfl rfl (Old.refl _)
end
end Go.AM
set_option maxRecDepth 20000
namespace Go.AM
def zFZ (v : Int) : List AV:=[.bool (decide (v < 0)),zDw v.natAbs]
theorem wds_get : ∀ (n q : Nat),q < (wds n).length → (wds n)[q]? = some (n / 4294967296 ^ q % 4294967296):=by
 intro n
 induction n using Nat.strongRecOn with
 | ind n ih=>
  intro q hq
  have hn : n ≠ 0:=fun e=>by subst e; simp [zDU] at hq
  rw [zCr hn] at hq ⊢
  cases q with
  | zero=>simp
  | succ q=>
   rw [List.getElem?_cons_succ,ih _ tO q (by simpa using hq),Nat.div_div_eq_div_mul,Nat.pow_succ,Nat.mul_comm 4294967296]
theorem B_pow (q : Nat) : 4294967296 ^ q = 2 ^ (32 * q):=by rw [Nat.pow_mul]
theorem bit_of_word (m i : Nat) : m / 4294967296 ^ (i / 32) % 4294967296 / 2 ^ (i % 32) % 2 = m / 2 ^ i % 2:=by
 have hr : i % 32 < 32:=Nat.mod_lt _ tO
 obtain ⟨k,hk⟩ : ∃ k,32 = i % 32 + (k + 1):=⟨31 - i % 32,by omega⟩
 have e1 : (4294967296 : Nat) = 2 ^ (i % 32) * 2 ^ (k + 1):=by rw [← Nat.pow_add,← hk]
 have e2 : m / 4294967296 ^ (i / 32) % 4294967296 / 2 ^ (i % 32) = m / 4294967296 ^ (i / 32) / 2 ^ (i % 32) % 2 ^ (k + 1):=by
  conv=>lhs; lhs; rhs; rw [e1]
  rw [Nat.mod_mul_right_div_self]
 rw [e2,Nat.mod_mod_of_dvd _ (by rw [Nat.pow_succ]; exact Nat.dvd_mul_left 2 _),B_pow,Nat.div_div_eq_div_mul,← Nat.pow_add]
 have : 32 * (i / 32) + i % 32 = i:=Nat.div_add_mod i 32
 rw [this]
theorem bit_high {m i : Nat} (h : (wds m).length ≤ i / 32) : m / 2 ^ i % 2 = 0:=by
 have h1:=wds_lt m
 have h2 : 4294967296 ^ (wds m).length ≤ 4294967296 ^ (i / 32):=Nat.pow_le_pow_right tO h
 rw [B_pow (i / 32)] at h2
 have h3 : 2 ^ (32 * (i / 32)) ≤ 2 ^ i:=Nat.pow_le_pow_right tO tO
 rw [Nat.div_eq_of_lt tO]
theorem bits_shift : ∀ k n : Nat,n / 2 ^ k ≠ 0 → bits n = bits (n / 2 ^ k) + k
 | 0,n,_=>by simp
 | k + 1,n,h=>by
  have hn : n ≠ 0:=fun e=>by subst e; simp at h
  have e : n / 2 ^ (k + 1) = n / 2 / 2 ^ k:=by rw [Nat.div_div_eq_div_mul,Nat.pow_succ,Nat.mul_comm]
  rw [e] at h ⊢
  rw [zJ8 hn,bits_shift k (n / 2) h]
  omega
theorem bits_top : ∀ (m k : Nat),(wds m).length = k + 1 → bits m = k * 32 + bits (m / 4294967296 ^ k % 4294967296):=by
 intro m
 induction m using Nat.strongRecOn with
 | ind m ih=>
  intro k hk
  have hm : m ≠ 0:=fun e=>by subst e; simp [zDU] at hk
  rw [zCr hm,List.length_cons] at hk
  by_cases h2 : m / 4294967296 = 0
  ·rw [h2,zDU] at hk
   have : k = 0:=by simpa using hk.symm
   subst this
   rw [Nat.pow_zero,Nat.div_one,Nat.mod_eq_of_lt tO]; omega
  ·have h3 : (wds (m / 4294967296)).length ≠ 0:=by rw [zCr h2]; simp
   obtain ⟨j,rfl⟩ : ∃ j,k = j + 1:=⟨k - 1,by omega⟩
   have h4:=ih (m / 4294967296) tO j tO
   have h5:=bits_shift 32 m (by simpa using h2)
   have e : (2 : Nat) ^ 32 = 4294967296:=by decide
   rw [e] at h5
   rw [h5,h4,Nat.div_div_eq_div_mul,Nat.pow_succ,Nat.mul_comm 4294967296]
   omega
theorem tz_exists : ∀ m : Nat,m ≠ 0 → ∃ n,m % 2 ^ n = 0 ∧ m / 2 ^ n % 2 = 1:=by
 intro m
 induction m using Nat.strongRecOn with
 | ind m ih=>
  intro h
  by_cases ho : m % 2 = 1
  ·exact ⟨0,by simp [Nat.mod_one],by simpa using ho⟩
  ·obtain ⟨n,h1,h2⟩:=ih (m / 2) tO tO
   refine ⟨n + 1, ?_, ?_⟩
   ·rw [Nat.pow_succ,Nat.mul_comm,Nat.mod_mul,h1]; omega
   ·rw [Nat.pow_succ,Nat.mul_comm,← Nat.div_div_eq_div_mul]; exact h2
theorem tz_low {m n k : Nat} (h : m % 2 ^ n = 0) (hk : k < n) : m / 2 ^ k % 2 = 0:=by
 obtain ⟨c,rfl⟩:=Nat.dvd_of_mod_eq_zero h
 obtain ⟨j,rfl⟩ : ∃ j,n = k + (j + 1):=⟨n - k - 1,by omega⟩
 rw [Nat.pow_add,Nat.mul_assoc,Nat.mul_div_cancel_left _ (Nat.two_pow_pos k),Nat.pow_succ,Nat.mul_comm (2 ^ j) 2,Nat.mul_assoc,Nat.mul_mod_right]
theorem tz_63 {m : Nat} (h : m < 18446744073709551616) (h1 : m % 2 ^ 63 = 0) (h2 : m / 2 ^ 63 % 2 = 1) : m = 9223372036854775808:=by
 have e : (2 : Nat) ^ 63 = 9223372036854775808:=by decide
 rw [e] at h1 h2
 omega
theorem shrN (w r : Nat) (h : r ≤ 32) : zCP .shr .u32 (w : Int) (r : Int) = some (.int .u32 ((w / 2 ^ r : Nat) : Int)):=by
 simp only [zCP]
 rw [if_neg tO]
 have e : Nat.min (r : Int).toNat IntKind.u32.bits = r:=by
  rw [Int.toNat_natCast]; exact Nat.min_eq_left h
 have e2 : ((2 : Int) ^ r) = ((2 ^ r : Nat) : Int):=by simp
 rw [e,e2,Int.fdiv_eq_ediv_of_nonneg _ (Int.natCast_nonneg _)]
 rfl
theorem shr1w (w : Nat) : zCP .shr .u32 (w : Int) 1 = some (.int .u32 ((w / 2 : Nat) : Int)):=by
 have:=shrN w 1 tO; simpa using this
theorem and1 (a : Nat) (h : a < 18446744073709551616) : zHM .and .u64 (a : Int) 1 = some (.int .u64 ((a % 2 : Nat) : Int)):=by
 simp only [zHM]
 have e : (BitVec.ofInt IntKind.u64.bits (a : Int) &&& BitVec.ofInt IntKind.u64.bits 1).toNat = a % 2:=by
  rw [BitVec.toNat_and]
  have h1 : (BitVec.ofInt IntKind.u64.bits (a : Int)).toNat = a:=by
   show (BitVec.ofInt 64 (a : Int)).toNat = a
   rw [BitVec.toNat_ofInt]
   have : ((a : Int) % ((2 ^ 64 : Nat) : Int)) = (a : Int):=by rw [Int.emod_eq_of_lt tO (by simp; omega)]
   rw [this,Int.toNat_natCast]
  have h2 : (BitVec.ofInt IntKind.u64.bits 1).toNat = 1:=by decide
  rw [h1,h2,Nat.and_one_is_mod]
 rw [e,IntKind.wrap_u64]
 have : ((a % 2 : Nat) : Int) % 18446744073709551616 = ((a % 2 : Nat) : Int):=by omega
 rw [this]
theorem shl32 (a : Nat) (h : a < 4294967296) : zCP .shl .u64 (a : Int) 32 = some (.int .u64 ((a * 4294967296 : Nat) : Int)):=by
 simp only [zCP]
 rw [if_neg tO]
 have : (2 : Int) ^ Nat.min (32 : Int).toNat IntKind.u64.bits = 4294967296:=by rfl
 rw [this,IntKind.wrap_u64]
 have : ((a : Int) * 4294967296) % 18446744073709551616 = ((a * 4294967296 : Nat) : Int):=by omega
 rw [this]
theorem or32 (a b : Nat) (ha : a < 4294967296) (hb : b < 4294967296) : zHM .or .u64 (a : Int) ((b * 4294967296 : Nat) : Int) = some (.int .u64 ((a + 4294967296 * b : Nat) : Int)):=by
 simp only [zHM]
 have of (x : Nat) (hx : x < 18446744073709551616) : (BitVec.ofInt IntKind.u64.bits (x : Int)).toNat = x:=by
  show (BitVec.ofInt 64 (x : Int)).toNat = x
  rw [BitVec.toNat_ofInt]
  have : ((x : Int) % ((2 ^ 64 : Nat) : Int)) = (x : Int):=by rw [Int.emod_eq_of_lt tO (by simp; omega)]
  rw [this,Int.toNat_natCast]
 have e : (BitVec.ofInt IntKind.u64.bits (a : Int) ||| BitVec.ofInt IntKind.u64.bits ((b * 4294967296 : Nat) : Int)).toNat = a + 4294967296 * b:=by
  rw [BitVec.toNat_or,of a tO,of _ tO,Nat.or_comm,Nat.mul_comm b]
  have:=Nat.two_pow_add_eq_or_of_lt (i:=32) (b:=a) (by simpa using ha) b
  have e32 : (2 : Nat) ^ 32 = 4294967296:=by decide
  rw [e32] at this
  rw [← this]; omega
 rw [e,IntKind.wrap_u64]
 have : ((a + 4294967296 * b : Nat) : Int) % 18446744073709551616 = ((a + 4294967296 * b : Nat) : Int):=by omega
 rw [this]
theorem sRetB {F : AF} {H H1 : Heap} {fr : Fr} {v : AV} {b : Nat} {cs : List AV} (hH : H1 = H.set b (.box cs)) (hk : F.keep = false) (hr : (zBo fr H1 F.results).map tupled = some v) (hf : zDo H.length v H1 = some (v,H1)) (hb : v.bel H.length = true) (hc : zE2 H.length (.box cs) = true) :
  retP F H fr H1 v (H.set b (.box cs)):=by
 refine sRet ?_
 unfold zGS
 cases hs : zBo fr H1 F.results with
 | none=>rw [hs] at hr; cases hr
 | some vs=>
  rw [hs] at hr
  simp only [Option.map_some,Option.some.injEq] at hr
  subst hr
  simp only [hk,hf,Bool.false_eq_true,if_false]
  subst hH
  refine ⟨hb,fun c hc'=>?_,trivial, ?_⟩
  ·by_cases e : b = c
   ·subst e
    exact .inr ⟨_,List.getElem?_set_self hc',hc⟩
   ·exact .inl (List.getElem?_set_ne e)
  ·rw [List.take_of_length_le (by rw [List.length_set]; omega)]
theorem sRetK {F : AF} {H H1 : Heap} {fr : Fr} {v : AV} (hk : F.keep = true) (hr : (zBo fr H1 F.results).map tupled = some v) : retP F H fr H1 v H1:=by
 refine sRet ?_
 unfold zGS
 cases hs : zBo fr H1 F.results with
 | none=>rw [hs] at hr; cases hr
 | some vs=>
  rw [hs] at hr
  simp only [Option.map_some,Option.some.injEq] at hr
  subst hr
  simp only [hk,if_true]
  exact ⟨trivial,trivial⟩
section
variable {C : CSpec} {GT : Nat → Option AV}
theorem bit_ev (av : AV) (m i : Nat) (H : Heap) (ha : Mag av m) (hl : (wds m).length ≤ 100000) (hi : i ≤ 1000000) : EFun C GT zEc [av,zK i] H (u64V (m / 2 ^ i % 2)) H:=by
 obtain ⟨r,hr⟩ : ∃ r,m / 2 ^ i % 2 = r:=⟨_,rfl⟩
 have hd : (i : Int).tdiv 32 = ((i / 32 : Nat) : Int):=(Int.ofNat_tdiv i 32).symm
 rw [hr]
 refine zf ?_; refine zG ?_; refine zFc (by decide) ?_; refine zM (r:=i / 32) hd tO ?_; refine zCH (wds m).length ha (by simp) ?_; refine zG ?_; refine zDZ (fun h=>?_) (fun h=>?_)
 ·have h : (wds m).length ≤ i / 32:=by have:=of_decide_eq_true h; omega
  rw [bit_high h] at hr
  subst hr
  exact zc rfl rfl rfl rfl (Old.refl _)
 ·have h : i / 32 < (wds m).length:=by have:=of_decide_eq_false h; omega
  have hg:=zIo h
  have hw:=zBR m _ (List.getElem_mem h)
  have he:=wds_get m (i / 32) h
  rw [List.getElem?_eq_getElem h] at he
  have he:=Option.some.inj he
  have hb:=bit_of_word m i
  rw [← he,hr] at hb
  generalize (wds m)[i / 32] = w at *
  have hw2 : w / 2 ^ (i % 32) ≤ w:=Nat.div_le_self _ _
  have hm : (i : Int).tmod 32 = ((i % 32 : Nat) : Int):=(Int.ofNat_tmod i 32).symm
  subst hb
  refine zFc (by decide) ?_; refine zM (r:=i / 32) hd tO ?_; refine zHf (i / 32) (zA5 w) ha rfl hg ?_; refine zz (zA5 w) rfl ?_; refine zDN (r:=i) rfl tO ?_; refine zFc (by decide) ?_; refine sVal (r:=((i % 32 : Nat) : Int)) hm ?_; refine zU (shrN w (i % 32) tO) ?_; refine zDN (r:=w / 2 ^ (i % 32)) rfl tO ?_; refine zU (and1 (w / 2 ^ (i % 32)) tO) ?_
  exact zc rfl rfl rfl rfl (Old.refl _)
theorem tzb_ev (hB : ∀ (av : AV) (m i : Nat) (H : Heap),Mag av m → (wds m).length ≤ 100000 → i ≤ 1000000 → C zCD [av,zK i] H (u64V (m / 2 ^ i % 2)) H) (b m n : Nat) (x av : AV) (H : Heap) (hb : H[b]? = some (.box [x,av])) (ha : Mag av m) (h0 : m ≠ 0) (hl : (wds m).length ≤ 100) (hn : n ≤ 10000) (h1 : m % 2 ^ n = 0) (h2 : m / 2 ^ n % 2 = 1) :
  EFun C GT zA1 [.ref b 0 0 0] H (u64V n) H:=by
 have hlz : (wds m).length ≠ 0:=by rw [zCr h0]; simp
 refine zf ?_; refine zB (av) hb rfl ?_; refine zCH (wds m).length ha (by simp) ?_; refine zDZ (fun h=>absurd (eq_of_beq h) tO) (fun _=>?_)
 refine zBu (fun k : Nat=>[(3,u64V k),(0,.ref b 0 0 0)]) (fun k H'=>H' = H ∧ k ≤ n) (fun k=>n - k) 0 rfl ⟨rfl,Nat.zero_le _⟩ (fun k H1 ⟨e,hk⟩=>?_)
 subst e
 dsimp only
 have hbk:=hB av m k H1 ha tO tO
 by_cases hkn : k = n
 ·subst hkn
  rw [h2] at hbk
  refine zB (av) hb rfl ?_; refine zM (r:=k) rfl tO ?_; refine zI (hbk) ?_; refine zG ?_
  exact zc rfl rfl rfl rfl (Old.refl _)
 ·rw [tz_low h1 (by omega : k < n)] at hbk
  refine zB (av) hb rfl ?_; refine zM (r:=k) rfl tO ?_; refine zI (hbk) ?_; refine zH ?_; refine zDN (r:=k + 1) rfl tO ?_
  exact zAM (k + 1) rfl ⟨rfl,by omega⟩ tO
structure SLe where
 t : Nat
 n : Nat
theorem length_ev (av : AV) (m : Nat) (H : Heap) (ha : Mag av m) (hl : (wds m).length ≤ 1000) : EFun C GT zDd [av] H (zJ (bits m)) H:=by
 obtain ⟨r,hr⟩ : ∃ r,bits m = r:=⟨_,rfl⟩
 rw [hr]
 refine zf ?_; refine zCH (wds m).length ha (by simp) ?_; refine zDZ (fun h=>?_) (fun h=>?_)
 ·have h : (wds m).length = 0:=by have:=eq_of_beq h; omega
  have h0 : m = 0:=by
   by_cases e : m = 0
   ·exact e
   ·rw [zCr e] at h; simp at h
  subst h0
  subst hr
  exact zc rfl rfl rfl rfl (Old.refl _)
 ·have h : (wds m).length ≠ 0:=fun e=>by rw [e] at h; exact absurd h (by simp)
  obtain ⟨k,hk⟩ : ∃ k,(wds m).length = k + 1:=⟨(wds m).length - 1,by omega⟩
  have hlt : k < (wds m).length:=by omega
  have hg:=zIo hlt
  have he:=wds_get m k hlt
  rw [List.getElem?_eq_getElem hlt] at he
  have he:=Option.some.inj he
  have ht:=bits_top m k hk
  rw [← he,hr] at ht
  have hw:=zBR m _ (List.getElem_mem hlt)
  generalize (wds m)[k] = w at *
  have hbw : bits w ≤ 32:=(bits_le 32 w).2 hw
  refine zCH (k + 1) ha (by simp [hk]) ?_; refine zM (r:=k) tO tO ?_; refine zHf k (zA5 w) ha rfl hg ?_; refine zz (zA5 w) rfl ?_; refine zBu (fun s : SLe=>[(4,zA5 s.t),(3,zJ s.n),(0,av)]) (fun s H'=>H' = H ∧ s.n + bits s.t = bits w) (fun s=>s.t) ⟨w,0⟩ rfl ⟨rfl,by simp⟩ (fun ⟨t,n⟩ H1 ⟨e,hn⟩=>?_)
  subst e
  simp only at hn
  dsimp only
  refine zDZ (fun hc=>?_) (fun hc=>?_)
  ·have hc : t ≠ 0:=fun e=>by rw [e] at hc; exact absurd hc (by simp)
   rw [zJ8 hc] at hn
   refine zM (r:=n + 1) rfl tO ?_; refine zU (shr1w t) ?_
   exact zAM (SLe.mk (t / 2) (n + 1)) rfl ⟨rfl,by simp only; omega⟩ (by simp only; omega)
  ·have hc : t = 0:=by simp only [bne_eq_false_iff_eq] at hc; omega
   subst hc
   have hz : bits 0 = 0:=rfl
   rw [hz] at hn
   have hn' : n = bits w:=by omega
   subst hn'
   subst ht
   refine zCH (k + 1) ha (by simp [hk]) ?_; refine zM (r:=k) tO tO ?_; refine zM (r:=k * 32) tO tO ?_; refine zM (r:=k * 32 + bits w) tO tO ?_
   exact zc rfl rfl rfl rfl (Old.refl _)
theorem uint64_ev (b m : Nat) (x av : AV) (H : Heap) (hb : H[b]? = some (.box [x,av])) (ha : Mag av m) (hm : m < 18446744073709551616) : EFun C GT zCU [.ref b 0 0 0] H (u64V m) H:=by
 refine zf ?_
 by_cases h0 : m = 0
 ·subst h0
  refine zB (av) hb rfl ?_; refine zCH 0 ha rfl ?_; refine zG ?_; refine zB (av) hb rfl ?_; refine zCH 0 ha rfl ?_; refine zG ?_
  exact zc rfl rfl rfl rfl (Old.refl _)
 have hw : wds m = (m % 4294967296) :: wds (m / 4294967296):=zCr h0
 by_cases h1 : m / 4294967296 = 0
 ·rw [h1,zDU] at hw
  have hm' : m % 4294967296 = m:=by omega
  rw [hm'] at hw
  have ha' : zG5 av 1 [zA5 m]:=by unfold Mag at ha; rw [hw] at ha; exact ha
  refine zB (av) hb rfl ?_; refine zCH 1 ha' rfl ?_; refine zH ?_; refine zB (av) hb rfl ?_; refine zHf 0 (zA5 m) ha' rfl rfl ?_; refine zz (zA5 m) rfl ?_; refine zDN (r:=m) rfl tO ?_; refine zB (av) hb rfl ?_; refine zCH 1 ha' rfl ?_; refine zG ?_
  exact zc rfl rfl rfl rfl (Old.refl _)
 ·have hw2 : wds (m / 4294967296) = [m / 4294967296]:=by
   rw [zCr h1]
   have e1 : m / 4294967296 / 4294967296 = 0:=by omega
   have e2 : m / 4294967296 % 4294967296 = m / 4294967296:=by omega
   rw [e1,e2,zDU]
  rw [hw2] at hw
  have ha' : zG5 av 1 [zA5 (m % 4294967296),zA5 (m / 4294967296)]:=by unfold Mag at ha; rw [hw] at ha; exact ha
  have e : m % 4294967296 + 4294967296 * (m / 4294967296) = m:=by omega
  have hor:=or32 (m % 4294967296) (m / 4294967296) tO tO
  rw [e] at hor
  refine zB (av) hb rfl ?_; refine zCH 2 ha' rfl ?_; refine zH ?_; refine zB (av) hb rfl ?_; refine zHf 0 (zA5 (m % 4294967296)) ha' rfl rfl ?_; refine zz (zA5 (m % 4294967296)) rfl ?_; refine zDN (r:=m % 4294967296) rfl tO ?_; refine zB (av) hb rfl ?_; refine zCH 2 ha' rfl ?_; refine zH ?_; refine zB (av) hb rfl ?_; refine zHf 1 (zA5 (m / 4294967296)) ha' rfl rfl ?_; refine zz (zA5 (m / 4294967296)) rfl ?_
  refine zDN (r:=m / 4294967296) rfl tO ?_; refine zU (shl32 (m / 4294967296) tO) ?_; refine zU hor ?_
  exact zc rfl rfl rfl rfl (Old.refl _)
theorem int64_ev (hU : ∀ b m x av H,H[b]? = some (.box [x,av]) → Mag av m → m < 18446744073709551616 → C zAj [.ref b 0 0 0] H (u64V m) H) (b : Nat) (v : Int) (H : Heap) (hb : H[b]? = some (.box (zFZ v))) (hv : zCz v) :
  EFun C GT zCc [.ref b 0 0 0] H (zK v) H:=by
 unfold zCz at hv
 have hu:=hU b v.natAbs _ _ H hb (zGw _) tO
 unfold zFZ at hb
 refine zf ?_
 by_cases hn : v < 0
 ·rw [decide_eq_true hn] at hb
  have e : aUn .neg (.int .i64 (if v = -9223372036854775808 then v else -v)) = some (zK v):=by
   simp only [aUn]
   rw [IntKind.wrap_i64]
   by_cases h : v = -9223372036854775808
   ·subst h; rfl
   ·rw [if_neg h]
    have : (0 - -v + 9223372036854775808) % 18446744073709551616 - 9223372036854775808 = v:=by omega
    rw [this]; rfl
  refine zI (hu) ?_; refine sVal (r:=if v = -9223372036854775808 then v else -v) (by rw [IntKind.wrap_i64]; split <;> omega) ?_; refine zB (AV.bool true) hb rfl ?_; refine zH ?_; refine zU e ?_
  exact zc rfl rfl rfl rfl (Old.refl _)
 ·rw [decide_eq_false hn] at hb
  refine zI (hu) ?_; refine sVal (r:=v) (by rw [IntKind.wrap_i64]; omega) ?_; refine zB (AV.bool false) hb rfl ?_; refine zG ?_
  exact zc rfl rfl rfl rfl (Old.refl _)
theorem isInt64_ev (hL : ∀ av m H,Mag av m → (wds m).length ≤ 1000 → C zBM [av] H (zJ (bits m)) H)
  (hT : ∀ b m n x av H,H[b]? = some (.box [x,av]) → Mag av m → m ≠ 0 → (wds m).length ≤ 100 → n ≤ 10000 → m % 2 ^ n = 0 → m / 2 ^ n % 2 = 1 → C zAD [.ref b 0 0 0] H (u64V n) H)
  (b : Nat) (v : Int) (H : Heap) (hb : H[b]? = some (.box (zFZ v))) (hv : (wds v.natAbs).length ≤ 100) : EFun C GT zCN [.ref b 0 0 0] H (.bool (decide (zCz v))) H:=by
 obtain ⟨r,hr⟩ : ∃ r,decide (zCz v) = r:=⟨_,rfl⟩
 rw [hr]
 have hl:=hL (zDw v.natAbs) v.natAbs H (zGw _) tO
 have b63:=bits_le 63 v.natAbs
 have b64:=bits_le 64 v.natAbs
 have e63 : (2 : Nat) ^ 63 = 9223372036854775808:=by decide
 have e64 : (2 : Nat) ^ 64 = 18446744073709551616:=by decide
 rw [e63] at b63
 rw [e64] at b64
 have hb2 : H[b]? = some (.box [.bool (decide (v < 0)),zDw v.natAbs]):=hb
 clear hb
 refine zf ?_; refine zB (zDw v.natAbs) hb2 rfl ?_; refine zI (hl) ?_
 generalize bits v.natAbs = L at *
 refine zDZ (fun h=>?_) (fun h=>?_)
 ·have h : L ≤ 63:=by have:=of_decide_eq_true h; omega
  have : zCz v:=by unfold zCz; have:=b63.1 h; omega
  rw [decide_eq_true this] at hr
  subst hr
  refine zH ?_
  exact zc rfl rfl rfl rfl (Old.refl _)
 ·have h : ¬ L ≤ 63:=by have:=of_decide_eq_false h; omega
  have hbig : ¬ v.natAbs < 9223372036854775808:=fun h'=>h (b63.2 h')
  refine zDZ (fun h64=>?_) (fun h64=>?_)
  ·have h64 : L ≤ 64:=by have:=eq_of_beq h64; omega
   have hlt:=b64.1 h64
   by_cases hn : v < 0
   ·rw [decide_eq_true hn] at hb2
    obtain ⟨n,t1,t2⟩:=tz_exists v.natAbs tO
    have hn64 : n < 64:=by
     rcases Nat.lt_or_ge n 64 with h | h
     ·exact h
     ·have h1 : 2 ^ 64 ≤ 2 ^ n:=Nat.pow_le_pow_right tO h
      rw [e64] at h1
      rw [Nat.mod_eq_of_lt tO] at t1
      omega
    have ht:=hT b v.natAbs n _ _ H hb2 (zGw _) tO hv tO t1 t2
    by_cases h63 : n = 63
    ·subst h63
     have:=tz_63 hlt t1 t2
     have hin : zCz v:=by unfold zCz; omega
     rw [decide_eq_true hin] at hr
     subst hr
     refine zB (AV.bool true) hb2 rfl ?_; refine zH <| zH ?_; refine zI (ht) ?_; refine zH <| zG ?_
     exact zc rfl rfl rfl rfl (Old.refl _)
    ·have hin : ¬ zCz v:=fun hin=>by
      unfold zCz at hin
      have e : v.natAbs = 2 ^ 63:=by rw [e63]; omega
      rw [e] at t1 t2
      rcases Nat.lt_or_gt_of_ne h63 with h | h
      ·have:=tz_low (m:=2 ^ 63) (n:=63) (k:=n) (Nat.mod_self _) h
       omega
      ·have h1 : (2 : Nat) ^ 63 < 2 ^ n:=Nat.pow_lt_pow_right tO h
       rw [Nat.mod_eq_of_lt h1] at t1
       omega
     have hne : ((n : Int) == 63) = false:=by rw [beq_eq_false_iff_ne]; omega
     rw [decide_eq_false hin] at hr
     subst hr
     refine zB (AV.bool true) hb2 rfl ?_; refine zH <| zH ?_; refine zI (ht) ?_; refine zH <| zG ?_
     exact sRetE (congrArg AV.bool hne.symm) rfl rfl rfl rfl (Old.refl _)
   ·rw [decide_eq_false hn] at hb2
    have hin : ¬ zCz v:=fun hin=>by unfold zCz at hin; omega
    rw [decide_eq_false hin] at hr
    subst hr
    refine zB (AV.bool false) hb2 rfl ?_; refine zH <| zG <| zG <| zG ?_
    exact zc rfl rfl rfl rfl (Old.refl _)
  ·have h64 : ¬ L ≤ 64:=fun h'=>by
    have : L = 64:=by omega
    rw [this] at h64
    exact absurd h64 (by simp)
   have hgt : ¬ v.natAbs < 18446744073709551616:=fun h'=>h64 (b64.2 h')
   have hin : ¬ zCz v:=fun hin=>by unfold zCz at hin; omega
   rw [decide_eq_false hin] at hr
   subst hr
   refine zG <| zG <| zG <| zG ?_
   exact zc rfl rfl rfl rfl (Old.refl _)
theorem give_ev (b n : Nat) (neg : Bool) (x0 x1 : AV) (H : Heap) (hb : H[b]? = some (.box [x0,x1])) : EFun C GT zBj [.ref b 0 0 0,.bool neg,zDw n] H (.ref b 0 0 0) (H.set b (.box [.bool (neg && decide (0 < n)),zDw n])):=by
 have hbl : b < H.length:=(zg hb).1
 have hz : ((wds n).length > 0) ↔ 0 < n:=by
  by_cases e : n = 0
  ·subst e; simp [zDU]
  ·rw [zCr e]; simp; omega
 have hd : decide (((wds n).length : Int) > 0) = decide (0 < n):=by
  rw [Bool.eq_iff_iff,decide_eq_true_iff,decide_eq_true_iff,← hz]; omega
 refine zf ?_
 cases neg
 ·refine zF (v:=zDw n) [x0,zDw n] hb rfl rfl rfl rfl ?_; refine zG <| zG ?_; refine zF (v:=AV.bool false) [AV.bool false,zDw n] (zE hb) rfl rfl rfl rfl ?_
  exact sRetB (by rw [List.set_set]; rfl) rfl rfl rfl (decide_eq_true hbl) rfl
 ·refine zF (v:=zDw n) [x0,zDw n] hb rfl rfl rfl rfl ?_; refine zH ?_; refine zCH (wds n).length (zGw n) (by simp) ?_; refine zH ?_; refine zF (v:=.bool (decide (((wds n).length : Int) > 0))) [.bool (decide (((wds n).length : Int) > 0)),zDw n] (zE hb) rfl rfl rfl rfl ?_
  exact sRetB (by rw [List.set_set,hd]; rfl) rfl rfl rfl (decide_eq_true hbl) rfl
theorem setInt64_ev (hW : ∀ x H,x < 18446744073709551616 → C zBa [u64V x] H (zDw x) H) (hG : ∀ b n neg x0 x1 H,H[b]? = some (.box [x0,x1]) → C zp [.ref b 0 0 0,.bool neg,zDw n] H (.ref b 0 0 0) (H.set b (.box [.bool (neg && decide (0 < n)),zDw n])))
  (b : Nat) (v : Int) (x0 x1 : AV) (H : Heap) (hb : H[b]? = some (.box [x0,x1])) (hv : zCz v) : EFun C GT zCE [.ref b 0 0 0,zK v] H (.ref b 0 0 0) (H.set b (.box (zFZ v))):=by
 have hbl : b < H.length:=(zg hb).1
 unfold zCz at hv
 have hw:=hW v.natAbs H tO
 have hg:=hG b v.natAbs (decide (v < 0)) x0 x1 H hb
 have e0 : (decide (v < 0) && decide (0 < v.natAbs)) = decide (v < 0):=by
  by_cases h : v < 0
  ·rw [decide_eq_true h,tT (by omega : 0 < v.natAbs)]; rfl
  ·rw [decide_eq_false h]; rfl
 rw [e0] at hg
 refine zf ?_
 by_cases hn : v < 0
 ·have e : aUn .neg (.int .u64 (18446744073709551616 + v)) = some (u64V v.natAbs):=by
   simp only [aUn]
   rw [IntKind.wrap_u64]
   have : (0 - (18446744073709551616 + v)) % 18446744073709551616 = (v.natAbs : Int):=by omega
   rw [this]; rfl
  refine sVal (r:=18446744073709551616 + v) (by rw [IntKind.wrap_u64]; omega) ?_; refine zDZ (fun _=>?_) (fun h=>absurd hn (of_decide_eq_false h))
  refine zU e ?_; refine zI (hw) ?_; refine zm hg (fun h=>by cases h) ?_
  exact sRetB rfl rfl rfl rfl (decide_eq_true hbl) rfl
 ·refine sVal (r:=(v.natAbs : Int)) (by rw [IntKind.wrap_u64]; omega) ?_; refine zDZ (fun h=>absurd (of_decide_eq_true h) hn) (fun _=>?_)
  refine zI (hw) ?_; refine zm hg (fun h=>by cases h) ?_
  exact sRetB rfl rfl rfl rfl (decide_eq_true hbl) rfl
def a_bigNew : AF:={ zGk with keep:=true }
theorem newInt_ev (hS : ∀ b v x0 x1 H,H[b]? = some (.box [x0,x1]) → zCz v → C zAY [.ref b 0 0 0,zK v] H (.ref b 0 0 0) (H.set b (.box (zFZ v)))) (v : Int) (H : Heap) (hv : zCz v) :
  EFun C GT a_bigNew [zK v] H (.ref H.length 0 0 0) (H ++ [.box (zFZ v)]):=by
 have hs:=hS H.length v (.bool false) (.lst (some true) 0 []) (H ++ [.box [.bool false,.lst (some true) 0 []]]) zC hv
 have e : (H ++ [ABlk.box [.bool false,.lst (some true) 0 []]]).set H.length (.box (zFZ v)) = H ++ [.box (zFZ v)]:=by
  rw [List.set_append_right _ _ (Nat.le_refl _),Nat.sub_self]; rfl
 rw [e] at hs
 refine zf ?_; refine zm hs (fun h=>by cases h) ?_
 exact sRetK rfl rfl
theorem fits_ev (hI : ∀ b v H,H[b]? = some (.box (zFZ v)) → (wds v.natAbs).length ≤ 100 → C zAe [.ref b 0 0 0] H (.bool (decide (zCz v))) H) (b : Nat) (v : Int) (H : Heap) (hb : H[b]? = some (.box (zFZ v))) (hv : (wds v.natAbs).length ≤ 100) :
  EFun C GT zHS [.ref b 0 0 0] H (.bool (decide (zCz v))) H:=by
 have h:=hI b v H hb hv
 refine zf ?_; refine zI (h) ?_
 exact zc rfl rfl rfl rfl (Old.refl _)
theorem wds_fit {n k : Nat} (h : n < 4294967296 ^ k) : (wds n).length ≤ k:=by
 rcases Nat.lt_or_ge k (wds n).length with h2 | h2
 ·have hn : n ≠ 0:=fun e=>by subst e; simp [zDU] at h2
  have h3:=wds_ge n hn
  have h4 : 4294967296 ^ k ≤ 4294967296 ^ ((wds n).length - 1):=Nat.pow_le_pow_right tO tO
  omega
 ·exact h2
end
end Go.AM
set_option maxRecDepth 20000
namespace Go.AM
def mulV (v : Nat) : AV:=if v = 0 then .lst (some true) 0 [] else zDw (v * 10)
theorem mulV_mag (v : Nat) : Mag (mulV v) (v * 10):=by
 unfold mulV
 by_cases h : v = 0
 ·rw [if_pos h]; subst h; exact ⟨some true,0,rfl,.inr rfl⟩
 ·rw [if_neg h]; exact zGw _
theorem wds_ten : wds 10 = [10]:=by rw [zCr (by decide)]; rfl
theorem set_pad2 (ds : List Nat) (c m d e : Nat) : ((((ds ++ c :: List.replicate (m + 1) 0).map zA5).set ds.length (zA5 d)).set (ds.length + 1) (zA5 e)) = ((ds ++ [d]) ++ e :: List.replicate m 0).map zA5:=by
 rw [← List.map_set,← List.map_set,List.set_append_right _ _ (Nat.le_refl _),Nat.sub_self,List.set_append_right _ _ tO,Nat.add_sub_cancel_left]
 simp [List.replicate_succ]
theorem get_pad1 (ds : List Nat) (c : Nat) (zs : List Nat) : ((ds ++ c :: zs).map zA5)[ds.length]? = some (zA5 c):=by
 rw [List.getElem?_map,List.getElem?_append_right (Nat.le_refl _),Nat.sub_self]; rfl
theorem get_pad2 (ds : List Nat) (c m d : Nat) : (((ds ++ c :: List.replicate (m + 1) 0).map zA5).set ds.length (zA5 d))[ds.length + 1]? = some (zA5 0):=by
 rw [List.getElem?_set_ne tO,List.getElem?_map,List.getElem?_append_right tO,Nat.add_sub_cancel_left]; rfl
structure SMu where
 i : Nat
 c : Nat
 ds : List Nat
structure SMj where
 j : Nat
 c : Nat
section
variable {C : CSpec} {GT : Nat → Option AV}
theorem mul10_ev (hT : ∀ b m ws H,ws.length = m → H[b]? = some (.row 1 (ws.map zA5)) → Small ws → m ≤ 1000000 → C zx [.sl (some false) b 1 0 m] H (.sl (some false) b 1 0 (wds (wval ws)).length) H)
  (av : AV) (x n : Nat) (H : Heap) (ha : Mag av x) (hn : (wds x).length = n) (hl : n ≤ 100000) : EFun C GT zEX [av,zDw 10] H (mulV x) H:=by
 have hal : ((wds x).map zA5).length = n:=by rw [List.length_map,hn]
 have hb : zG5 (zDw 10) 1 [zA5 10]:=by have:=zGw 10; unfold Mag at this; rw [wds_ten] at this; exact this
 refine zf ?_
 unfold mulV
 by_cases h0 : x = 0
 ·subst h0
  have hn0 : n = 0:=by rw [← hn]; rfl
  rw [if_pos rfl]
  refine zCH n ha hal ?_; refine zP tE <| zH <| zH ?_
  exact zc rfl rfl rfl rfl (Old.refl _)
 rw [if_neg h0]
 have hn1 : n ≠ 0:=by rw [← hn,zCr h0]; simp
 refine zCH n ha hal ?_; refine zN tN ?_; refine zCH 1 hb rfl ?_; refine zG <| zN tN ?_; refine zCH n ha hal ?_; refine zCH 1 hb rfl ?_; refine zM (r:=n + 1) rfl tO ?_; refine sMake (n:=n + 1) rfl (Int.le_refl _) ⟨by omega,by omega⟩ rfl ?_; refine zBu (fun s : SMu=>[(6,zJ s.i),(5,.sl (some false) H.length 1 0 (n + 1)),(1,zDw 10),(0,av)])
  (fun s H'=>Old H H' ∧ s.ds.length = s.i ∧ s.i ≤ n ∧ Small s.ds ∧ s.c ≤ 10 ∧ H'[H.length]? = some (.row 1 ((s.ds ++ s.c :: List.replicate (n - s.i) 0).map zA5)) ∧ wval s.ds + 4294967296 ^ s.i * s.c = wval ((wds x).take s.i) * 10) (fun s=>n - s.i) ⟨0,0,[]⟩ rfl
  ⟨(Old.refl _).push _,rfl,Nat.zero_le _,(fun w hw=>by cases hw),by simp only; omega,by rw [List.nil_append,Nat.sub_zero,← List.replicate_succ,List.map_replicate]; exact zC,rfl⟩ (fun ⟨i,c,ds⟩ H1 ⟨hO,hd,hi,hsm,hc,hrow,hval⟩=>?_)
 simp only at hd hi hsm hc hrow hval
 dsimp only
 refine zCH n ha hal ?_; refine zDZ (fun h=>?_) (fun h=>?_)
 ·have h : i < n:=by have:=of_decide_eq_true h; omega
  have hx : i < (wds x).length:=by omega
  have hax:=zIo hx
  have htx:=zCg hx
  have hsx:=zBR x _ (List.getElem_mem hx)
  obtain ⟨a,had⟩ : ∃ a,(wds x)[i] = a:=⟨_,rfl⟩
  rw [had] at hax htx hsx
  obtain ⟨m,hm⟩ : ∃ m,n - i = m + 1:=⟨n - i - 1,by omega⟩
  rw [hm] at hrow
  have hg1:=get_pad1 ds c (List.replicate (m + 1) 0)
  have hg2:=fun d=>get_pad2 ds c m d
  have hset:=fun d e=>set_pad2 ds c m d e
  rw [hd] at hg1 hg2 hset
  have hsz : H1.length > H.length:=(zg hrow).1
  refine zBu (fun s : SMj=>[(8,zJ s.j),(6,zJ i),(5,.sl (some false) H.length 1 0 (n + 1)),(1,zDw 10),(0,av),(7,u64V s.c)])
   (fun s H'=>(s.j = 0 ∧ s.c = 0 ∧ H' = H1) ∨ (s.j = 1 ∧ s.c = (a * 10 + c) / 4294967296 ∧ H' = H1.set H.length (.row 1 (((ds ++ c :: List.replicate (m + 1) 0).map zA5).set i (zA5 ((a * 10 + c) % 4294967296)))))) (fun s=>1 - s.j) ⟨0,0⟩ rfl (.inl ⟨rfl,rfl,rfl⟩) (fun ⟨j,c2⟩ H2 hj=>?_)
  dsimp only at hj ⊢
  rcases hj with ⟨rfl,rfl,rfl⟩ | ⟨rfl,rfl,rfl⟩
  ·refine zCH 1 hb rfl ?_; refine zP (tT (by decide)) ?_; refine zHf i (zA5 a) ha rfl hax ?_; refine zz (zA5 a) rfl ?_; refine zDN (r:=a) rfl tO ?_; refine zHf 0 (zA5 10) hb rfl rfl ?_; refine zz (zA5 10) rfl ?_; refine zDN (r:=10) rfl tO ?_; refine zDN (r:=a * 10) rfl tO ?_; refine zM (r:=i) tO tO ?_; refine sAt ⟨by omega,by omega⟩ ?_; refine zC1 i (zA5 c) (zA5 c) tO hrow hg1 rfl ?_; refine zDN (r:=c) rfl tO ?_
   refine zDN (r:=a * 10 + c) rfl tO ?_; refine zDN (r:=a * 10 + c) tO tO ?_; refine zM (r:=i) tO tO ?_; refine sWu32 ((a * 10 + c) % 4294967296) tO ?_; refine sAt ⟨by omega,by omega⟩ ?_; refine zKc i (zA5 ((a * 10 + c) % 4294967296)) tO hrow hg1 rfl (by decide) rfl (fun cs h=>by cases h) ?_; refine zU (shr32 (a * 10 + c)) ?_; refine zM (r:=1) tO tO ?_; refine zAM (SMj.mk 1 ((a * 10 + c) / 4294967296)) rfl (.inr ⟨rfl,rfl,rfl⟩) (by simp)
  ·have hrow2 : (H1.set H.length (.row 1 (((ds ++ c :: List.replicate (m + 1) 0).map zA5).set i (zA5 ((a * 10 + c) % 4294967296)))))[H.length]? = some (.row 1 (((ds ++ c :: List.replicate (m + 1) 0).map zA5).set i (zA5 ((a * 10 + c) % 4294967296)))):=zE hrow
   refine zCH 1 hb rfl ?_; refine zN (tF (by decide)) ?_; refine zCH 1 hb rfl ?_; refine zM (r:=i + 1) rfl tO ?_; refine sWu32 ((a * 10 + c) / 4294967296) tO ?_; refine sAt ⟨by omega,by omega⟩ ?_; refine zKc (i + 1) (zA5 ((a * 10 + c) / 4294967296)) tO hrow2 (hg2 _) rfl (by decide) rfl (fun cs h=>by cases h) ?_; refine zM (r:=i + 1) rfl tO ?_; refine zAM (SMu.mk (i + 1) ((a * 10 + c) / 4294967296) (ds ++ [(a * 10 + c) % 4294967296])) rfl ⟨(hO.set (Nat.le_refl _) _).set (Nat.le_refl _) _,by simp [hd],by simp only; omega,hsm.snoc tO,by simp only; omega, ?_, ?_⟩ (by simp only; omega)
   ·have : n - (i + 1) = m:=by omega
    simp only [this]
    rw [hset]
    exact zE hrow2
   ·simp only [zDI,hd,htx,Nat.pow_succ]
    have e : (a * 10 + c) % 4294967296 + 4294967296 * ((a * 10 + c) / 4294967296) = a * 10 + c:=by omega
    have e2 : 4294967296 ^ i * ((a * 10 + c) % 4294967296) + 4294967296 ^ i * 4294967296 * ((a * 10 + c) / 4294967296) = 4294967296 ^ i * a * 10 + 4294967296 ^ i * c:=by
     rw [Nat.mul_assoc,← Nat.mul_add,e,Nat.mul_add,Nat.mul_assoc]
    rw [Nat.add_mul]
    omega
 ·have h : i = n:=by have:=of_decide_eq_false h; omega
  subst h
  rw [Nat.sub_self,List.replicate_zero] at hrow
  rw [List.take_of_length_le tO,zDV,← hd,← zDI] at hval
  have hsm2 : Small (ds ++ [c]):=hsm.snoc tO
  have ht:=hT H.length (i + 1) (ds ++ [c]) _ (by simp [hd]) hrow hsm2 tO
  rw [hval] at ht
  refine zI ht ?_
  exact sRetF rfl rfl (frz_mag (Nat.le_refl _) hrow hsm2 hval) rfl (hO.set (Nat.le_refl _) _)
theorem give0_ev (b : Nat) (xs : List AV) (nv x0 x1 : AV) (H : Heap) (hb : H[b]? = some (.box [x0,x1])) (hv : zG5 nv 1 xs) : EFun C GT zBj [.ref b 0 0 0,.bool false,nv] H (.ref b 0 0 0) (H.set b (.box [.bool false,nv])):=by
 have hbl : b < H.length:=(zg hb).1
 obtain ⟨q,k',rfl,hk⟩:=hv
 refine zf ?_; refine zF (v:=AV.lst q k' xs) [x0,AV.lst q k' xs] hb rfl rfl rfl rfl ?_; refine zG <| zG ?_; refine zF (v:=AV.bool false) [AV.bool false,AV.lst q k' xs] (zE hb) rfl rfl rfl rfl ?_
 exact sRetB (List.set_set ..) rfl rfl rfl (decide_eq_true hbl) rfl
theorem bigMul_ev (hM : ∀ av x H,Mag av x → (wds x).length ≤ 100000 → C zB9 [av,zDw 10] H (mulV x) H)
  (hG : ∀ b xs nv x0 x1 H,H[b]? = some (.box [x0,x1]) → zG5 nv 1 xs → C zp [.ref b 0 0 0,.bool false,nv] H (.ref b 0 0 0) (H.set b (.box [.bool false,nv])))
  (b t v : Nat) (av : AV) (H : Heap) (hb : H[b]? = some (.box [.bool false,av])) (ht : H[t]? = some (.box (zFZ 10))) (ha : Mag av v) (hl : (wds v).length ≤ 1000) :
  EFun C GT zDE [.ref b 0 0 0,.ref b 0 0 0,.ref t 0 0 0] H (.ref b 0 0 0) (H.set b (.box [.bool false,mulV v])):=by
 have hbl : b < H.length:=(zg hb).1
 have hm:=hM av v H ha tO
 have hg:=hG b _ (mulV v) _ _ H hb (mulV_mag v)
 clear hM hG
 have ht : H[t]? = some (.box [.bool false,zDw 10]):=ht
 refine zf ?_; refine zB (AV.bool false) hb rfl ?_; refine zB (AV.bool (decide (10 < 0))) ht rfl ?_; refine zB (av) hb rfl ?_; refine zB (zDw (Int.natAbs 10)) ht rfl ?_; refine zI hm ?_; refine zm hg (fun h=>by cases h) ?_
 exact sRetB rfl rfl rfl rfl (decide_eq_true hbl) (by unfold mulV; split <;> rfl)
theorem bigAddM_ev (hS : ∀ av bv xn yn x y H,Mag av x → Mag bv y → (wds x).length ≤ 100000 → (wds y).length ≤ 100000 → C zCA [.bool xn,av,.bool yn,bv] H (.tup [.bool (sumS xn x yn y).1,zDw (sumS xn x yn y).2]) H)
  (hG : ∀ b n neg x0 x1 H,H[b]? = some (.box [x0,x1]) → C zp [.ref b 0 0 0,.bool neg,zDw n] H (.ref b 0 0 0) (H.set b (.box [.bool (neg && decide (0 < n)),zDw n])))
  (b t v d : Nat) (av : AV) (H : Heap) (hb : H[b]? = some (.box [.bool false,av])) (ht : H[t]? = some (.box (zFZ d))) (ha : Mag av v) (hl : (wds v).length ≤ 1000) (hd : (wds d).length ≤ 1000) :
  EFun C GT zDF [.ref b 0 0 0,.ref b 0 0 0,.ref t 0 0 0] H (.ref b 0 0 0) (H.set b (.box (zFZ ((v + d : Nat) : Int)))):=by
 have hbl : b < H.length:=(zg hb).1
 have e1 : zFZ (d : Int) = [.bool false,zDw d]:=by unfold zFZ; rw [tF]; rfl
 have e2 : zFZ ((v + d : Nat) : Int) = [.bool false,zDw (v + d)]:=by unfold zFZ; rw [tF]; rfl
 have hs:=hS av (zDw d) false false v d H ha (zGw _) tO tO
 have es : sumS false v false d = (false,v + d):=rfl
 rw [es] at hs
 have hg:=hG b (v + d) false (.bool false) av H hb
 rw [e1] at ht
 rw [e2]
 clear hS hG
 refine zf ?_; refine zB (AV.bool false) hb rfl ?_; refine zB (av) hb rfl ?_; refine zB (AV.bool false) ht rfl ?_; refine zB (zDw d) ht rfl ?_; refine zI hs ?_; refine zU rfl ?_; refine zU rfl ?_; refine zm hg (fun h=>by cases h) ?_
 exact sRetB rfl rfl rfl rfl (decide_eq_true hbl) rfl
end
end Go.AM
set_option maxRecDepth 20000
namespace Go.AM
def zJL : Option Int → AV
 | some n=>.tup [zK n,.bool true]
 | none=>.tup [zK 0,.bool false]
theorem dec_take {s : Bs} {i : Nat} {c : UInt8} (h : s[i]? = some c) : zCZ (s.take (i + 1)) = zCZ (s.take i) * 10 + (c.toNat - 48):=by
 rw [List.take_add_one,h]
 exact decV_snoc _ _
theorem all_take {s : Bs} {i : Nat} {c : UInt8} (h : s[i]? = some c) : (s.take (i + 1)).all zHH = ((s.take i).all zHH && zHH c):=by
 rw [List.take_add_one,h,List.all_append]
 simp
theorem bigC_nat (n : Nat) : zFZ (n : Int) = [.bool false,zDw n]:=by unfold zFZ; rw [tF]; rfl
theorem pow_words2 (k : Nat) : 10 ^ (9 * k) ≤ 4294967296 ^ k:=by
 rw [Nat.pow_mul]; exact Nat.pow_le_pow_left (by decide) k
theorem dec_words {s : Bs} (h : s.all zHH = true) (hl : s.length ≤ 200) : (wds (zCZ s)).length ≤ 23:=by
 refine wds_fit ?_
 have h1:=zK9 s h
 have h2 : 10 ^ s.length ≤ 10 ^ (9 * 23):=Nat.pow_le_pow_right (by decide) tO
 exact Nat.lt_of_lt_of_le h1 (Nat.le_trans h2 (pow_words2 23))
section
variable {C : CSpec} {GT : Nat → Option AV}
theorem rwhole_ev (hNew : ∀ v H,zCz v → C zAU [zK v] H (.ref H.length 0 0 0) (H ++ [.box (zFZ v)]))
  (hMul : ∀ b t v av H,H[b]? = some (.box [.bool false,av]) → H[t]? = some (.box (zFZ 10)) → Mag av v → (wds v).length ≤ 1000 → C zAc [.ref b 0 0 0,.ref b 0 0 0,.ref t 0 0 0] H (.ref b 0 0 0) (H.set b (.box [.bool false,mulV v])))
  (hAdd : ∀ (b t v d : Nat) (av : AV) (H : Heap),H[b]? = some (.box [.bool false,av]) → H[t]? = some (.box (zFZ d)) → Mag av v → (wds v).length ≤ 1000 → (wds d).length ≤ 1000 → C zAd [.ref b 0 0 0,.ref b 0 0 0,.ref t 0 0 0] H (.ref b 0 0 0) (H.set b (.box (zFZ ((v + d : Nat) : Int)))))
  (hFit : ∀ b v H,H[b]? = some (.box (zFZ v)) → (wds v.natAbs).length ≤ 100 → C zCb [.ref b 0 0 0] H (.bool (decide (zCz v))) H)
  (hI : ∀ b v H,H[b]? = some (.box (zFZ v)) → zCz v → C zAQ [.ref b 0 0 0] H (zK v) H)
  (s : Bs) (H : Heap) (hl : s.length ≤ 200) : EFun C GT zCL [.str s,.bool false] H (zJL (zAx s)) H:=by
 refine zf ?_
 cases s with
 | nil=>
  clear hNew hMul hAdd hFit hI
  refine zG <| zG <| zG <| zG <| zG <| zH <| zH <| zH ?_
  exact zc rfl rfl rfl rfl (Old.refl _)
 | cons c0 r0=>
 have hc0 : (c0 :: r0)[0]? = some c0:=rfl
 have hne : ((c0 :: r0) == ([] : Bs)) = false:=rfl
 obtain ⟨s,hs⟩ : ∃ s,c0 :: r0 = s:=⟨_,rfl⟩
 have hh : s.head? = some c0:=by rw [← hs]; rfl
 have hs0 : s ≠ []:=by rw [← hs]; simp
 have hs1 : 1 ≤ s.length:=by rw [← hs]; simp
 rw [hs] at hc0 hne hl ⊢
 clear hs r0
 by_cases h48 : c0.toNat = 48 ∧ s ≠ [48]
 ·have e : zAx s = none:=by
   unfold zAx
   rw [if_pos (.inr ⟨by rw [hh,show c0 = 48 from UInt8.toNat_inj.1 h48.1],h48.2⟩)]
  rw [e]
  clear hNew hMul hAdd hFit hI
  refine zG <| zG <| zG <| zG <| zG ?_; refine zN hne ?_; refine zl rfl hc0 ?_; refine zP tE <| zH <| zG <| zP (bne_iff_ne.2 h48.2) ?_
  exact zc rfl rfl rfl rfl (Old.refl _)
 have hform : ¬ (s = [] ∨ (s.head? = some 48 ∧ s ≠ [48])):=by
  rintro (h | ⟨h,h'⟩)
  ·exact hs0 h
  ·rw [hh] at h; cases h; exact h48 ⟨rfl,h'⟩
 have main : loopP C GT [8,6,7,0] zFA (zJV 0 [7,0,6] (seqK (EW C GT (AC.rest (AC.rest (AC.rest (AC.rest (AC.rest (AC.rest zGh)))))) (finF zCL H (zJL (zAx s)) H)) (finF zCL H (zJL (zAx s)) H))) [(8,zJ 0),(6,.str s),(7,.ref H.length 0 0 0),(0,.str s)] (H ++ [.box [.bool false,.lst (some true) 0 []]]):=by
  have hwp : zAx s = if s.all zHH = true then (if zCZ s ≤ 9223372036854775807 then some (zCZ s : Int) else none) else none:=by unfold zAx; rw [if_neg hform]
  rw [hwp]
  obtain ⟨r,hr⟩ : ∃ r,(if s.all zHH = true then (if zCZ s ≤ 9223372036854775807 then some (zCZ s : Int) else none) else none) = r:=⟨_,rfl⟩
  rw [hr]
  refine zBu (fun i : Nat=>[(8,zJ i),(6,.str s),(7,.ref H.length 0 0 0),(0,.str s)])
   (fun i H'=>Old H H' ∧ i ≤ s.length ∧ (s.take i).all zHH = true ∧ ∃ av,H'[H.length]? = some (.box [.bool false,av]) ∧ Mag av (zCZ (s.take i)) ∧ (1 ≤ i → av = zDw (zCZ (s.take i))))
   (fun i=>s.length - i) 0 rfl ⟨(Old.refl _).push _,by omega,rfl,_,zC,⟨some true,0,rfl,.inr rfl⟩,fun h=>by omega⟩ (fun i H1 ⟨hO,hi,hd,av,hb,hm,hav⟩=>?_)
  try dsimp only
  have hw:=dec_words hd (by rw [List.length_take]; omega)
  by_cases hlt : i < s.length
  ·obtain ⟨c,hc⟩ : ∃ c,s[i]? = some c:=⟨_,List.getElem?_eq_getElem hlt⟩
   have hdt:=dec_take hc
   have hat:=all_take hc
   have hc256 : c.toNat < 256:=UInt8.toNat_lt c
   by_cases hdg : zHH c = true
   ·have hdg':=hdg
    unfold zHH at hdg'
    simp only [Bool.and_eq_true,decide_eq_true_eq] at hdg'
    rw [hd,hdg] at hat
    have hd2 : (wds (c.toNat - 48)).length ≤ 1000:=Nat.le_trans (wds_fit (k:=1) tO) tO
    have hmw : (wds (zCZ (s.take i) * 10)).length ≤ 1000:=by
     have h1:=zK9 (s.take (i + 1)) hat
     refine Nat.le_trans (wds_fit (k:=23) ?_) tO
     have h2 : 10 ^ (s.take (i + 1)).length ≤ 10 ^ (9 * 23):=Nat.pow_le_pow_right (by decide) (by rw [List.length_take]; omega)
     have h3:=pow_words2 23
     omega
    have hn10:=hNew 10
    have hnd:=hNew ((c.toNat - 48 : Nat) : Int)
    have hmul:=fun t H h1 h2=>hMul H1.length t (zCZ (s.take i)) av H h1 h2
    clear hFit hI hNew
    have hbl : H.length < H1.length:=(zg hb).1
    refine zP tT ?_; refine zl rfl hc ?_; refine zN tF ?_; refine zl rfl hc ?_; refine zG <| zN tF ?_; refine zm (hn10 _ (by decide)) (fun h=>by cases h) ?_; refine zm (hMul H.length H1.length (zCZ (s.take i)) av _ hP hP hm tO) (fun h=>by cases h) ?_; refine zl rfl hc ?_; refine zM (r:=c.toNat) tO tO ?_; refine zM (r:=c.toNat - 48) tO tO ?_; refine zm (hnd _ (by unfold zCz; omega)) (fun h=>by cases h) ?_
    refine zm (hAdd H.length _ (zCZ (s.take i) * 10) (c.toNat - 48) (mulV (zCZ (s.take i))) _ hP hP (mulV_mag _) hmw hd2) (fun h=>by cases h) ?_; refine zM (r:=i + 1) rfl tO ?_; refine zAM (i + 1) rfl ⟨?_,by omega,hat,zDw (zCZ (s.take (i + 1))), ?_,zGw _,fun _=>rfl⟩ tO
    ·exact (((hO.push _).set (Nat.le_refl _) _).push _).set (Nat.le_refl _) _
    ·rw [hdt,← bigC_nat]
     exact hP
   ·have hdf:=Bool.eq_false_iff.2 hdg
    have hall : s.all zHH = false:=by
     rw [Bool.eq_false_iff]
     intro h
     exact hdg (List.all_eq_true.1 h c (List.mem_of_getElem? hc))
    rw [hall] at hr
    have hr : none = r:=hr
    subst hr
    clear hFit hI hNew hMul hAdd
    unfold zHH at hdf
    by_cases h1 : c.toNat < 48
    ·refine zP tT ?_; refine zl rfl hc ?_; refine zP tT <| zH <| zH ?_
     exact zc rfl rfl rfl rfl hO
    ·have h2 : 57 < c.toNat:=by
      rw [tT (by omega : 48 ≤ c.toNat),Bool.true_and] at hdf
      have:=of_decide_eq_false hdf
      omega
     refine zP tT ?_; refine zl rfl hc ?_; refine zN tF ?_; refine zl rfl hc ?_; refine zG <| zP tT ?_
     exact zc rfl rfl rfl rfl hO
  ·have hin : i = s.length:=by omega
   subst hin
   rw [List.take_length] at hd hm hav hw
   have hav:=hav hs1
   subst hav
   rw [hd,if_pos rfl] at hr
   have hb' : H1[H.length]? = some (.box (zFZ ((zCZ s : Nat) : Int))):=by rw [bigC_nat]; exact hb
   have hft:=hFit H.length ((zCZ s : Nat) : Int) H1 hb' (by simpa using (by omega : (wds (zCZ s)).length ≤ 100))
   have hi6:=hI H.length ((zCZ s : Nat) : Int) H1 hb'
   clear hFit hI hNew hMul hAdd
   by_cases h64 : zCZ s ≤ 9223372036854775807
   ·rw [if_pos h64] at hr
    subst hr
    have hin64 : zCz ((zCZ s : Nat) : Int):=by unfold zCz; omega
    rw [decide_eq_true hin64] at hft
    have hi6:=hi6 hin64
    refine zN tF <| zN (bne_eq_false_iff_eq.2 rfl) ?_; refine zI hft ?_; refine zG ?_; refine zI hi6 ?_
    exact zc rfl rfl rfl rfl hO
   ·rw [if_neg h64] at hr
    subst hr
    have hin64 : ¬ zCz ((zCZ s : Nat) : Int):=by unfold zCz; omega
    rw [decide_eq_false hin64] at hft
    refine zN tF <| zN (bne_eq_false_iff_eq.2 rfl) ?_; refine zI hft ?_; refine zH ?_
    exact zc rfl rfl rfl rfl hO
 by_cases h0 : c0.toNat = 48
 ·have h1 : s = [48]:=by
   rcases Classical.em (s = [48]) with h | h
   ·exact h
   ·exact absurd ⟨h0,h⟩ h48
  refine zG <| zG <| zG <| zG <| zG ?_; refine zN hne ?_; refine zl rfl hc0 ?_; refine zP tE <| zH <| zG <| zN (bne_eq_false_iff_eq.2 h1) ?_
  exact main
 ·refine zG <| zG <| zG <| zG <| zG ?_; refine zN hne ?_; refine zl rfl hc0 ?_; refine zN tN <| zG <| zG <| zG ?_
  exact main
end
end Go.AM
