/- Several texts of mine in one (Rf5, Bg1, Bg2, Bgm, Rf3). Own work. -/
import Derived.Test.YthllabjbdobpgaaGreatDoorRf2
import Derived.Test.YthllabjbdobpgaaGreatDoorGFq0Bg0
import Derived.Test.YthllabjbdobpgaaGreatDoorGAm23Am29
import Derived.Test.YthllabjbdobpgaaGreatDoorUc
import Derived.Test.YthllabjbdobpgaaGreatDoorGAm30Fp1
import Derived.Test.YthllabjbdobpgaaGreatDoorGAm31Rf1
set_option linter.all false
set_option maxRecDepth 20000
namespace Go.AM
def tkK : Tok → Nat
 | .fin=>0
 | .word _ _=>1
 | .txt _ _=>2
 | .bad _ _=>3
 | .sign _ _=>4
 | .none=>9
def tkE (q : Nat) : Tok → Nat
 | .fin=>q
 | .word e _=>e
 | .txt e _=>e
 | .bad e _=>e
 | .sign e _=>e
 | .none=>q
def tkT : Tok → Bs
 | .fin=>[]
 | .word _ t=>t
 | .txt _ t=>t
 | .bad _ k=>wrongs.getD (k - 1) []
 | .sign _ t=>t
 | .none=>[]
theorem zFN (s : Bs) (a : Nat) : tkV s a = kV (tkK (tok s a)) (skip s a) (tkE (skip s a) (tok s a)) (tkT (tok s a)):=by
 unfold tkV tkAt tok
 cases zCf s (skip s a) <;> rfl
theorem zIL {s : Bs} {a : Nat} (h : a ≤ s.length) : tkE (skip s a) (tok s a) ≤ s.length:=by
 have h1:=zB7 s a
 have h2:=zB2 h
 cases hk : tok s a <;> rw [hk] at h1 <;> simp only [tkE,Tok.endsBy] at h1 ⊢ <;> omega
theorem tkT_41 {s : Bs} {a : Nat} : (∃ e,tok s a = .sign e [41]) ↔ tkK (tok s a) = 4 ∧ tkT (tok s a) = [41]:=by
 constructor
 ·rintro ⟨e,h⟩; rw [h]; exact ⟨rfl,rfl⟩
 ·intro h
  cases hk : tok s a <;> rw [hk] at h <;> simp only [tkK,tkT] at h
  all_goals first | omega | skip
  exact ⟨_,by rw [h.2]⟩
section
variable {C : CSpec} {GT : Nat → Option AV}
theorem rclose_ok (hT : ∀ s a H,a ≤ s.length → s.length ≤ 1000 → C zT [.str s,zK a] H (tkV s a) H)
  (b : Nat) (s : Bs) (p d e : Nat) (H : Heap) (hb : H[b]? = some (rP s p (d + 1))) (hp : p ≤ s.length) (hl : s.length ≤ 200) (hd : d ≤ 1000) (hk : tok s p = .sign e [41]) : zCL C GT zBv [pR b] H b [] .undef (some (.tup [],rP s e d)):=by
 have hbl : b < H.length:=(zg hb).1
 have ht:=fun H=>hT s p H hp tO
 rw [zFN,hk] at ht
 have ht : ∀ H,C zT [.str s,zK p] H (kV 4 (skip s p) e [41]) H:=ht
 generalize skip s p = q at *
 clear hT
 refine zAG ?_; refine zC (AV.str s) hb rfl <| zC (zJ ↑p) hb rfl ?_; refine zG9 ?_ ?_
 all_goals
  refine zI (ht _) <| zH (v:=kV 4 q e [41]) (AV.cells (kV 4 q e [41])) zB rfl rfl rfl rfl <| zC (zJ 0) (zA tA (zD hb)) rfl <| zG <| zC (zK 4) (zE zB) rfl <| zF ?_; refine zC (AV.str [41]) (zE zB) rfl <| zF <| zG <| zF <| zC (zK e) (zE zB) rfl <| zH (v:=zK e) [AV.str s,zK e,zJ 0,zJ 0,zJ ↑(d + 1)] (zA tA (zD hb)) rfl rfl rfl rfl ?_; refine zC (zJ ↑(d + 1)) (zE (zA tA (zD hb))) rfl <| zN (r:=d) tO tO <| zH (v:=.int .i64 ↑d) [AV.str s,zK e,zJ 0,zJ 0,.int .i64 ↑d] (zE (zA tA (zD hb))) rfl rfl rfl rfl ?_
  exact zG5 _ (by first | rfl | assumption) rfl rfl rfl rfl (((((OldB.start hb).push _).set tA _).setB _).setB _) rfl
theorem rclose_no (hT : ∀ s a H,a ≤ s.length → s.length ≤ 1000 → C zT [.str s,zK a] H (tkV s a) H)
  (hF : ∀ b s p d a e H,H[b]? = some (pB s p 0 0 d) → C ze [pR b,zJ a,zJ e] H (.tup []) (H.set b (pB s p a e d)))
  (b : Nat) (s : Bs) (p d : Nat) (H : Heap) (hb : H[b]? = some (rP s p (d + 1))) (hp : p ≤ s.length) (hl : s.length ≤ 200) (hd : d ≤ 1000) (hk : ¬ ∃ e,tok s p = .sign e [41]) : zCL C GT zBv [pR b] H b [] .undef (some (.tup [],pB s (tkE (skip s p) (tok s p) : Nat) (skip s p : Nat) 2 d)):=by
 have hbl : b < H.length:=(zg hb).1
 have ht:=fun H=>hT s p H hp tO
 rw [zFN] at ht
 rw [tkT_41] at hk
 have hf:=fun H=>hF b s p (d + 1 : Nat) (skip s p : Nat) 2 H
 clear hT hF
 generalize tkE (skip s p) (tok s p) = e at *
 generalize tkK (tok s p) = kk at *
 generalize tkT (tok s p) = t at *
 generalize skip s p = q at *
 refine zAG ?_
 by_cases h4 : kk = 4
 ·subst h4
  have h41 : t ≠ [41]:=fun x=>hk ⟨rfl,x⟩
  refine zC (AV.str s) hb rfl <| zC (zJ ↑p) hb rfl ?_; refine zG9 ?_ ?_
  all_goals
   refine zI (ht _) <| zH (v:=kV 4 q e t) (AV.cells (kV 4 q e t)) zB rfl rfl rfl rfl <| zC (zJ 0) (zA tA (zD hb)) rfl <| zG <| zC (zK 4) (zE zB) rfl <| zF ?_; refine zC (AV.str t) (zE zB) rfl <| zF <| zG <| zc (zNf.2 h41) <| zC (zK q) (zE zB) rfl <| zAZ (hf _ hP) (fun h=>by cases h) ?_; refine zC (zK e) (zA tA (zE zB)) rfl <| zH (v:=zK e) [AV.str s,zK e,zJ ↑q,zJ 2,zJ ↑(d + 1)] (zE (zA tA (zD hb))) rfl rfl rfl rfl <| zC (zJ ↑(d + 1)) (zE (zE (zA tA (zD hb)))) rfl <| zN (r:=d) tO tO <| zH (v:=.int .i64 ↑d) [AV.str s,zK e,zJ ↑q,zJ 2,.int .i64 ↑d] (zE (zE (zA tA (zD hb)))) rfl rfl rfl rfl ?_
   exact zG5 _ (by first | rfl | assumption) rfl rfl rfl rfl ((((((OldB.start hb).push _).set tA _).setB _).setB _).setB _) rfl
 ·refine zC (AV.str s) hb rfl <| zC (zJ ↑p) hb rfl ?_; refine zG9 ?_ ?_
  all_goals
   refine zI (ht _) <| zH (v:=kV kk q e t) (AV.cells (kV kk q e t)) zB rfl rfl rfl rfl <| zC (zJ 0) (zA tA (zD hb)) rfl <| zG <| zC (zK kk) (zE zB) rfl ?_; refine zc (zNf.2 tO) <| zG <| zG <| zG <| zC (zK q) (zE zB) rfl <| zAZ (hf _ hP) (fun h=>by cases h) ?_; refine zC (zK e) (zA tA (zE zB)) rfl <| zH (v:=zK e) [AV.str s,zK e,zJ ↑q,zJ 2,zJ ↑(d + 1)] (zE (zA tA (zD hb))) rfl rfl rfl rfl <| zC (zJ ↑(d + 1)) (zE (zE (zA tA (zD hb)))) rfl <| zN (r:=d) tO tO <| zH (v:=.int .i64 ↑d) [AV.str s,zK e,zJ ↑q,zJ 2,.int .i64 ↑d] (zE (zE (zA tA (zD hb)))) rfl rfl rfl rfl ?_
   exact zG5 _ (by first | rfl | assumption) rfl rfl rfl rfl ((((((OldB.start hb).push _).set tA _).setB _).setB _).setB _) rfl
theorem rclose_bad (hT : ∀ s a H,a ≤ s.length → s.length ≤ 1000 → C zT [.str s,zK a] H (tkV s a) H)
  (b : Nat) (s : Bs) (p : Nat) (w e d : Int) (H : Heap) (hb : H[b]? = some (pB s p w e d)) (he : e ≠ 0) (hp : p ≤ s.length) (hl : s.length ≤ 200) : zCL C GT zBv [pR b] H b [] .undef (some (.tup [],pB s (tkE (skip s p) (tok s p) : Nat) w e (IntKind.wrap .i64 (d - 1)))):=by
 have hbl : b < H.length:=(zg hb).1
 have ht:=fun H=>hT s p H hp tO
 rw [zFN] at ht
 clear hT
 generalize tkE (skip s p) (tok s p) = ee at *
 generalize tkK (tok s p) = kk at *
 generalize tkT (tok s p) = t at *
 generalize skip s p = q at *
 refine zAG ?_; refine zC (AV.str s) hb rfl <| zC (zJ ↑p) hb rfl ?_; refine zG9 ?_ ?_
 all_goals
  refine zI (ht _) <| zH (v:=kV kk q ee t) (AV.cells (kV kk q ee t)) zB rfl rfl rfl rfl <| zC (zJ e) (zA tA (zD hb)) rfl <| zW (tN he) <| zF <| zF ?_; refine zC (zK ee) (zE zB) rfl <| zH (v:=zK ee) [AV.str s,zK ee,zJ w,zJ e,zJ d] (zA tA (zD hb)) rfl rfl rfl rfl <| zC (zJ d) (zE (zA tA (zD hb))) rfl <| sVal rfl <| zH (v:=.int .i64 (IntKind.i64.wrap (d - 1))) [AV.str s,zK ee,zJ w,zJ e,.int .i64 (IntKind.i64.wrap (d - 1))] (zE (zA tA (zD hb))) rfl rfl rfl rfl ?_
  exact zG5 _ (by first | rfl | assumption) rfl rfl rfl rfl (((((OldB.start hb).push _).set tA _).setB _).setB _) rfl
end
end Go.AM
set_option maxRecDepth 20000
namespace Go.AM
def zBa (w : Nat) : AV:=.int .u32 w
def u64V (w : Nat) : AV:=.int .u64 w
def zEY (n : Nat) : AV:=.lst (some false) 1 ((wds n).map zBa)
def Mag (v : AV) (n : Nat) : Prop:=zBI v 1 ((wds n).map zBa)
theorem zHc (n : Nat) : Mag (zEY n) n:=⟨_,_,rfl,.inl rfl⟩
theorem Mag.nil (k : Nat) : Mag (.lst (some true) k []) 0:=⟨_,_,rfl,.inr rfl⟩
theorem zJo {n i : Nat} (h : i < (wds n).length) : ((wds n).map zBa)[i]? = some (zBa (wds n)[i]):=by rw [zM2,zMr h]; rfl
theorem sl_take {b m n : Nat} (h : n ≤ m) : zA0 (some 1) (.sl (some false) b 1 0 m) none (some (.int .i64 (n : Int))) = some (.sl (some false) b 1 0 n):=by
 have e : zCg m none (some (.int .i64 (n : Int))) = some (0,n):=by
  simp only [zCg,aHi,aLo]
  rw [zMt ⟨by omega,by omega⟩]
  simp
 simp only [zA0,zNP,e,zM9,zNo,zPi]
 rfl
theorem frz_mag {H0 H : Heap} {b n : Nat} {ws : List Nat} (hbl : H0.length ≤ b) (hb : H[b]? = some (.row 1 (ws.map zBa))) (hw : Small ws) (hn : wval ws = n) :
  zDJ H0.length (.sl (some false) b 1 0 (wds n).length) H = some (zEY n,H.set b (.frz 1 (ws.map zBa))):=by
 subst hn
 have h:=wds_take hw
 simp only [zDJ,hb]
 rw [zMq tO,zMt ⟨trivial,by rw [zMx]; omega⟩]
 simp only [zO8,← List.map_take,h.2]
 rfl
theorem shr32 (s : Nat) : zB5 .shr .u64 (s : Int) 32 = some (.int .u64 ((s / 4294967296 : Nat) : Int)):=by
 simp only [zB5]
 rw [zMq tO]
 have : (2 : Int) ^ Nat.min (32 : Int).toNat IntKind.u64.bits = 4294967296:=by rfl
 rw [this,zOs _ tO]
 rfl
theorem shr63 (s : Nat) : zB5 .shr .u64 (s : Int) 63 = some (.int .u64 ((s / 9223372036854775808 : Nat) : Int)):=by
 simp only [zB5]
 rw [zMq tO]
 have : (2 : Int) ^ Nat.min (63 : Int).toNat IntKind.u64.bits = 9223372036854775808:=by rfl
 rw [this,zOs _ tO]
 rfl
theorem sWu32 {x : Int} {K : Int → Prop} (r : Nat) (h : x % 4294967296 = r) (k : K (r : Int)) : valP (IntKind.wrap .u32 x) K:=sVal (by rw [IntKind.wrap_u32]; omega) k
theorem sWu64 {x : Int} {K : Int → Prop} (r : Nat) (h : x % 18446744073709551616 = r) (k : K (r : Int)) : valP (IntKind.wrap .u64 x) K:=sVal (by rw [IntKind.wrap_u64]; omega) k
theorem set_pad (ds : List Nat) (m d : Nat) : ((ds ++ List.replicate (m + 1) 0).map zBa).set ds.length (zBa d) = ((ds ++ [d]) ++ List.replicate m 0).map zBa:=by
 rw [zPH,← List.map_set,zOo _ _ (zMv _),Nat.sub_self]
 simp
theorem pad_get (ds : List Nat) (m : Nat) : ((ds ++ List.replicate (m + 1) 0).map zBa)[ds.length]? = some (zBa 0):=by
 rw [zM2,zM6 (zMv _),Nat.sub_self,zPH]; rfl
theorem Small.snoc {ds : List Nat} {d : Nat} (h : Small ds) (hd : d < 4294967296) : Small (ds ++ [d]):=by
 intro w hw
 rcases zN4.1 hw with hw | hw
 ·exact h w hw
 ·rw [zN3.1 hw]; exact hd
section
variable {C : CSpec} {GT : Nat → Option AV}
theorem trim_ev (b m : Nat) (ws : List Nat) (H : Heap) (hm : ws.length = m) (hb : H[b]? = some (.row 1 (ws.map zBa))) (hw : Small ws) (hl : m ≤ 1000000) :
  EFun C GT zEm [.sl (some false) b 1 0 m] H (.sl (some false) b 1 0 (wds (wval ws)).length) H:=by
 have hbl : b < H.length:=(zg hb).1
 subst hm
 have fin : ∀ n : Nat,n ≤ ws.length → (wds (wval ws)).length = n → (.sl (some false) b 1 0 (wds (wval ws)).length : AV) = .sl (some false) b 1 0 n:=fun n _ h=>by rw [h]
 refine za ?_; refine zDv ?_; refine zBM (fun n : Nat=>[(3,zK n),(0,.sl (some false) b 1 0 ws.length)]) (fun n H'=>H' = H ∧ n ≤ ws.length ∧ wval (ws.take n) = wval ws) (fun n=>n) ws.length rfl ⟨rfl,zMv _,by rw [zOu]⟩ (fun n H1 ⟨e,hn,hv⟩=>?_)
 subst e
 dsimp only
 have hsm : Small (ws.take n):=fun w h=>hw w (zOH h)
 refine zD8 (fun h=>?_) (fun h=>?_)
 ·have h : 0 < n:=by have:=zNc h; omega
  have hi : n - 1 < ws.length:=by omega
  have hx : (ws.map zBa)[n - 1]? = some (zBa ws[n - 1]):=by rw [zM2,zMr hi]; rfl
  have ht : ws.take n = ws.take (n - 1) ++ [ws[n - 1]]:=by
   have:=zOc hi
   rwa [Nat.sub_add_cancel h] at this
  refine zN (r:=n - 1) tO tO <| sAt ⟨by omega,by omega⟩ <| zBJ (n - 1) (zBa ws[n - 1]) (zBa ws[n - 1]) tO hb hx rfl <| zG ?_; refine zD8 (fun h0=>?_) (fun h0=>?_)
  ·have h0 : ws[n - 1] = 0:=by have:=eq_of_beq h0; omega
   refine zN (r:=n - 1) tO tO ?_; refine zAC (n - 1) rfl ⟨rfl,by omega, ?_⟩ tO
   rw [← hv,ht,zDr,h0]; simp
  ·have h0 : ws[n - 1] ≠ 0:=fun e=>by rw [e] at h0; exact absurd h0 (by simp)
   have hd : wds (wval ws) = ws.take n:=by
    rw [← hv]
    refine wds_val hsm fun w hw=>?_
    rw [ht,List.getLast?_concat] at hw
    cases hw
    exact h0
   have e:=fin n hn (by rw [hd,zM8]; omega)
   refine zl (sl_take hn) ?_
   exact sRetE e rfl rfl (by simp only [zDJ]; rw [zMt hbl]) (by simp only [AV.bel]; exact zNM hbl) (Old.refl _)
 ·have h : n = 0:=by have:=zNd h; omega
  subst h
  have e:=fin 0 hn (by rw [← hv]; rfl)
  refine zF <| zF <| zl (sl_take hn) ?_
  exact sRetE e rfl rfl (by simp only [zDJ]; rw [zMt hbl]) (by simp only [AV.bel]; exact zNM hbl) (Old.refl _)
theorem words_ev (hT : ∀ b m ws H,ws.length = m → H[b]? = some (.row 1 (ws.map zBa)) → Small ws → m ≤ 1000000 → C z8 [.sl (some false) b 1 0 m] H (.sl (some false) b 1 0 (wds (wval ws)).length) H)
  (x : Nat) (hx : x < 18446744073709551616) (H : Heap) : EFun C GT zEO [u64V x] H (zEY x) H:=by
 have hb : (H ++ [ABlk.row 1 [zBa (x % 4294967296),zBa (x / 4294967296)]])[H.length]? = some (.row 1 (([x % 4294967296,x / 4294967296] : List Nat).map zBa)):=zB
 have hw : Small [x % 4294967296,x / 4294967296]:=by
  intro w hw
  simp at hw
  omega
 have hv : wval [x % 4294967296,x / 4294967296] = x:=by simp only [wval]; omega
 have ht:=hT H.length 2 [x % 4294967296,x / 4294967296] _ rfl hb hw tO
 rw [hv] at ht
 refine za ?_; refine sWu32 (x % 4294967296) tO <| zl (shr32 x) <| sWu32 (x / 4294967296) tO <| zAF (vs':=[zBa (x % 4294967296),zBa (x / 4294967296)]) rfl rfl <| zI (ht) ?_
 exact zIX rfl rfl (frz_mag (zMv _) hb hw hv) rfl (((Old.refl H).push _).set (zMv _) _)
structure SAd where
 i : Nat
 c : Nat
 ds : List Nat
theorem add_tail (hT : ∀ b m ws H,ws.length = m → H[b]? = some (.row 1 (ws.map zBa)) → Small ws → m ≤ 1000000 → C z8 [.sl (some false) b 1 0 m] H (.sl (some false) b 1 0 (wds (wval ws)).length) H)
  (av bv : AV) (x y n : Nat) (H : Heap) (ha : Mag av x) (hb : Mag bv y) (hn : (wds x).length = n) (hle : (wds y).length ≤ n) (hl : n ≤ 100000) :
  EW C GT (zFF.behind 2) (finF zDp H (zEY (x + y)) H) [(1,bv),(0,av)] H:=by
 have hal : ((wds x).map zBa).length = n:=by rw [zMx,hn]
 refine zAz n ha hal <| zN (r:=n + 1) rfl tO <| sMake (n:=n + 1) rfl (Int.le_refl _) ⟨by omega,by omega⟩ rfl ?_; refine zBM (fun s : SAd=>[(7,zK s.i),(5,.sl (some false) H.length 1 0 (n + 1)),(1,bv),(0,av),(6,u64V s.c)])
  (fun s H'=>Old H H' ∧ s.ds.length = s.i ∧ s.i ≤ n ∧ Small s.ds ∧ s.c ≤ 1 ∧ H'[H.length]? = some (.row 1 ((s.ds ++ List.replicate (n + 1 - s.i) 0).map zBa)) ∧ wval s.ds + 4294967296 ^ s.i * s.c = wval ((wds x).take s.i) + wval ((wds y).take s.i)) (fun s=>n - s.i) ⟨0,0,[]⟩ rfl
  ⟨(Old.refl _).push _,rfl,zNl _,(fun w hw=>by cases hw),zNl _,by rw [zNn,zPi,zPP]; exact zB,rfl⟩ (fun ⟨i,c,ds⟩ H1 ⟨hO,hd,hi,hsm,hc,hrow,hval⟩=>?_)
 simp only at hd hi hsm hc hrow hval
 dsimp only
 refine zAz n ha hal ?_; refine zD8 (fun h=>?_) (fun h=>?_)
 ·have h : i < n:=by have:=zNc h; omega
  have hx : i < (wds x).length:=by omega
  have hax:=zJo hx
  have htx:=zDC hx
  have hsx:=zBy x _ (zNy hx)
  obtain ⟨a,had⟩ : ∃ a,(wds x)[i] = a:=⟨_,rfl⟩
  rw [had] at hax htx hsx
  have hm : n + 1 - i = (n - i) + 1:=by omega
  rw [hm] at hrow
  have hget:=pad_get ds (n - i)
  have hset:=fun d=>set_pad ds (n - i) d
  rw [hd] at hget hset
  have hlen : ds.length = i:=hd
  refine zBP i (zBa a) ha rfl hax <| zi (zBa a) rfl <| zDX (r:=a) rfl tO <| zDX (r:=c + a) tO tO <| zAz (wds y).length hb (by simp) ?_; refine zD8 (fun h2=>?_) (fun h2=>?_)
  ·have h2 : i < (wds y).length:=by have:=zNc h2; omega
   have hby:=zJo h2
   have hty:=zDC h2
   have hsy:=zBy y _ (zNy h2)
   obtain ⟨d,hdd⟩ : ∃ d,(wds y)[i] = d:=⟨_,rfl⟩
   rw [hdd] at hby hty hsy
   refine zBP i (zBa d) hb rfl hby <| zi (zBa d) rfl <| zDX (r:=d) rfl tO <| zDX (r:=c + a + d) tO tO <| sWu32 ((c + a + d) % 4294967296) tO <| sAt ⟨by omega,by omega⟩ ?_; refine zLv i (zBa ((c + a + d) % 4294967296)) tO hrow hget rfl (by decide) rfl (fun cs h=>by cases h) <| zl (shr32 (c + a + d)) <| zN (r:=i + 1) rfl tO ?_; refine zAC (SAd.mk (i + 1) ((c + a + d) / 4294967296) (ds ++ [(c + a + d) % 4294967296])) rfl ⟨hO.set (zMv _) _,by simp [hlen],by simp only; omega,hsm.snoc tO,by simp only; omega, ?_, ?_⟩ (by simp only; omega)
   ·rw [hset]
    have : n + 1 - (i + 1) = n - i:=by omega
    simp only [this]
    exact zE hrow
   ·simp only [zDr,hlen,htx,hty,zNu]
    have e : (c + a + d) % 4294967296 + 4294967296 * ((c + a + d) / 4294967296) = c + a + d:=by omega
    have e2 : 4294967296 ^ i * ((c + a + d) % 4294967296) + 4294967296 ^ i * 4294967296 * ((c + a + d) / 4294967296) = 4294967296 ^ i * c + 4294967296 ^ i * a + 4294967296 ^ i * d:=by
     rw [zOe,← Nat.mul_add,e,zPF,zPF]
    omega
  ·have h2 : (wds y).length ≤ i:=by have:=zNd h2; omega
   have hty : wval ((wds y).take (i + 1)) = wval ((wds y).take i):=by rw [zNK tO,zNK h2]
   refine sWu32 ((c + a) % 4294967296) tO <| sAt ⟨by omega,by omega⟩ <| zLv i (zBa ((c + a) % 4294967296)) tO hrow hget rfl (by decide) rfl (fun cs h=>by cases h) <| zl (shr32 (c + a)) <| zN (r:=i + 1) rfl tO ?_; refine zAC (SAd.mk (i + 1) ((c + a) / 4294967296) (ds ++ [(c + a) % 4294967296])) rfl ⟨hO.set (zMv _) _,by simp [hlen],by simp only; omega,hsm.snoc tO,by simp only; omega, ?_, ?_⟩ (by simp only; omega)
   ·rw [hset]
    have : n + 1 - (i + 1) = n - i:=by omega
    simp only [this]
    exact zE hrow
   ·simp only [zDr,hlen,htx,hty,zNu]
    have e : (c + a) % 4294967296 + 4294967296 * ((c + a) / 4294967296) = c + a:=by omega
    have e2 : 4294967296 ^ i * ((c + a) % 4294967296) + 4294967296 ^ i * 4294967296 * ((c + a) / 4294967296) = 4294967296 ^ i * c + 4294967296 ^ i * a:=by
     rw [zOe,← Nat.mul_add,e,zPF]
    omega
 ·have h : i = n:=by have:=zNd h; omega
  subst h
  have hm : i + 1 - i = 0 + 1:=by omega
  rw [hm] at hrow
  have hget:=pad_get ds 0
  have hset:=fun d=>set_pad ds 0 d
  rw [hd] at hget hset
  rw [zNK tO,zNK tO,zD4,zD4,← hd,← zDr] at hval
  have hsm2 : Small (ds ++ [c]):=hsm.snoc tO
  have hr2 : (H1.set H.length (.row 1 ((ds ++ [c]).map zBa)))[H.length]? = some (.row 1 ((ds ++ [c]).map zBa)):=zE hrow
  have hset2 : ((ds ++ List.replicate (0 + 1) 0).map zBa).set i (zBa c) = (ds ++ [c]).map zBa:=by rw [hset]; simp
  have ht:=hT H.length (i + 1) (ds ++ [c]) _ (by simp [hd]) hr2 hsm2 tO
  rw [hval] at ht
  rw [← hset2] at ht hr2
  refine zAz i ha hal <| sWu32 c tO <| sAt ⟨by omega,by omega⟩ <| zLv i (zBa c) tO hrow hget rfl (by decide) rfl (fun cs h=>by cases h) <| zI ht ?_
  rw [hset2] at hr2
  exact zIX rfl rfl (frz_mag (zMv _) (by rw [hset2]; exact hr2) hsm2 hval) rfl ((hO.set (zMv _) _).set (zMv _) _)
theorem add_ev (hT : ∀ b m ws H,ws.length = m → H[b]? = some (.row 1 (ws.map zBa)) → Small ws → m ≤ 1000000 → C z8 [.sl (some false) b 1 0 m] H (.sl (some false) b 1 0 (wds (wval ws)).length) H)
  (av bv : AV) (x y : Nat) (H : Heap) (ha : Mag av x) (hb : Mag bv y) (h1 : (wds x).length ≤ 100000) (h2 : (wds y).length ≤ 100000) : EFun C GT zDp [av,bv] H (zEY (x + y)) H:=by
 refine za ?_; refine zAz (wds x).length ha (by simp) <| zAz (wds y).length hb (by simp) ?_; refine zD8 (fun h=>?_) (fun h=>?_)
 ·have h : (wds x).length < (wds y).length:=by have:=zNc h; omega
  rw [zOl x y]
  refine sTail rfl (add_tail hT bv av y x _ H hb ha rfl tO h2) ?_
  rfl
 ·have h : (wds y).length ≤ (wds x).length:=by have:=zNd h; omega
  refine sTail rfl (add_tail hT av bv x y _ H ha hb rfl h h1) ?_
  rfl
theorem sub_ev (hT : ∀ b m ws H,ws.length = m → H[b]? = some (.row 1 (ws.map zBa)) → Small ws → m ≤ 1000000 → C z8 [.sl (some false) b 1 0 m] H (.sl (some false) b 1 0 (wds (wval ws)).length) H)
  (av bv : AV) (x y n : Nat) (H : Heap) (ha : Mag av x) (hb : Mag bv y) (hyx : y ≤ x) (hn : (wds x).length = n) (hl : n ≤ 100000) : EFun C GT zFH [av,bv] H (zEY (x - y)) H:=by
 have hal : ((wds x).map zBa).length = n:=by rw [zMx,hn]
 have hle : (wds y).length ≤ n:=by rw [← hn]; exact wds_len_mono hyx
 refine za ?_; refine zAz n ha hal <| sMake (n:=n) rfl (Int.le_refl _) ⟨by omega,by omega⟩ rfl ?_; refine zBM (fun s : SAd=>[(7,zK s.i),(5,.sl (some false) H.length 1 0 n),(1,bv),(6,u64V s.c),(0,av)])
  (fun s H'=>Old H H' ∧ s.ds.length = s.i ∧ s.i ≤ n ∧ Small s.ds ∧ s.c ≤ 1 ∧ H'[H.length]? = some (.row 1 ((s.ds ++ List.replicate (n - s.i) 0).map zBa)) ∧ wval s.ds + wval ((wds y).take s.i) = wval ((wds x).take s.i) + 4294967296 ^ s.i * s.c) (fun s=>n - s.i) ⟨0,0,[]⟩ rfl
  ⟨(Old.refl _).push _,rfl,zNl _,(fun w hw=>by cases hw),zNl _,by rw [zNn,zPi,zPP]; exact zB,rfl⟩ (fun ⟨i,c,ds⟩ H1 ⟨hO,hd,hi,hsm,hc,hrow,hval⟩=>?_)
 simp only at hd hi hsm hc hrow hval
 dsimp only
 refine zAz n ha hal ?_; refine zD8 (fun h=>?_) (fun h=>?_)
 ·have h : i < n:=by have:=zNc h; omega
  have hx : i < (wds x).length:=by omega
  have hax:=zJo hx
  have htx:=zDC hx
  have hsx:=zBy x _ (zNy hx)
  obtain ⟨a,had⟩ : ∃ a,(wds x)[i] = a:=⟨_,rfl⟩
  rw [had] at hax htx hsx
  obtain ⟨m,hm⟩ : ∃ m,n - i = m + 1:=⟨n - i - 1,by omega⟩
  rw [hm] at hrow
  have hget:=pad_get ds m
  have hset:=fun d=>set_pad ds m d
  rw [hd] at hget hset
  have hlen : ds.length = i:=hd
  refine zBP i (zBa a) ha rfl hax <| zi (zBa a) rfl <| zDX (r:=a) rfl tO <| sWu64 ((((a : Int) - c) % 18446744073709551616).toNat) tO <| zAz (wds y).length hb (by simp) ?_
  have next : ∀ (e d c' : Nat),(e : Int) = (a : Int) - c' - c ∨ True → True:=fun _ _ _ _=>trivial
  refine zD8 (fun h2=>?_) (fun h2=>?_)
  ·have h2 : i < (wds y).length:=by have:=zNc h2; omega
   have hby:=zJo h2
   have hty:=zDC h2
   have hsy:=zBy y _ (zNy h2)
   obtain ⟨d,hdd⟩ : ∃ d,(wds y)[i] = d:=⟨_,rfl⟩
   rw [hdd] at hby hty hsy
   obtain ⟨D,hD⟩ : ∃ D : Nat,(((a : Int) - c - d) % 18446744073709551616) = D:=⟨(((a : Int) - c - d) % 18446744073709551616).toNat,by omega⟩
   refine zBP i (zBa d) hb rfl hby <| zi (zBa d) rfl <| zDX (r:=d) rfl tO <| sWu64 D tO <| sWu32 (D % 4294967296) tO <| sAt ⟨by omega,by omega⟩ ?_; refine zLv i (zBa (D % 4294967296)) tO hrow hget rfl (by decide) rfl (fun cs h=>by cases h) <| zl (shr63 D) <| zN (r:=i + 1) rfl tO ?_; refine zAC (SAd.mk (i + 1) (D / 9223372036854775808) (ds ++ [D % 4294967296])) rfl ⟨hO.set (zMv _) _,by simp [hlen],by simp only; omega,hsm.snoc tO,by simp only; omega, ?_, ?_⟩ (by simp only; omega)
   ·rw [hset]
    have : n - (i + 1) = m:=by omega
    simp only [this]
    exact zE hrow
   ·simp only [zDr,hlen,htx,hty,zNu]
    have e : D % 4294967296 + c + d = a + 4294967296 * (D / 9223372036854775808):=by omega
    have e2 : 4294967296 ^ i * (D % 4294967296) + 4294967296 ^ i * c + 4294967296 ^ i * d = 4294967296 ^ i * a + 4294967296 ^ i * 4294967296 * (D / 9223372036854775808):=by
     rw [zOe,← Nat.mul_add,← Nat.mul_add,e,zPF]
    omega
  ·have h2 : (wds y).length ≤ i:=by have:=zNd h2; omega
   have hty : wval ((wds y).take (i + 1)) = wval ((wds y).take i):=by rw [zNK tO,zNK h2]
   obtain ⟨D,hD⟩ : ∃ D : Nat,(((a : Int) - c) % 18446744073709551616).toNat = D:=⟨_,rfl⟩
   rw [hD]
   refine sWu32 (D % 4294967296) tO <| sAt ⟨by omega,by omega⟩ <| zLv i (zBa (D % 4294967296)) tO hrow hget rfl (by decide) rfl (fun cs h=>by cases h) <| zl (shr63 D) <| zN (r:=i + 1) rfl tO ?_; refine zAC (SAd.mk (i + 1) (D / 9223372036854775808) (ds ++ [D % 4294967296])) rfl ⟨hO.set (zMv _) _,by simp [hlen],by simp only; omega,hsm.snoc tO,by simp only; omega, ?_, ?_⟩ (by simp only; omega)
   ·rw [hset]
    have : n - (i + 1) = m:=by omega
    simp only [this]
    exact zE hrow
   ·simp only [zDr,hlen,htx,hty,zNu]
    have e : D % 4294967296 + c = a + 4294967296 * (D / 9223372036854775808):=by omega
    have e2 : 4294967296 ^ i * (D % 4294967296) + 4294967296 ^ i * c = 4294967296 ^ i * a + 4294967296 ^ i * 4294967296 * (D / 9223372036854775808):=by
     rw [zOe,← Nat.mul_add,← Nat.mul_add,e]
    omega
 ·have h : i = n:=by have:=zNd h; omega
  subst h
  rw [Nat.sub_self,zPI,zN6] at hrow
  rw [zNK tO,zNK tO,zD4,zD4] at hval
  have hv : wval ds = x - y:=by
   have h1:=wval_lt hsm
   rw [hd] at h1
   have hc0 : c = 0:=by
    rcases zOj c with h | h
    ·exact h
    ·have hc1 : c = 1:=by omega
     rw [hc1,zPq] at hval
     omega
   rw [hc0] at hval
   omega
  have ht:=hT H.length i ds _ hd hrow hsm tO
  rw [hv] at ht
  refine zI ht ?_
  exact zIX rfl rfl (frz_mag (zMv _) hrow hsm hv) rfl (hO.set (zMv _) _)
def cmpN (x y : Nat) : Int:=if x < y then -1 else if x = y then 0 else 1
theorem cmpN_lt {x y : Nat} (h : x < y) : cmpN x y = -1:=zMt h
theorem cmpN_eq (x : Nat) : cmpN x x = 0:=by unfold cmpN; rw [zMq tO,zMt rfl]
theorem cmpN_gt {x y : Nat} (h : y < x) : cmpN x y = 1:=by unfold cmpN; rw [zMq tO,zMq tO]
theorem bcmp_ev (av bv : AV) (x y : Nat) (H : Heap) (ha : Mag av x) (hb : Mag bv y) (h1 : (wds x).length ≤ 100000) (h2 : (wds y).length ≤ 100000) : EFun C GT zFG [av,bv] H (zJ (cmpN x y)) H:=by
 refine za ?_; refine zAz (wds x).length ha (by simp) <| zAz (wds y).length hb (by simp) ?_; refine zD8 (fun h=>?_) (fun h=>?_)
 ·have h : (wds x).length ≠ (wds y).length:=by simp only [zNf,ne_eq] at h; omega
  refine zAz (wds x).length ha (by simp) <| zAz (wds y).length hb (by simp) ?_; refine zD8 (fun h2=>?_) (fun h2=>?_)
  ·have h2 : (wds x).length < (wds y).length:=by have:=zNc h2; omega
   rw [cmpN_lt (zKK h2)]
   exact sRr
  ·have h2 : (wds y).length < (wds x).length:=by have:=zNd h2; omega
   rw [cmpN_gt (zKK h2)]
   exact sRr
 have h : (wds x).length = (wds y).length:=by simp only [zNQ] at h; omega
 have key : ∀ (e : Int),cmpN x y = e → True:=fun _ _=>trivial
 refine zAz (wds x).length ha (by simp) <| sW64 ⟨by omega,by omega⟩ ?_; refine zBM (fun k : Nat=>[(5,zJ ((k : Int) - 1)),(1,bv),(0,av)]) (fun k H'=>H' = H ∧ k ≤ (wds x).length ∧ (wds x).drop k = (wds y).drop k) (fun k=>k) (wds x).length rfl
  ⟨rfl,zMv _,by rw [List.drop_length,h,List.drop_length]⟩ (fun k H1 ⟨e,hk,hd⟩=>?_)
 subst e
 dsimp only
 refine zD8 (fun h3=>?_) (fun h3=>?_)
 ·have h3 : 1 ≤ k:=by have:=zNc h3; omega
  obtain ⟨i,rfl⟩ : ∃ i,k = i + 1:=⟨k - 1,by omega⟩
  have hx : i < (wds x).length:=by omega
  have hy : i < (wds y).length:=by omega
  have hax:=zJo hx
  have hby:=zJo hy
  have hsx:=zBy x _ (zNy hx)
  have hsy:=zBy y _ (zNy hy)
  have top1:=fun hlt=>cmp_top (zBy x) (zBy y) h hx hd hlt
  have top2:=fun hlt=>cmp_top (zBy y) (zBy x) h.symm hy hd.symm hlt
  rw [zD4,zD4] at top1 top2
  have hdx : (wds x).drop i = (wds x)[i] :: (wds x).drop (i + 1):=(zO0 hx).symm
  have hdy : (wds y).drop i = (wds y)[i] :: (wds y).drop (i + 1):=(zO0 hy).symm
  generalize (wds x)[i] = a at *
  generalize (wds y)[i] = d at *
  refine zBP i (zBa a) ha tO hax <| zi (zBa a) rfl <| zBP i (zBa d) hb tO hby <| zi (zBa d) rfl ?_; refine zD8 (fun h4=>?_) (fun h4=>?_)
  ·have h4 : a ≠ d:=by simp only [zNf,ne_eq] at h4; omega
   refine zBP i (zBa a) ha tO hax <| zi (zBa a) rfl <| zBP i (zBa d) hb tO hby <| zi (zBa d) rfl ?_; refine zD8 (fun h5=>?_) (fun h5=>?_)
   ·have h5 : a < d:=by have:=zNc h5; omega
    rw [cmpN_lt (top1 h5)]
    exact sRr
   ·have h5 : d < a:=by have:=zNd h5; omega
    rw [cmpN_gt (top2 h5)]
    exact sRr
  ·have h4 : a = d:=by simp only [zNQ] at h4; omega
   refine sW64 ⟨by omega,by omega⟩ ?_; refine zAC i ?_ ⟨rfl,by omega,by rw [hdx,hdy,h4,hd]⟩ tO
   have : ((i + 1 : Nat) : Int) - 1 - 1 = (i : Int) - 1:=by omega
   simp only [← this]
   rfl
 ·have h3 : k = 0:=by have:=zNd h3; omega
  subst h3
  have e : x = y:=by
   rw [← zD4 x,← zD4 y]
   simp only [zO8] at hd
   rw [hd]
  rw [e,cmpN_eq]
  exact sRr
def sumS (xn : Bool) (x : Nat) (yn : Bool) (y : Nat) : Bool × Nat:=if xn = yn then (xn,x + y) else if y ≤ x then (xn,x - y) else (yn,y - x)
theorem bsum_ev (hA : ∀ av bv x y H,Mag av x → Mag bv y → (wds x).length ≤ 100000 → (wds y).length ≤ 100000 → C zCa [av,bv] H (zEY (x + y)) H)
  (hS : ∀ av bv x y H,Mag av x → Mag bv y → y ≤ x → (wds x).length ≤ 100000 → C zBr [av,bv] H (zEY (x - y)) H)
  (hC : ∀ av bv x y H,Mag av x → Mag bv y → (wds x).length ≤ 100000 → (wds y).length ≤ 100000 → C zCb [av,bv] H (zJ (cmpN x y)) H)
  (av bv : AV) (xn yn : Bool) (x y : Nat) (H : Heap) (ha : Mag av x) (hb : Mag bv y) (h1 : (wds x).length ≤ 100000) (h2 : (wds y).length ≤ 100000) :
  EFun C GT zFE [.bool xn,av,.bool yn,bv] H (.tup [.bool (sumS xn x yn y).1,zEY (sumS xn x yn y).2]) H:=by
 obtain ⟨r,hr⟩ : ∃ r,sumS xn x yn y = r:=⟨_,rfl⟩
 rw [hr]
 unfold sumS at hr
 have c1:=hA av bv x y H ha hb h1 h2
 have c2:=hC av bv x y H ha hb h1 h2
 refine za ?_
 by_cases he : xn = yn
 ·rw [zMt he] at hr
  subst hr
  subst he
  cases xn
  ·refine zG <| zI (c1) ?_
   exact sRr
  ·refine zG <| zI (c1) ?_
   exact sRr
 rw [zMq he] at hr
 by_cases hle : y ≤ x
 ·rw [zMt hle] at hr
  subst hr
  have c3:=hS av bv x y H ha hb hle h1
  have hg : decide (cmpN x y ≥ 0) = true:=by unfold cmpN; rw [zMq tO]; split <;> rfl
  cases xn <;> cases yn <;> first | exact absurd rfl he | skip
  all_goals
   refine zF <| zI (c2) ?_; refine zD8 (fun _=>?_) (fun h=>absurd (hg.symm.trans h) (by simp))
   refine zI (c3) ?_
   exact sRr
 ·rw [zMq hle] at hr
  subst hr
  have c3:=hS bv av y x H hb ha tO h2
  have hg : decide (cmpN x y ≥ 0) = false:=by unfold cmpN; rw [zMt tO]; rfl
  cases xn <;> cases yn <;> first | exact absurd rfl he | skip
  all_goals
   refine zF <| zI (c2) ?_; refine zD8 (fun h=>absurd (hg.symm.trans h) (by simp)) (fun _=>?_)
   refine zI (c3) ?_
   exact sRr
end
end Go.AM
set_option maxRecDepth 20000
namespace Go.AM
def zGF (v : Int) : List AV:=[.bool (decide (v < 0)),zEY v.natAbs]
theorem wds_get : ∀ (n q : Nat),q < (wds n).length → (wds n)[q]? = some (n / 4294967296 ^ q % 4294967296):=by
 intro n
 induction n using Nat.strongRecOn with
 | ind n ih=>
  intro q hq
  have hn : n ≠ 0:=fun e=>by subst e; simp [zD3] at hq
  rw [zDP hn] at hq ⊢
  cases q with
  | zero=>simp
  | succ q=>
   rw [zOw,ih _ tO q (by simpa using hq),zO1,zNu,zOR 4294967296]
theorem B_pow (q : Nat) : 4294967296 ^ q = 2 ^ (32 * q):=by rw [Nat.pow_mul]
theorem bit_of_word (m i : Nat) : m / 4294967296 ^ (i / 32) % 4294967296 / 2 ^ (i % 32) % 2 = m / 2 ^ i % 2:=by
 have hr : i % 32 < 32:=Nat.mod_lt _ tO
 obtain ⟨k,hk⟩ : ∃ k,32 = i % 32 + (k + 1):=⟨31 - i % 32,by omega⟩
 have e1 : (4294967296 : Nat) = 2 ^ (i % 32) * 2 ^ (k + 1):=by rw [← Nat.pow_add,← hk]
 have e2 : m / 4294967296 ^ (i / 32) % 4294967296 / 2 ^ (i % 32) = m / 4294967296 ^ (i / 32) / 2 ^ (i % 32) % 2 ^ (k + 1):=by
  conv=>lhs; lhs; rhs; rw [e1]
  rw [Nat.mod_mul_right_div_self]
 rw [e2,Nat.mod_mod_of_dvd _ (by rw [zNu]; exact Nat.dvd_mul_left 2 _),B_pow,zO1,← Nat.pow_add]
 have : 32 * (i / 32) + i % 32 = i:=Nat.div_add_mod i 32
 rw [this]
theorem bit_high {m i : Nat} (h : (wds m).length ≤ i / 32) : m / 2 ^ i % 2 = 0:=by
 have h1:=wds_lt m
 have h2 : 4294967296 ^ (wds m).length ≤ 4294967296 ^ (i / 32):=zN2 tO h
 rw [B_pow (i / 32)] at h2
 have h3 : 2 ^ (32 * (i / 32)) ≤ 2 ^ i:=zN2 tO tO
 rw [Nat.div_eq_of_lt tO]
theorem bits_shift : ∀ k n : Nat,n / 2 ^ k ≠ 0 → bits n = bits (n / 2 ^ k) + k
 | 0,n,_=>by simp
 | k + 1,n,h=>by
  have hn : n ≠ 0:=fun e=>by subst e; simp at h
  have e : n / 2 ^ (k + 1) = n / 2 / 2 ^ k:=by rw [zO1,zNu,zOR]
  rw [e] at h ⊢
  rw [zLQ hn,bits_shift k (n / 2) h]
  omega
theorem bits_top : ∀ (m k : Nat),(wds m).length = k + 1 → bits m = k * 32 + bits (m / 4294967296 ^ k % 4294967296):=by
 intro m
 induction m using Nat.strongRecOn with
 | ind m ih=>
  intro k hk
  have hm : m ≠ 0:=fun e=>by subst e; simp [zD3] at hk
  rw [zDP hm,zMu] at hk
  by_cases h2 : m / 4294967296 = 0
  ·rw [h2,zD3] at hk
   have : k = 0:=by simpa using hk.symm
   subst this
   rw [Nat.pow_zero,Nat.div_one,zPC tO]; omega
  ·have h3 : (wds (m / 4294967296)).length ≠ 0:=by rw [zDP h2]; simp
   obtain ⟨j,rfl⟩ : ∃ j,k = j + 1:=⟨k - 1,by omega⟩
   have h4:=ih (m / 4294967296) tO j tO
   have h5:=bits_shift 32 m (by simpa using h2)
   have e : (2 : Nat) ^ 32 = 4294967296:=by decide
   rw [e] at h5
   rw [h5,h4,zO1,zNu,zOR 4294967296]
   omega
theorem tz_exists : ∀ m : Nat,m ≠ 0 → ∃ n,m % 2 ^ n = 0 ∧ m / 2 ^ n % 2 = 1:=by
 intro m
 induction m using Nat.strongRecOn with
 | ind m ih=>
  intro h
  by_cases ho : m % 2 = 1
  ·exact ⟨0,by simp [Nat.mod_one],by simpa using ho⟩
  ·obtain ⟨n,h1,h2⟩:=ih (m / 2) tO tO
   refine ⟨n + 1, ?_, ?_⟩
   ·rw [zNu,zOR,Nat.mod_mul,h1]; omega
   ·rw [zNu,zOR,← Nat.div_div_eq_div_mul]; exact h2
theorem tz_low {m n k : Nat} (h : m % 2 ^ n = 0) (hk : k < n) : m / 2 ^ k % 2 = 0:=by
 obtain ⟨c,rfl⟩:=Nat.dvd_of_mod_eq_zero h
 obtain ⟨j,rfl⟩ : ∃ j,n = k + (j + 1):=⟨n - k - 1,by omega⟩
 rw [Nat.pow_add,zOe,Nat.mul_div_cancel_left _ (Nat.two_pow_pos k),zNu,zOR (2 ^ j) 2,zOe,Nat.mul_mod_right]
theorem tz_63 {m : Nat} (h : m < 18446744073709551616) (h1 : m % 2 ^ 63 = 0) (h2 : m / 2 ^ 63 % 2 = 1) : m = 9223372036854775808:=by
 have e : (2 : Nat) ^ 63 = 9223372036854775808:=by decide
 rw [e] at h1 h2
 omega
theorem shrN (w r : Nat) (h : r ≤ 32) : zB5 .shr .u32 (w : Int) (r : Int) = some (.int .u32 ((w / 2 ^ r : Nat) : Int)):=by
 simp only [zB5]
 rw [zMq tO]
 have e : Nat.min (r : Int).toNat IntKind.u32.bits = r:=by
  rw [zN8]; exact zOn h
 have e2 : ((2 : Int) ^ r) = ((2 ^ r : Nat) : Int):=by simp
 rw [e,e2,zOs _ (zPr _)]
 rfl
theorem shr1w (w : Nat) : zB5 .shr .u32 (w : Int) 1 = some (.int .u32 ((w / 2 : Nat) : Int)):=by
 have:=shrN w 1 tO; simpa using this
theorem and1 (a : Nat) (h : a < 18446744073709551616) : zIA .and .u64 (a : Int) 1 = some (.int .u64 ((a % 2 : Nat) : Int)):=by
 simp only [zIA]
 have e : (BitVec.ofInt IntKind.u64.bits (a : Int) &&& BitVec.ofInt IntKind.u64.bits 1).toNat = a % 2:=by
  rw [BitVec.toNat_and]
  have h1 : (BitVec.ofInt IntKind.u64.bits (a : Int)).toNat = a:=by
   show (BitVec.ofInt 64 (a : Int)).toNat = a
   rw [BitVec.toNat_ofInt]
   have : ((a : Int) % ((2 ^ 64 : Nat) : Int)) = (a : Int):=by rw [Int.emod_eq_of_lt tO (by simp; omega)]
   rw [this,zN8]
  have h2 : (BitVec.ofInt IntKind.u64.bits 1).toNat = 1:=by decide
  rw [h1,h2,Nat.and_one_is_mod]
 rw [e,IntKind.wrap_u64]
 have : ((a % 2 : Nat) : Int) % 18446744073709551616 = ((a % 2 : Nat) : Int):=by omega
 rw [this]
theorem shl32 (a : Nat) (h : a < 4294967296) : zB5 .shl .u64 (a : Int) 32 = some (.int .u64 ((a * 4294967296 : Nat) : Int)):=by
 simp only [zB5]
 rw [zMq tO]
 have : (2 : Int) ^ Nat.min (32 : Int).toNat IntKind.u64.bits = 4294967296:=by rfl
 rw [this,IntKind.wrap_u64]
 have : ((a : Int) * 4294967296) % 18446744073709551616 = ((a * 4294967296 : Nat) : Int):=by omega
 rw [this]
theorem or32 (a b : Nat) (ha : a < 4294967296) (hb : b < 4294967296) : zIA .or .u64 (a : Int) ((b * 4294967296 : Nat) : Int) = some (.int .u64 ((a + 4294967296 * b : Nat) : Int)):=by
 simp only [zIA]
 have of (x : Nat) (hx : x < 18446744073709551616) : (BitVec.ofInt IntKind.u64.bits (x : Int)).toNat = x:=by
  show (BitVec.ofInt 64 (x : Int)).toNat = x
  rw [BitVec.toNat_ofInt]
  have : ((x : Int) % ((2 ^ 64 : Nat) : Int)) = (x : Int):=by rw [Int.emod_eq_of_lt tO (by simp; omega)]
  rw [this,zN8]
 have e : (BitVec.ofInt IntKind.u64.bits (a : Int) ||| BitVec.ofInt IntKind.u64.bits ((b * 4294967296 : Nat) : Int)).toNat = a + 4294967296 * b:=by
  rw [BitVec.toNat_or,of a tO,of _ tO,Nat.or_comm,zOR b]
  have:=Nat.two_pow_add_eq_or_of_lt (i:=32) (b:=a) (by simpa using ha) b
  have e32 : (2 : Nat) ^ 32 = 4294967296:=by decide
  rw [e32] at this
  rw [← this]; omega
 rw [e,IntKind.wrap_u64]
 have : ((a + 4294967296 * b : Nat) : Int) % 18446744073709551616 = ((a + 4294967296 * b : Nat) : Int):=by omega
 rw [this]
theorem sRetB {F : AF} {H H1 : Heap} {fr : Fr} {v : AV} {b : Nat} {cs : List AV} (hH : H1 = H.set b (.box cs)) (hk : F.keep = false) (hr : (zBo fr H1 F.results).map tupled = some v) (hf : zDJ H.length v H1 = some (v,H1)) (hb : v.bel H.length = true) (hc : zFg H.length (.box cs) = true) :
  retP F H fr H1 v (H.set b (.box cs)):=by
 refine sRet ?_
 unfold zGo
 cases hs : zBo fr H1 F.results with
 | none=>rw [hs] at hr; cases hr
 | some vs=>
  rw [hs] at hr
  simp only [zM9,zMp] at hr
  subst hr
  simp only [hk,hf,zM1,zNN]
  subst hH
  refine ⟨hb,fun c hc'=>?_,trivial, ?_⟩
  ·by_cases e : b = c
   ·subst e
    exact .inr ⟨_,zNB hc',hc⟩
   ·exact .inl (zNE e)
  ·rw [zNK (by rw [zM5]; omega)]
theorem sRetK {F : AF} {H H1 : Heap} {fr : Fr} {v : AV} (hk : F.keep = true) (hr : (zBo fr H1 F.results).map tupled = some v) : retP F H fr H1 v H1:=by
 refine sRet ?_
 unfold zGo
 cases hs : zBo fr H1 F.results with
 | none=>rw [hs] at hr; cases hr
 | some vs=>
  rw [hs] at hr
  simp only [zM9,zMp] at hr
  subst hr
  simp only [hk,zNP]
  exact ⟨trivial,trivial⟩
section
variable {C : CSpec} {GT : Nat → Option AV}
theorem bit_ev (av : AV) (m i : Nat) (H : Heap) (ha : Mag av m) (hl : (wds m).length ≤ 100000) (hi : i ≤ 1000000) : EFun C GT zFI [av,zJ i] H (u64V (m / 2 ^ i % 2)) H:=by
 obtain ⟨r,hr⟩ : ∃ r,m / 2 ^ i % 2 = r:=⟨_,rfl⟩
 have hd : (i : Int).tdiv 32 = ((i / 32 : Nat) : Int):=(Int.ofNat_tdiv i 32).symm
 rw [hr]
 refine za ?_; refine zF <| zGI (by decide) <| zN (r:=i / 32) hd tO <| zAz (wds m).length ha (by simp) <| zF ?_; refine zD8 (fun h=>?_) (fun h=>?_)
 ·have h : (wds m).length ≤ i / 32:=by have:=zNc h; omega
  rw [bit_high h] at hr
  subst hr
  exact sRr
 ·have h : i / 32 < (wds m).length:=by have:=zNd h; omega
  have hg:=zJo h
  have hw:=zBy m _ (zNy h)
  have he:=wds_get m (i / 32) h
  rw [zMr h] at he
  have he:=zNH he
  have hb:=bit_of_word m i
  rw [← he,hr] at hb
  generalize (wds m)[i / 32] = w at *
  have hw2 : w / 2 ^ (i % 32) ≤ w:=Nat.div_le_self _ _
  have hm : (i : Int).tmod 32 = ((i % 32 : Nat) : Int):=(Int.ofNat_tmod i 32).symm
  subst hb
  refine zGI (by decide) <| zN (r:=i / 32) hd tO <| zBP (i / 32) (zBa w) ha rfl hg <| zi (zBa w) rfl <| zDX (r:=i) rfl tO <| zGI (by decide) ?_; refine sVal (r:=((i % 32 : Nat) : Int)) hm <| zl (shrN w (i % 32) tO) <| zDX (r:=w / 2 ^ (i % 32)) rfl tO <| zl (and1 (w / 2 ^ (i % 32)) tO) ?_
  exact sRr
theorem tzb_ev (hB : ∀ (av : AV) (m i : Nat) (H : Heap),Mag av m → (wds m).length ≤ 100000 → i ≤ 1000000 → C zCc [av,zJ i] H (u64V (m / 2 ^ i % 2)) H) (b m n : Nat) (x av : AV) (H : Heap) (hb : H[b]? = some (.box [x,av])) (ha : Mag av m) (h0 : m ≠ 0) (hl : (wds m).length ≤ 100) (hn : n ≤ 10000) (h1 : m % 2 ^ n = 0) (h2 : m / 2 ^ n % 2 = 1) :
  EFun C GT zBX [.ref b 0 0 0] H (u64V n) H:=by
 have hlz : (wds m).length ≠ 0:=by rw [zDP h0]; simp
 refine za ?_; refine zC (av) hb rfl <| zAz (wds m).length ha (by simp) ?_; refine zD8 (fun h=>absurd (eq_of_beq h) tO) (fun _=>?_)
 refine zBM (fun k : Nat=>[(3,u64V k),(0,.ref b 0 0 0)]) (fun k H'=>H' = H ∧ k ≤ n) (fun k=>n - k) 0 rfl ⟨rfl,zNl _⟩ (fun k H1 ⟨e,hk⟩=>?_)
 subst e
 dsimp only
 have hbk:=hB av m k H1 ha tO tO
 by_cases hkn : k = n
 ·subst hkn
  rw [h2] at hbk
  refine zC (av) hb rfl <| zN (r:=k) rfl tO <| zI (hbk) <| zF ?_
  exact sRr
 ·rw [tz_low h1 (by omega : k < n)] at hbk
  refine zC (av) hb rfl <| zN (r:=k) rfl tO <| zI (hbk) <| zG <| zDX (r:=k + 1) rfl tO ?_
  exact zAC (k + 1) rfl ⟨rfl,by omega⟩ tO
structure SLe where
 t : Nat
 n : Nat
theorem length_ev (av : AV) (m : Nat) (H : Heap) (ha : Mag av m) (hl : (wds m).length ≤ 1000) : EFun C GT zEB [av] H (zK (bits m)) H:=by
 obtain ⟨r,hr⟩ : ∃ r,bits m = r:=⟨_,rfl⟩
 rw [hr]
 refine za ?_; refine zAz (wds m).length ha (by simp) ?_; refine zD8 (fun h=>?_) (fun h=>?_)
 ·have h : (wds m).length = 0:=by have:=eq_of_beq h; omega
  have h0 : m = 0:=by
   by_cases e : m = 0
   ·exact e
   ·rw [zDP e] at h; simp at h
  subst h0
  subst hr
  exact sRr
 ·have h : (wds m).length ≠ 0:=fun e=>by rw [e] at h; exact absurd h (by simp)
  obtain ⟨k,hk⟩ : ∃ k,(wds m).length = k + 1:=⟨(wds m).length - 1,by omega⟩
  have hlt : k < (wds m).length:=by omega
  have hg:=zJo hlt
  have he:=wds_get m k hlt
  rw [zMr hlt] at he
  have he:=zNH he
  have ht:=bits_top m k hk
  rw [← he,hr] at ht
  have hw:=zBy m _ (zNy hlt)
  generalize (wds m)[k] = w at *
  have hbw : bits w ≤ 32:=(bits_le 32 w).2 hw
  refine zAz (k + 1) ha (by simp [hk]) <| zN (r:=k) tO tO <| zBP k (zBa w) ha rfl hg <| zi (zBa w) rfl ?_; refine zBM (fun s : SLe=>[(4,zBa s.t),(3,zK s.n),(0,av)]) (fun s H'=>H' = H ∧ s.n + bits s.t = bits w) (fun s=>s.t) ⟨w,0⟩ rfl ⟨rfl,by simp⟩ (fun ⟨t,n⟩ H1 ⟨e,hn⟩=>?_)
  subst e
  simp only at hn
  dsimp only
  refine zD8 (fun hc=>?_) (fun hc=>?_)
  ·have hc : t ≠ 0:=fun e=>by rw [e] at hc; exact absurd hc (by simp)
   rw [zLQ hc] at hn
   refine zN (r:=n + 1) rfl tO <| zl (shr1w t) ?_
   exact zAC (SLe.mk (t / 2) (n + 1)) rfl ⟨rfl,by simp only; omega⟩ (by simp only; omega)
  ·have hc : t = 0:=by simp only [zNQ] at hc; omega
   subst hc
   have hz : bits 0 = 0:=rfl
   rw [hz] at hn
   have hn' : n = bits w:=by omega
   subst hn'
   subst ht
   refine zAz (k + 1) ha (by simp [hk]) <| zN (r:=k) tO tO <| zN (r:=k * 32) tO tO <| zN (r:=k * 32 + bits w) tO tO ?_
   exact sRr
theorem uint64_ev (b m : Nat) (x av : AV) (H : Heap) (hb : H[b]? = some (.box [x,av])) (ha : Mag av m) (hm : m < 18446744073709551616) : EFun C GT zCx [.ref b 0 0 0] H (u64V m) H:=by
 refine za ?_
 by_cases h0 : m = 0
 ·subst h0
  refine zC (av) hb rfl <| zAz 0 ha rfl <| zF <| zC (av) hb rfl <| zAz 0 ha rfl <| zF ?_
  exact sRr
 have hw : wds m = (m % 4294967296) :: wds (m / 4294967296):=zDP h0
 by_cases h1 : m / 4294967296 = 0
 ·rw [h1,zD3] at hw
  have hm' : m % 4294967296 = m:=by omega
  rw [hm'] at hw
  have ha' : zBI av 1 [zBa m]:=by unfold Mag at ha; rw [hw] at ha; exact ha
  refine zC (av) hb rfl <| zAz 1 ha' rfl <| zG <| zC (av) hb rfl <| zBP 0 (zBa m) ha' rfl rfl <| zi (zBa m) rfl ?_; refine zDX (r:=m) rfl tO <| zC (av) hb rfl <| zAz 1 ha' rfl <| zF ?_
  exact sRr
 ·have hw2 : wds (m / 4294967296) = [m / 4294967296]:=by
   rw [zDP h1]
   have e1 : m / 4294967296 / 4294967296 = 0:=by omega
   have e2 : m / 4294967296 % 4294967296 = m / 4294967296:=by omega
   rw [e1,e2,zD3]
  rw [hw2] at hw
  have ha' : zBI av 1 [zBa (m % 4294967296),zBa (m / 4294967296)]:=by unfold Mag at ha; rw [hw] at ha; exact ha
  have e : m % 4294967296 + 4294967296 * (m / 4294967296) = m:=by omega
  have hor:=or32 (m % 4294967296) (m / 4294967296) tO tO
  rw [e] at hor
  refine zC (av) hb rfl <| zAz 2 ha' rfl <| zG <| zC (av) hb rfl <| zBP 0 (zBa (m % 4294967296)) ha' rfl rfl <| zi (zBa (m % 4294967296)) rfl ?_; refine zDX (r:=m % 4294967296) rfl tO <| zC (av) hb rfl <| zAz 2 ha' rfl <| zG <| zC (av) hb rfl <| zBP 1 (zBa (m / 4294967296)) ha' rfl rfl ?_; refine zi (zBa (m / 4294967296)) rfl <| zDX (r:=m / 4294967296) rfl tO <| zl (shl32 (m / 4294967296) tO) <| zl hor ?_
  exact sRr
theorem int64_ev (hU : ∀ b m x av H,H[b]? = some (.box [x,av]) → Mag av m → m < 18446744073709551616 → C zA3 [.ref b 0 0 0] H (u64V m) H) (b : Nat) (v : Int) (H : Heap) (hb : H[b]? = some (.box (zGF v))) (hv : zDZ v) :
  EFun C GT zC7 [.ref b 0 0 0] H (zJ v) H:=by
 unfold zDZ at hv
 have hu:=hU b v.natAbs _ _ H hb (zHc _) tO
 unfold zGF at hb
 refine za ?_
 by_cases hn : v < 0
 ·rw [zNM hn] at hb
  have e : aUn .neg (.int .i64 (if v = -9223372036854775808 then v else -v)) = some (zJ v):=by
   simp only [aUn]
   rw [IntKind.wrap_i64]
   by_cases h : v = -9223372036854775808
   ·subst h; rfl
   ·rw [zMq h]
    have : (0 - -v + 9223372036854775808) % 18446744073709551616 - 9223372036854775808 = v:=by omega
    rw [this]; rfl
  refine zI (hu) <| sVal (r:=if v = -9223372036854775808 then v else -v) (by rw [IntKind.wrap_i64]; split <;> omega) <| zC (AV.bool true) hb rfl <| zG <| zl e ?_
  exact sRr
 ·rw [zNV hn] at hb
  refine zI (hu) <| sVal (r:=v) (by rw [IntKind.wrap_i64]; omega) <| zC (AV.bool false) hb rfl <| zF ?_
  exact sRr
theorem isInt64_ev (hL : ∀ av m H,Mag av m → (wds m).length ≤ 1000 → C zBs [av] H (zK (bits m)) H)
  (hT : ∀ b m n x av H,H[b]? = some (.box [x,av]) → Mag av m → m ≠ 0 → (wds m).length ≤ 100 → n ≤ 10000 → m % 2 ^ n = 0 → m / 2 ^ n % 2 = 1 → C zAN [.ref b 0 0 0] H (u64V n) H)
  (b : Nat) (v : Int) (H : Heap) (hb : H[b]? = some (.box (zGF v))) (hv : (wds v.natAbs).length ≤ 100) : EFun C GT zCp [.ref b 0 0 0] H (.bool (decide (zDZ v))) H:=by
 obtain ⟨r,hr⟩ : ∃ r,decide (zDZ v) = r:=⟨_,rfl⟩
 rw [hr]
 have hl:=hL (zEY v.natAbs) v.natAbs H (zHc _) tO
 have b63:=bits_le 63 v.natAbs
 have b64:=bits_le 64 v.natAbs
 have e63 : (2 : Nat) ^ 63 = 9223372036854775808:=by decide
 have e64 : (2 : Nat) ^ 64 = 18446744073709551616:=by decide
 rw [e63] at b63
 rw [e64] at b64
 have hb2 : H[b]? = some (.box [.bool (decide (v < 0)),zEY v.natAbs]):=hb
 clear hb
 refine za ?_; refine zC (zEY v.natAbs) hb2 rfl <| zI (hl) ?_
 generalize bits v.natAbs = L at *
 refine zD8 (fun h=>?_) (fun h=>?_)
 ·have h : L ≤ 63:=by have:=zNc h; omega
  have : zDZ v:=by unfold zDZ; have:=b63.1 h; omega
  rw [zNM this] at hr
  subst hr
  refine zG ?_
  exact sRr
 ·have h : ¬ L ≤ 63:=by have:=zNd h; omega
  have hbig : ¬ v.natAbs < 9223372036854775808:=fun h'=>h (b63.2 h')
  refine zD8 (fun h64=>?_) (fun h64=>?_)
  ·have h64 : L ≤ 64:=by have:=eq_of_beq h64; omega
   have hlt:=b64.1 h64
   by_cases hn : v < 0
   ·rw [zNM hn] at hb2
    obtain ⟨n,t1,t2⟩:=tz_exists v.natAbs tO
    have hn64 : n < 64:=by
     rcases zOS n 64 with h | h
     ·exact h
     ·have h1 : 2 ^ 64 ≤ 2 ^ n:=zN2 tO h
      rw [e64] at h1
      rw [zPC tO] at t1
      omega
    have ht:=hT b v.natAbs n _ _ H hb2 (zHc _) tO hv tO t1 t2
    by_cases h63 : n = 63
    ·subst h63
     have:=tz_63 hlt t1 t2
     have hin : zDZ v:=by unfold zDZ; omega
     rw [zNM hin] at hr
     subst hr
     refine zC (AV.bool true) hb2 rfl <| zG <| zG <| zI (ht) <| zG <| zF ?_
     exact sRr
    ·have hin : ¬ zDZ v:=fun hin=>by
      unfold zDZ at hin
      have e : v.natAbs = 2 ^ 63:=by rw [e63]; omega
      rw [e] at t1 t2
      rcases Nat.lt_or_gt_of_ne h63 with h | h
      ·have:=tz_low (m:=2 ^ 63) (n:=63) (k:=n) (Nat.mod_self _) h
       omega
      ·have h1 : (2 : Nat) ^ 63 < 2 ^ n:=Nat.pow_lt_pow_right tO h
       rw [zPC h1] at t1
       omega
     have hne : ((n : Int) == 63) = false:=by rw [zPk]; omega
     rw [zNV hin] at hr
     subst hr
     refine zC (AV.bool true) hb2 rfl <| zG <| zG <| zI (ht) <| zG <| zF ?_
     exact sRetE (zNF AV.bool hne.symm) rfl rfl rfl rfl (Old.refl _)
   ·rw [zNV hn] at hb2
    have hin : ¬ zDZ v:=fun hin=>by unfold zDZ at hin; omega
    rw [zNV hin] at hr
    subst hr
    refine zC (AV.bool false) hb2 rfl <| zG <| zF <| zF <| zF ?_
    exact sRr
  ·have h64 : ¬ L ≤ 64:=fun h'=>by
    have : L = 64:=by omega
    rw [this] at h64
    exact absurd h64 (by simp)
   have hgt : ¬ v.natAbs < 18446744073709551616:=fun h'=>h64 (b64.2 h')
   have hin : ¬ zDZ v:=fun hin=>by unfold zDZ at hin; omega
   rw [zNV hin] at hr
   subst hr
   refine zF <| zF <| zF <| zF ?_
   exact sRr
theorem give_ev (b n : Nat) (neg : Bool) (x0 x1 : AV) (H : Heap) (hb : H[b]? = some (.box [x0,x1])) : EFun C GT zCE [.ref b 0 0 0,.bool neg,zEY n] H (.ref b 0 0 0) (H.set b (.box [.bool (neg && decide (0 < n)),zEY n])):=by
 have hbl : b < H.length:=(zg hb).1
 have hz : ((wds n).length > 0) ↔ 0 < n:=by
  by_cases e : n = 0
  ·subst e; simp [zD3]
  ·rw [zDP e]; simp; omega
 have hd : decide (((wds n).length : Int) > 0) = decide (0 < n):=by
  rw [zPK,zOT,zOT,← hz]; omega
 refine za ?_
 cases neg
 ·refine zH (v:=zEY n) [x0,zEY n] hb rfl rfl rfl rfl <| zF <| zF <| zH (v:=AV.bool false) [AV.bool false,zEY n] (zE hb) rfl rfl rfl rfl ?_
  exact sRetB (by rw [zOd]; rfl) rfl rfl rfl (zNM hbl) rfl
 ·refine zH (v:=zEY n) [x0,zEY n] hb rfl rfl rfl rfl <| zG <| zAz (wds n).length (zHc n) (by simp) <| zG <| zH (v:=.bool (decide (((wds n).length : Int) > 0))) [.bool (decide (((wds n).length : Int) > 0)),zEY n] (zE hb) rfl rfl rfl rfl ?_
  exact sRetB (by rw [zOd,hd]; rfl) rfl rfl rfl (zNM hbl) rfl
theorem setInt64_ev (hW : ∀ x H,x < 18446744073709551616 → C zB6 [u64V x] H (zEY x) H) (hG : ∀ b n neg x0 x1 H,H[b]? = some (.box [x0,x1]) → C zu [.ref b 0 0 0,.bool neg,zEY n] H (.ref b 0 0 0) (H.set b (.box [.bool (neg && decide (0 < n)),zEY n])))
  (b : Nat) (v : Int) (x0 x1 : AV) (H : Heap) (hb : H[b]? = some (.box [x0,x1])) (hv : zDZ v) : EFun C GT zCd [.ref b 0 0 0,zJ v] H (.ref b 0 0 0) (H.set b (.box (zGF v))):=by
 have hbl : b < H.length:=(zg hb).1
 unfold zDZ at hv
 have hw:=hW v.natAbs H tO
 have hg:=hG b v.natAbs (decide (v < 0)) x0 x1 H hb
 have e0 : (decide (v < 0) && decide (0 < v.natAbs)) = decide (v < 0):=by
  by_cases h : v < 0
  ·rw [zNM h,tT (by omega : 0 < v.natAbs)]; rfl
  ·rw [zNV h]; rfl
 rw [e0] at hg
 refine za ?_
 by_cases hn : v < 0
 ·have e : aUn .neg (.int .u64 (18446744073709551616 + v)) = some (u64V v.natAbs):=by
   simp only [aUn]
   rw [IntKind.wrap_u64]
   have : (0 - (18446744073709551616 + v)) % 18446744073709551616 = (v.natAbs : Int):=by omega
   rw [this]; rfl
  refine sVal (r:=18446744073709551616 + v) (by rw [IntKind.wrap_u64]; omega) ?_; refine zD8 (fun _=>?_) (fun h=>absurd hn (zNd h))
  refine zl e <| zI (hw) <| zAZ hg (fun h=>by cases h) ?_
  exact sRetB rfl rfl rfl rfl (zNM hbl) rfl
 ·refine sVal (r:=(v.natAbs : Int)) (by rw [IntKind.wrap_u64]; omega) ?_; refine zD8 (fun h=>absurd (zNc h) hn) (fun _=>?_)
  refine zI (hw) <| zAZ hg (fun h=>by cases h) ?_
  exact sRetB rfl rfl rfl rfl (zNM hbl) rfl
def a_bigNew : AF:={ zHQ with keep:=true }
theorem newInt_ev (hS : ∀ b v x0 x1 H,H[b]? = some (.box [x0,x1]) → zDZ v → C zAn [.ref b 0 0 0,zJ v] H (.ref b 0 0 0) (H.set b (.box (zGF v)))) (v : Int) (H : Heap) (hv : zDZ v) :
  EFun C GT a_bigNew [zJ v] H (.ref H.length 0 0 0) (H ++ [.box (zGF v)]):=by
 have hs:=hS H.length v (.bool false) (.lst (some true) 0 []) (H ++ [.box zV8]) zB hv
 have e : (H ++ [ABlk.box zV8]).set H.length (.box (zGF v)) = H ++ [.box (zGF v)]:=by
  rw [zOo _ _ (zMv _),Nat.sub_self]; rfl
 rw [e] at hs
 refine za ?_; refine zAZ hs (fun h=>by cases h) ?_
 exact sRetK rfl rfl
theorem fits_ev (hI : ∀ b v H,H[b]? = some (.box (zGF v)) → (wds v.natAbs).length ≤ 100 → C zAv [.ref b 0 0 0] H (.bool (decide (zDZ v))) H) (b : Nat) (v : Int) (H : Heap) (hb : H[b]? = some (.box (zGF v))) (hv : (wds v.natAbs).length ≤ 100) :
  EFun C GT zIJ [.ref b 0 0 0] H (.bool (decide (zDZ v))) H:=by
 have h:=hI b v H hb hv
 refine za ?_; refine zI (h) ?_
 exact sRr
theorem wds_fit {n k : Nat} (h : n < 4294967296 ^ k) : (wds n).length ≤ k:=by
 rcases zOS k (wds n).length with h2 | h2
 ·have hn : n ≠ 0:=fun e=>by subst e; simp [zD3] at h2
  have h3:=wds_ge n hn
  have h4 : 4294967296 ^ k ≤ 4294967296 ^ ((wds n).length - 1):=zN2 tO tO
  omega
 ·exact h2
end
end Go.AM
set_option maxRecDepth 20000
namespace Go.AM
def mulV (v : Nat) : AV:=if v = 0 then .lst (some true) 0 [] else zEY (v * 10)
theorem mulV_mag (v : Nat) : Mag (mulV v) (v * 10):=by
 unfold mulV
 by_cases h : v = 0
 ·rw [zMt h]; subst h; exact ⟨some true,0,rfl,.inr rfl⟩
 ·rw [zMq h]; exact zHc _
theorem wds_ten : wds 10 = [10]:=by rw [zDP (by decide)]; rfl
theorem set_pad2 (ds : List Nat) (c m d e : Nat) : ((((ds ++ c :: List.replicate (m + 1) 0).map zBa).set ds.length (zBa d)).set (ds.length + 1) (zBa e)) = ((ds ++ [d]) ++ e :: List.replicate m 0).map zBa:=by
 rw [← List.map_set,← List.map_set,zOo _ _ (zMv _),Nat.sub_self,zOo _ _ tO,zOh]
 simp [zPH]
theorem get_pad1 (ds : List Nat) (c : Nat) (zs : List Nat) : ((ds ++ c :: zs).map zBa)[ds.length]? = some (zBa c):=by
 rw [zM2,zM6 (zMv _),Nat.sub_self]; rfl
theorem get_pad2 (ds : List Nat) (c m d : Nat) : (((ds ++ c :: List.replicate (m + 1) 0).map zBa).set ds.length (zBa d))[ds.length + 1]? = some (zBa 0):=by
 rw [zNE tO,zM2,zM6 tO,zOh]; rfl
structure SMu where
 i : Nat
 c : Nat
 ds : List Nat
structure SMj where
 j : Nat
 c : Nat
section
variable {C : CSpec} {GT : Nat → Option AV}
theorem mul10_ev (hT : ∀ b m ws H,ws.length = m → H[b]? = some (.row 1 (ws.map zBa)) → Small ws → m ≤ 1000000 → C z8 [.sl (some false) b 1 0 m] H (.sl (some false) b 1 0 (wds (wval ws)).length) H)
  (av : AV) (x n : Nat) (H : Heap) (ha : Mag av x) (hn : (wds x).length = n) (hl : n ≤ 100000) : EFun C GT zFD [av,zEY 10] H (mulV x) H:=by
 have hal : ((wds x).map zBa).length = n:=by rw [zMx,hn]
 have hb : zBI (zEY 10) 1 [zBa 10]:=by have:=zHc 10; unfold Mag at this; rw [wds_ten] at this; exact this
 refine za ?_
 unfold mulV
 by_cases h0 : x = 0
 ·subst h0
  have hn0 : n = 0:=by rw [← hn]; rfl
  rw [zMt rfl]
  refine zAz n ha hal ?_; refine zc tE <| zG <| zG ?_
  exact sRr
 rw [zMq h0]
 have hn1 : n ≠ 0:=by rw [← hn,zDP h0]; simp
 refine zAz n ha hal ?_; refine zW tN ?_; refine zAz 1 hb rfl ?_; refine zF <| zW tN ?_; refine zAz n ha hal ?_; refine zAz 1 hb rfl ?_; refine zN (r:=n + 1) rfl tO ?_; refine sMake (n:=n + 1) rfl (Int.le_refl _) ⟨by omega,by omega⟩ rfl ?_; refine zBM (fun s : SMu=>[(6,zK s.i),(5,.sl (some false) H.length 1 0 (n + 1)),(1,zEY 10),(0,av)])
  (fun s H'=>Old H H' ∧ s.ds.length = s.i ∧ s.i ≤ n ∧ Small s.ds ∧ s.c ≤ 10 ∧ H'[H.length]? = some (.row 1 ((s.ds ++ s.c :: List.replicate (n - s.i) 0).map zBa)) ∧ wval s.ds + 4294967296 ^ s.i * s.c = wval ((wds x).take s.i) * 10) (fun s=>n - s.i) ⟨0,0,[]⟩ rfl
  ⟨(Old.refl _).push _,rfl,zNl _,(fun w hw=>by cases hw),by simp only; omega,by rw [zNn,zPi,← List.replicate_succ,zPP]; exact zB,rfl⟩ (fun ⟨i,c,ds⟩ H1 ⟨hO,hd,hi,hsm,hc,hrow,hval⟩=>?_)
 simp only at hd hi hsm hc hrow hval
 dsimp only
 refine zAz n ha hal ?_; refine zD8 (fun h=>?_) (fun h=>?_)
 ·have h : i < n:=by have:=zNc h; omega
  have hx : i < (wds x).length:=by omega
  have hax:=zJo hx
  have htx:=zDC hx
  have hsx:=zBy x _ (zNy hx)
  obtain ⟨a,had⟩ : ∃ a,(wds x)[i] = a:=⟨_,rfl⟩
  rw [had] at hax htx hsx
  obtain ⟨m,hm⟩ : ∃ m,n - i = m + 1:=⟨n - i - 1,by omega⟩
  rw [hm] at hrow
  have hg1:=get_pad1 ds c (List.replicate (m + 1) 0)
  have hg2:=fun d=>get_pad2 ds c m d
  have hset:=fun d e=>set_pad2 ds c m d e
  rw [hd] at hg1 hg2 hset
  have hsz : H1.length > H.length:=(zg hrow).1
  refine zBM (fun s : SMj=>[(8,zK s.j),(6,zK i),(5,.sl (some false) H.length 1 0 (n + 1)),(1,zEY 10),(0,av),(7,u64V s.c)])
   (fun s H'=>(s.j = 0 ∧ s.c = 0 ∧ H' = H1) ∨ (s.j = 1 ∧ s.c = (a * 10 + c) / 4294967296 ∧ H' = H1.set H.length (.row 1 (((ds ++ c :: List.replicate (m + 1) 0).map zBa).set i (zBa ((a * 10 + c) % 4294967296)))))) (fun s=>1 - s.j) ⟨0,0⟩ rfl (.inl ⟨rfl,rfl,rfl⟩) (fun ⟨j,c2⟩ H2 hj=>?_)
  dsimp only at hj ⊢
  rcases hj with ⟨rfl,rfl,rfl⟩ | ⟨rfl,rfl,rfl⟩
  ·refine zAz 1 hb rfl ?_; refine zc (tT (by decide)) ?_; refine zBP i (zBa a) ha rfl hax ?_; refine zi (zBa a) rfl ?_; refine zDX (r:=a) rfl tO ?_; refine zBP 0 (zBa 10) hb rfl rfl ?_; refine zi (zBa 10) rfl ?_; refine zDX (r:=10) rfl tO ?_; refine zDX (r:=a * 10) rfl tO ?_; refine zN (r:=i) tO tO ?_; refine sAt ⟨by omega,by omega⟩ ?_; refine zBJ i (zBa c) (zBa c) tO hrow hg1 rfl ?_; refine zDX (r:=c) rfl tO ?_
   refine zDX (r:=a * 10 + c) rfl tO ?_; refine zDX (r:=a * 10 + c) tO tO ?_; refine zN (r:=i) tO tO ?_; refine sWu32 ((a * 10 + c) % 4294967296) tO ?_; refine sAt ⟨by omega,by omega⟩ ?_; refine zLv i (zBa ((a * 10 + c) % 4294967296)) tO hrow hg1 rfl (by decide) rfl (fun cs h=>by cases h) ?_; refine zl (shr32 (a * 10 + c)) ?_; refine zN (r:=1) tO tO ?_; refine zAC (SMj.mk 1 ((a * 10 + c) / 4294967296)) rfl (.inr ⟨rfl,rfl,rfl⟩) (by simp)
  ·have hrow2 : (H1.set H.length (.row 1 (((ds ++ c :: List.replicate (m + 1) 0).map zBa).set i (zBa ((a * 10 + c) % 4294967296)))))[H.length]? = some (.row 1 (((ds ++ c :: List.replicate (m + 1) 0).map zBa).set i (zBa ((a * 10 + c) % 4294967296)))):=zE hrow
   refine zAz 1 hb rfl ?_; refine zW (tF (by decide)) ?_; refine zAz 1 hb rfl ?_; refine zN (r:=i + 1) rfl tO ?_; refine sWu32 ((a * 10 + c) / 4294967296) tO ?_; refine sAt ⟨by omega,by omega⟩ ?_; refine zLv (i + 1) (zBa ((a * 10 + c) / 4294967296)) tO hrow2 (hg2 _) rfl (by decide) rfl (fun cs h=>by cases h) ?_; refine zN (r:=i + 1) rfl tO ?_; refine zAC (SMu.mk (i + 1) ((a * 10 + c) / 4294967296) (ds ++ [(a * 10 + c) % 4294967296])) rfl ⟨(hO.set (zMv _) _).set (zMv _) _,by simp [hd],by simp only; omega,hsm.snoc tO,by simp only; omega, ?_, ?_⟩ (by simp only; omega)
   ·have : n - (i + 1) = m:=by omega
    simp only [this]
    rw [hset]
    exact zE hrow2
   ·simp only [zDr,hd,htx,zNu]
    have e : (a * 10 + c) % 4294967296 + 4294967296 * ((a * 10 + c) / 4294967296) = a * 10 + c:=by omega
    have e2 : 4294967296 ^ i * ((a * 10 + c) % 4294967296) + 4294967296 ^ i * 4294967296 * ((a * 10 + c) / 4294967296) = 4294967296 ^ i * a * 10 + 4294967296 ^ i * c:=by
     rw [zOe,← Nat.mul_add,e,zPF,zOe]
    rw [zNa]
    omega
 ·have h : i = n:=by have:=zNd h; omega
  subst h
  rw [Nat.sub_self,zPI] at hrow
  rw [zNK tO,zD4,← hd,← zDr] at hval
  have hsm2 : Small (ds ++ [c]):=hsm.snoc tO
  have ht:=hT H.length (i + 1) (ds ++ [c]) _ (by simp [hd]) hrow hsm2 tO
  rw [hval] at ht
  refine zI ht ?_
  exact zIX rfl rfl (frz_mag (zMv _) hrow hsm2 hval) rfl (hO.set (zMv _) _)
theorem give0_ev (b : Nat) (xs : List AV) (nv x0 x1 : AV) (H : Heap) (hb : H[b]? = some (.box [x0,x1])) (hv : zBI nv 1 xs) : EFun C GT zCE [.ref b 0 0 0,.bool false,nv] H (.ref b 0 0 0) (H.set b (.box [.bool false,nv])):=by
 have hbl : b < H.length:=(zg hb).1
 obtain ⟨q,k',rfl,hk⟩:=hv
 refine za ?_; refine zH (v:=AV.lst q k' xs) [x0,AV.lst q k' xs] hb rfl rfl rfl rfl ?_; refine zF <| zF ?_; refine zH (v:=AV.bool false) [AV.bool false,AV.lst q k' xs] (zE hb) rfl rfl rfl rfl ?_
 exact sRetB (zOd ..) rfl rfl rfl (zNM hbl) rfl
theorem bigMul_ev (hM : ∀ av x H,Mag av x → (wds x).length ≤ 100000 → C zCY [av,zEY 10] H (mulV x) H)
  (hG : ∀ b xs nv x0 x1 H,H[b]? = some (.box [x0,x1]) → zBI nv 1 xs → C zu [.ref b 0 0 0,.bool false,nv] H (.ref b 0 0 0) (H.set b (.box [.bool false,nv])))
  (b t v : Nat) (av : AV) (H : Heap) (hb : H[b]? = some (.box [.bool false,av])) (ht : H[t]? = some (.box (zGF 10))) (ha : Mag av v) (hl : (wds v).length ≤ 1000) :
  EFun C GT zDn [.ref b 0 0 0,.ref b 0 0 0,.ref t 0 0 0] H (.ref b 0 0 0) (H.set b (.box [.bool false,mulV v])):=by
 have hbl : b < H.length:=(zg hb).1
 have hm:=hM av v H ha tO
 have hg:=hG b _ (mulV v) _ _ H hb (mulV_mag v)
 clear hM hG
 have ht : H[t]? = some (.box [.bool false,zEY 10]):=ht
 refine za ?_; refine zC (AV.bool false) hb rfl ?_; refine zC (AV.bool (decide (10 < 0))) ht rfl ?_; refine zC (av) hb rfl ?_; refine zC (zEY (Int.natAbs 10)) ht rfl ?_; refine zI hm ?_; refine zAZ hg (fun h=>by cases h) ?_
 exact sRetB rfl rfl rfl rfl (zNM hbl) (by unfold mulV; split <;> rfl)
theorem bigAddM_ev (hS : ∀ av bv xn yn x y H,Mag av x → Mag bv y → (wds x).length ≤ 100000 → (wds y).length ≤ 100000 → C zCZ [.bool xn,av,.bool yn,bv] H (.tup [.bool (sumS xn x yn y).1,zEY (sumS xn x yn y).2]) H)
  (hG : ∀ b n neg x0 x1 H,H[b]? = some (.box [x0,x1]) → C zu [.ref b 0 0 0,.bool neg,zEY n] H (.ref b 0 0 0) (H.set b (.box [.bool (neg && decide (0 < n)),zEY n])))
  (b t v d : Nat) (av : AV) (H : Heap) (hb : H[b]? = some (.box [.bool false,av])) (ht : H[t]? = some (.box (zGF d))) (ha : Mag av v) (hl : (wds v).length ≤ 1000) (hd : (wds d).length ≤ 1000) :
  EFun C GT zDo [.ref b 0 0 0,.ref b 0 0 0,.ref t 0 0 0] H (.ref b 0 0 0) (H.set b (.box (zGF ((v + d : Nat) : Int)))):=by
 have hbl : b < H.length:=(zg hb).1
 have e1 : zGF (d : Int) = [.bool false,zEY d]:=by unfold zGF; rw [tF]; rfl
 have e2 : zGF ((v + d : Nat) : Int) = [.bool false,zEY (v + d)]:=by unfold zGF; rw [tF]; rfl
 have hs:=hS av (zEY d) false false v d H ha (zHc _) tO tO
 have es : sumS false v false d = (false,v + d):=rfl
 rw [es] at hs
 have hg:=hG b (v + d) false (.bool false) av H hb
 rw [e1] at ht
 rw [e2]
 clear hS hG
 refine za ?_; refine zC (AV.bool false) hb rfl ?_; refine zC (av) hb rfl ?_; refine zC (AV.bool false) ht rfl ?_; refine zC (zEY d) ht rfl ?_; refine zI hs ?_; refine zl rfl ?_; refine zl rfl ?_; refine zAZ hg (fun h=>by cases h) ?_
 exact sRetB rfl rfl rfl rfl (zNM hbl) rfl
end
end Go.AM
set_option maxRecDepth 20000
namespace Go.AM
def zKO : Option Int → AV
 | some n=>.tup [zJ n,.bool true]
 | none=>.tup [zJ 0,.bool false]
theorem dec_take {s : Bs} {i : Nat} {c : UInt8} (h : s[i]? = some c) : zDH (s.take (i + 1)) = zDH (s.take i) * 10 + (c.toNat - 48):=by
 rw [List.take_add_one,h]
 exact decV_snoc _ _
theorem all_take {s : Bs} {i : Nat} {c : UInt8} (h : s[i]? = some c) : (s.take (i + 1)).all zH8 = ((s.take i).all zH8 && zH8 c):=by
 rw [List.take_add_one,h,List.all_append]
 simp
theorem bigC_nat (n : Nat) : zGF (n : Int) = [.bool false,zEY n]:=by unfold zGF; rw [tF]; rfl
theorem pow_words2 (k : Nat) : 10 ^ (9 * k) ≤ 4294967296 ^ k:=by
 rw [Nat.pow_mul]; exact Nat.pow_le_pow_left (by decide) k
theorem dec_words {s : Bs} (h : s.all zH8 = true) (hl : s.length ≤ 200) : (wds (zDH s)).length ≤ 23:=by
 refine wds_fit ?_
 have h1:=zMZ s h
 have h2 : 10 ^ s.length ≤ 10 ^ (9 * 23):=zN2 (by decide) tO
 exact zNX h1 (zOI h2 (pow_words2 23))
section
variable {C : CSpec} {GT : Nat → Option AV}
theorem rwhole_ev (hNew : ∀ v H,zDZ v → C zAk [zJ v] H (.ref H.length 0 0 0) (H ++ [.box (zGF v)]))
  (hMul : ∀ b t v av H,H[b]? = some (.box [.bool false,av]) → H[t]? = some (.box (zGF 10)) → Mag av v → (wds v).length ≤ 1000 → C zAt [.ref b 0 0 0,.ref b 0 0 0,.ref t 0 0 0] H (.ref b 0 0 0) (H.set b (.box [.bool false,mulV v])))
  (hAdd : ∀ (b t v d : Nat) (av : AV) (H : Heap),H[b]? = some (.box [.bool false,av]) → H[t]? = some (.box (zGF d)) → Mag av v → (wds v).length ≤ 1000 → (wds d).length ≤ 1000 → C zAu [.ref b 0 0 0,.ref b 0 0 0,.ref t 0 0 0] H (.ref b 0 0 0) (H.set b (.box (zGF ((v + d : Nat) : Int)))))
  (hFit : ∀ b v H,H[b]? = some (.box (zGF v)) → (wds v.natAbs).length ≤ 100 → C zC6 [.ref b 0 0 0] H (.bool (decide (zDZ v))) H)
  (hI : ∀ b v H,H[b]? = some (.box (zGF v)) → zDZ v → C zAe [.ref b 0 0 0] H (zJ v) H)
  (s : Bs) (H : Heap) (hl : s.length ≤ 200) : EFun C GT zCo [.str s,.bool false] H (zKO (zBS s)) H:=by
 refine za ?_
 cases s with
 | nil=>
  clear hNew hMul hAdd hFit hI
  refine zF <| zF <| zF <| zF <| zF <| zG <| zG <| zG ?_
  exact sRr
 | cons c0 r0=>
 have hc0 : (c0 :: r0)[0]? = some c0:=rfl
 have hne : ((c0 :: r0) == ([] : Bs)) = false:=rfl
 obtain ⟨s,hs⟩ : ∃ s,c0 :: r0 = s:=⟨_,rfl⟩
 have hh : s.head? = some c0:=by rw [← hs]; rfl
 have hs0 : s ≠ []:=by rw [← hs]; simp
 have hs1 : 1 ≤ s.length:=by rw [← hs]; simp
 rw [hs] at hc0 hne hl ⊢
 clear hs r0
 by_cases h48 : c0.toNat = 48 ∧ s ≠ [48]
 ·have e : zBS s = none:=by
   unfold zBS
   rw [zMt (.inr ⟨by rw [hh,show c0 = 48 from zND.1 h48.1],h48.2⟩)]
  rw [e]
  clear hNew hMul hAdd hFit hI
  refine zF <| zF <| zF <| zF <| zF <| zW hne ?_; refine zz rfl hc0 <| zc tE <| zG <| zF <| zc (zNf.2 h48.2) ?_
  exact sRr
 have hform : ¬ (s = [] ∨ (s.head? = some 48 ∧ s ≠ [48])):=by
  rintro (h | ⟨h,h'⟩)
  ·exact hs0 h
  ·rw [hh] at h; cases h; exact h48 ⟨rfl,h'⟩
 have main : loopP C GT [8,6,7,0] zFr (zKd 0 [7,0,6] (seqK (EW C GT (AC.rest (AC.rest (AC.rest (AC.rest (AC.rest (AC.rest zHO)))))) (finF zCo H (zKO (zBS s)) H)) (finF zCo H (zKO (zBS s)) H))) [(8,zK 0),(6,.str s),(7,.ref H.length 0 0 0),(0,.str s)] (H ++ [.box zV8]):=by
  have hwp : zBS s = if s.all zH8 = true then (if zDH s ≤ 9223372036854775807 then some (zDH s : Int) else none) else none:=by unfold zBS; rw [zMq hform]
  rw [hwp]
  obtain ⟨r,hr⟩ : ∃ r,(if s.all zH8 = true then (if zDH s ≤ 9223372036854775807 then some (zDH s : Int) else none) else none) = r:=⟨_,rfl⟩
  rw [hr]
  refine zBM (fun i : Nat=>[(8,zK i),(6,.str s),(7,.ref H.length 0 0 0),(0,.str s)])
   (fun i H'=>Old H H' ∧ i ≤ s.length ∧ (s.take i).all zH8 = true ∧ ∃ av,H'[H.length]? = some (.box [.bool false,av]) ∧ Mag av (zDH (s.take i)) ∧ (1 ≤ i → av = zEY (zDH (s.take i))))
   (fun i=>s.length - i) 0 rfl ⟨(Old.refl _).push _,by omega,rfl,_,zB,⟨some true,0,rfl,.inr rfl⟩,fun h=>by omega⟩ (fun i H1 ⟨hO,hi,hd,av,hb,hm,hav⟩=>?_)
  try dsimp only
  have hw:=dec_words hd (by rw [zM8]; omega)
  by_cases hlt : i < s.length
  ·obtain ⟨c,hc⟩ : ∃ c,s[i]? = some c:=⟨_,zMr hlt⟩
   have hdt:=dec_take hc
   have hat:=all_take hc
   have hc256 : c.toNat < 256:=zN9 c
   by_cases hdg : zH8 c = true
   ·have hdg':=hdg
    unfold zH8 at hdg'
    simp only [zMs,zMz] at hdg'
    rw [hd,hdg] at hat
    have hd2 : (wds (c.toNat - 48)).length ≤ 1000:=zOI (wds_fit (k:=1) tO) tO
    have hmw : (wds (zDH (s.take i) * 10)).length ≤ 1000:=by
     have h1:=zMZ (s.take (i + 1)) hat
     refine zOI (wds_fit (k:=23) ?_) tO
     have h2 : 10 ^ (s.take (i + 1)).length ≤ 10 ^ (9 * 23):=zN2 (by decide) (by rw [zM8]; omega)
     have h3:=pow_words2 23
     omega
    have hn10:=hNew 10
    have hnd:=hNew ((c.toNat - 48 : Nat) : Int)
    have hmul:=fun t H h1 h2=>hMul H1.length t (zDH (s.take i)) av H h1 h2
    clear hFit hI hNew
    have hbl : H.length < H1.length:=(zg hb).1
    refine zc tT <| zz rfl hc <| zW tF <| zz rfl hc <| zF <| zW tF ?_; refine zAZ (hn10 _ (by decide)) (fun h=>by cases h) <| zAZ (hMul H.length H1.length (zDH (s.take i)) av _ hP hP hm tO) (fun h=>by cases h) <| zz rfl hc <| zN (r:=c.toNat) tO tO <| zN (r:=c.toNat - 48) tO tO <| zAZ (hnd _ (by unfold zDZ; omega)) (fun h=>by cases h) ?_; refine zAZ (hAdd H.length _ (zDH (s.take i) * 10) (c.toNat - 48) (mulV (zDH (s.take i))) _ hP hP (mulV_mag _) hmw hd2) (fun h=>by cases h) <| zN (r:=i + 1) rfl tO ?_
    refine zAC (i + 1) rfl ⟨?_,by omega,hat,zEY (zDH (s.take (i + 1))), ?_,zHc _,fun _=>rfl⟩ tO
    ·exact (((hO.push _).set (zMv _) _).push _).set (zMv _) _
    ·rw [hdt,← bigC_nat]
     exact hP
   ·have hdf:=zNb.2 hdg
    have hall : s.all zH8 = false:=by
     rw [zNb]
     intro h
     exact hdg (zNz.1 h c (zNG hc))
    rw [hall] at hr
    have hr : none = r:=hr
    subst hr
    clear hFit hI hNew hMul hAdd
    unfold zH8 at hdf
    by_cases h1 : c.toNat < 48
    ·refine zc tT <| zz rfl hc <| zc tT <| zG <| zG ?_
     exact zBN rfl rfl rfl rfl hO
    ·have h2 : 57 < c.toNat:=by
      rw [tT (by omega : 48 ≤ c.toNat),zOC] at hdf
      have:=zNd hdf
      omega
     refine zc tT <| zz rfl hc <| zW tF <| zz rfl hc <| zF <| zc tT ?_
     exact zBN rfl rfl rfl rfl hO
  ·have hin : i = s.length:=by omega
   subst hin
   rw [zOu] at hd hm hav hw
   have hav:=hav hs1
   subst hav
   rw [hd,zMt rfl] at hr
   have hb' : H1[H.length]? = some (.box (zGF ((zDH s : Nat) : Int))):=by rw [bigC_nat]; exact hb
   have hft:=hFit H.length ((zDH s : Nat) : Int) H1 hb' (by simpa using (by omega : (wds (zDH s)).length ≤ 100))
   have hi6:=hI H.length ((zDH s : Nat) : Int) H1 hb'
   clear hFit hI hNew hMul hAdd
   by_cases h64 : zDH s ≤ 9223372036854775807
   ·rw [zMt h64] at hr
    subst hr
    have hin64 : zDZ ((zDH s : Nat) : Int):=by unfold zDZ; omega
    rw [zNM hin64] at hft
    have hi6:=hi6 hin64
    refine zW tF <| zW (zNQ.2 rfl) <| zI hft <| zF <| zI hi6 ?_
    exact zBN rfl rfl rfl rfl hO
   ·rw [zMq h64] at hr
    subst hr
    have hin64 : ¬ zDZ ((zDH s : Nat) : Int):=by unfold zDZ; omega
    rw [zNV hin64] at hft
    refine zW tF <| zW (zNQ.2 rfl) <| zI hft <| zG ?_
    exact zBN rfl rfl rfl rfl hO
 by_cases h0 : c0.toNat = 48
 ·have h1 : s = [48]:=by
   rcases Classical.em (s = [48]) with h | h
   ·exact h
   ·exact absurd ⟨h0,h⟩ h48
  refine zF <| zF <| zF <| zF <| zF <| zW hne ?_; refine zz rfl hc0 <| zc tE <| zG <| zF <| zW (zNQ.2 h1) ?_
  exact main
 ·refine zF <| zF <| zF <| zF <| zF <| zW hne ?_; refine zz rfl hc0 <| zW tN <| zF <| zF <| zF ?_
  exact main
end
end Go.AM
