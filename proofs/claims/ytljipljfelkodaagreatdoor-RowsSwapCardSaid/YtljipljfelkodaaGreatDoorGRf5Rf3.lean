/- Several texts of mine in one (Rf5, Bg1, Bg2, Bgm, Rf3). Own work. -/
import Derived.Test.YtljipljfelkodaaGreatDoorRf2
import Derived.Test.YtljipljfelkodaaGreatDoorGFq0Bg0
import Derived.Test.YtljipljfelkodaaGreatDoorGAm23Am29
import Derived.Test.YtljipljfelkodaaGreatDoorVc
import Derived.Test.YtljipljfelkodaaGreatDoorGAm30Fp1
import Derived.Test.YtljipljfelkodaaGreatDoorGAm31Rf1
set_option linter.all false
set_option maxRecDepth 20000
namespace Go.AM
def tkK : Tok → Nat
 | .fin=>0
 | .word _ _=>1
 | .txt _ _=>2
 | .bad _ _=>3
 | .sign _ _=>4
 | .none=>9
def tkE (q : Nat) : Tok → Nat
 | .fin=>q
 | .word e _=>e
 | .txt e _=>e
 | .bad e _=>e
 | .sign e _=>e
 | .none=>q
def tkT : Tok → Bs
 | .fin=>[]
 | .word _ t=>t
 | .txt _ t=>t
 | .bad _ k=>wrongs.getD (k - 1) []
 | .sign _ t=>t
 | .none=>[]
theorem zEv (s : Bs) (a : Nat) : tkV s a = kV (tkK (tok s a)) (skip s a) (tkE (skip s a) (tok s a)) (tkT (tok s a)):=by
 unfold tkV tkAt tok
 cases zB4 s (skip s a) <;> rfl
theorem zHt {s : Bs} {a : Nat} (h : a ≤ s.length) : tkE (skip s a) (tok s a) ≤ s.length:=by
 have h1:=zBM s a
 have h2:=zBi h
 cases hk : tok s a <;> rw [hk] at h1 <;> simp only [tkE,Tok.endsBy] at h1 ⊢ <;> omega
theorem tkT_41 {s : Bs} {a : Nat} : (∃ e,tok s a = .sign e [41]) ↔ tkK (tok s a) = 4 ∧ tkT (tok s a) = [41]:=by
 constructor
 ·rintro ⟨e,h⟩; rw [h]; exact ⟨rfl,rfl⟩
 ·intro h
  cases hk : tok s a <;> rw [hk] at h <;> simp only [tkK,tkT] at h
  all_goals first | omega | skip
  exact ⟨_,by rw [h.2]⟩
section
variable {C : CSpec} {GT : Nat → Option AV}
theorem rclose_ok (hT : ∀ s a H,a ≤ s.length → s.length ≤ 1000 → C zT [.str s,zK a] H (tkV s a) H)
  (b : Nat) (s : Bs) (p d e : Nat) (H : Heap) (hb : H[b]? = some (rP s p (d + 1))) (hp : p ≤ s.length) (hl : s.length ≤ 200) (hd : d ≤ 1000) (hk : tok s p = .sign e [41]) : zB3 C GT zBc [pR b] H b [] .undef (some (.tup [],rP s e d)):=by
 have hbl : b < H.length:=(zg hb).1
 have ht:=fun H=>hT s p H hp tO
 rw [zEv,hk] at ht
 have ht : ∀ H,C zT [.str s,zK p] H (kV 4 (skip s p) e [41]) H:=ht
 generalize skip s p = q at *
 clear hT
 refine zz ?_; refine zD (AV.str s) hb rfl <| zD (zI ↑p) hb rfl ?_; refine zGk ?_ ?_
 all_goals
  refine zL (ht _) <| zH (v:=kV 4 q e [41]) (AV.cells (kV 4 q e [41])) zB rfl rfl rfl rfl <| zD (zI 0) (zA tA (zC hb)) rfl <| zG <| zD (zK 4) (zE zB) rfl <| zF ?_; refine zD (AV.str [41]) (zE zB) rfl <| zF <| zG <| zF <| zD (zK e) (zE zB) rfl <| zH (v:=zK e) [AV.str s,zK e,zI 0,zI 0,zI ↑(d + 1)] (zA tA (zC hb)) rfl rfl rfl rfl ?_; refine zD (zI ↑(d + 1)) (zE (zA tA (zC hb))) rfl <| zN (r:=d) tO tO <| zH (v:=.int .i64 ↑d) [AV.str s,zK e,zI 0,zI 0,.int .i64 ↑d] (zE (zA tA (zC hb))) rfl rfl rfl rfl ?_
  exact zGf _ (by first | rfl | assumption) rfl rfl rfl rfl (((((OldB.start hb).push _).set tA _).setB _).setB _) rfl
theorem rclose_no (hT : ∀ s a H,a ≤ s.length → s.length ≤ 1000 → C zT [.str s,zK a] H (tkV s a) H)
  (hF : ∀ b s p d a e H,H[b]? = some (pB s p 0 0 d) → C zd [pR b,zI a,zI e] H (.tup []) (H.set b (pB s p a e d)))
  (b : Nat) (s : Bs) (p d : Nat) (H : Heap) (hb : H[b]? = some (rP s p (d + 1))) (hp : p ≤ s.length) (hl : s.length ≤ 200) (hd : d ≤ 1000) (hk : ¬ ∃ e,tok s p = .sign e [41]) : zB3 C GT zBc [pR b] H b [] .undef (some (.tup [],pB s (tkE (skip s p) (tok s p) : Nat) (skip s p : Nat) 2 d)):=by
 have hbl : b < H.length:=(zg hb).1
 have ht:=fun H=>hT s p H hp tO
 rw [zEv] at ht
 rw [tkT_41] at hk
 have hf:=fun H=>hF b s p (d + 1 : Nat) (skip s p : Nat) 2 H
 clear hT hF
 generalize tkE (skip s p) (tok s p) = e at *
 generalize tkK (tok s p) = kk at *
 generalize tkT (tok s p) = t at *
 generalize skip s p = q at *
 refine zz ?_
 by_cases h4 : kk = 4
 ·subst h4
  have h41 : t ≠ [41]:=fun x=>hk ⟨rfl,x⟩
  refine zD (AV.str s) hb rfl <| zD (zI ↑p) hb rfl ?_; refine zGk ?_ ?_
  all_goals
   refine zL (ht _) <| zH (v:=kV 4 q e t) (AV.cells (kV 4 q e t)) zB rfl rfl rfl rfl <| zD (zI 0) (zA tA (zC hb)) rfl <| zG <| zD (zK 4) (zE zB) rfl <| zF ?_; refine zD (AV.str t) (zE zB) rfl <| zF <| zG <| zb (zMg.2 h41) <| zD (zK q) (zE zB) rfl <| zAc (hf _ hP) (fun h=>by cases h) ?_; refine zD (zK e) (zA tA (zE zB)) rfl <| zH (v:=zK e) [AV.str s,zK e,zI ↑q,zI 2,zI ↑(d + 1)] (zE (zA tA (zC hb))) rfl rfl rfl rfl <| zD (zI ↑(d + 1)) (zE (zE (zA tA (zC hb)))) rfl <| zN (r:=d) tO tO <| zH (v:=.int .i64 ↑d) [AV.str s,zK e,zI ↑q,zI 2,.int .i64 ↑d] (zE (zE (zA tA (zC hb)))) rfl rfl rfl rfl ?_
   exact zGf _ (by first | rfl | assumption) rfl rfl rfl rfl ((((((OldB.start hb).push _).set tA _).setB _).setB _).setB _) rfl
 ·refine zD (AV.str s) hb rfl <| zD (zI ↑p) hb rfl ?_; refine zGk ?_ ?_
  all_goals
   refine zL (ht _) <| zH (v:=kV kk q e t) (AV.cells (kV kk q e t)) zB rfl rfl rfl rfl <| zD (zI 0) (zA tA (zC hb)) rfl <| zG <| zD (zK kk) (zE zB) rfl ?_; refine zb (zMg.2 tO) <| zG <| zG <| zG <| zD (zK q) (zE zB) rfl <| zAc (hf _ hP) (fun h=>by cases h) ?_; refine zD (zK e) (zA tA (zE zB)) rfl <| zH (v:=zK e) [AV.str s,zK e,zI ↑q,zI 2,zI ↑(d + 1)] (zE (zA tA (zC hb))) rfl rfl rfl rfl <| zD (zI ↑(d + 1)) (zE (zE (zA tA (zC hb)))) rfl <| zN (r:=d) tO tO <| zH (v:=.int .i64 ↑d) [AV.str s,zK e,zI ↑q,zI 2,.int .i64 ↑d] (zE (zE (zA tA (zC hb)))) rfl rfl rfl rfl ?_
   exact zGf _ (by first | rfl | assumption) rfl rfl rfl rfl ((((((OldB.start hb).push _).set tA _).setB _).setB _).setB _) rfl
theorem rclose_bad (hT : ∀ s a H,a ≤ s.length → s.length ≤ 1000 → C zT [.str s,zK a] H (tkV s a) H)
  (b : Nat) (s : Bs) (p : Nat) (w e d : Int) (H : Heap) (hb : H[b]? = some (pB s p w e d)) (he : e ≠ 0) (hp : p ≤ s.length) (hl : s.length ≤ 200) : zB3 C GT zBc [pR b] H b [] .undef (some (.tup [],pB s (tkE (skip s p) (tok s p) : Nat) w e (IntKind.wrap .i64 (d - 1)))):=by
 have hbl : b < H.length:=(zg hb).1
 have ht:=fun H=>hT s p H hp tO
 rw [zEv] at ht
 clear hT
 generalize tkE (skip s p) (tok s p) = ee at *
 generalize tkK (tok s p) = kk at *
 generalize tkT (tok s p) = t at *
 generalize skip s p = q at *
 refine zz ?_; refine zD (AV.str s) hb rfl <| zD (zI ↑p) hb rfl ?_; refine zGk ?_ ?_
 all_goals
  refine zL (ht _) <| zH (v:=kV kk q ee t) (AV.cells (kV kk q ee t)) zB rfl rfl rfl rfl <| zD (zI e) (zA tA (zC hb)) rfl <| zY (tN he) <| zF <| zF ?_; refine zD (zK ee) (zE zB) rfl <| zH (v:=zK ee) [AV.str s,zK ee,zI w,zI e,zI d] (zA tA (zC hb)) rfl rfl rfl rfl <| zD (zI d) (zE (zA tA (zC hb))) rfl <| sVal rfl <| zH (v:=.int .i64 (IntKind.i64.wrap (d - 1))) [AV.str s,zK ee,zI w,zI e,.int .i64 (IntKind.i64.wrap (d - 1))] (zE (zA tA (zC hb))) rfl rfl rfl rfl ?_
  exact zGf _ (by first | rfl | assumption) rfl rfl rfl rfl (((((OldB.start hb).push _).set tA _).setB _).setB _) rfl
end
end Go.AM
set_option maxRecDepth 20000
namespace Go.AM
def zBA (w : Nat) : AV:=.int .u32 w
def u64V (w : Nat) : AV:=.int .u64 w
def zD7 (n : Nat) : AV:=.lst (some false) 1 ((wds n).map zBA)
def Mag (v : AV) (n : Nat) : Prop:=zDB v 1 ((wds n).map zBA)
theorem zHG (n : Nat) : Mag (zD7 n) n:=⟨_,_,rfl,.inl rfl⟩
theorem Mag.nil (k : Nat) : Mag (.lst (some true) k []) 0:=⟨_,_,rfl,.inr rfl⟩
theorem zJE {n i : Nat} (h : i < (wds n).length) : ((wds n).map zBA)[i]? = some (zBA (wds n)[i]):=by rw [zL9,zLy h]; rfl
theorem sl_take {b m n : Nat} (h : n ≤ m) : zAx (some 1) (.sl (some false) b 1 0 m) none (some (.int .i64 (n : Int))) = some (.sl (some false) b 1 0 n):=by
 have e : zCN m none (some (.int .i64 (n : Int))) = some (0,n):=by
  simp only [zCN,aHi,aLo]
  rw [zLx ⟨by omega,by omega⟩]
  simp
 simp only [zAx,zMR,e,zMB,zMn,zOA]
 rfl
theorem frz_mag {H0 H : Heap} {b n : Nat} {ws : List Nat} (hbl : H0.length ≤ b) (hb : H[b]? = some (.row 1 (ws.map zBA))) (hw : Small ws) (hn : wval ws = n) :
  zDq H0.length (.sl (some false) b 1 0 (wds n).length) H = some (zD7 n,H.set b (.frz 1 (ws.map zBA))):=by
 subst hn
 have h:=wds_take hw
 simp only [zDq,hb]
 rw [zLv tO,zLx ⟨trivial,by rw [zL6]; omega⟩]
 simp only [zOD,← List.map_take,h.2]
 rfl
theorem shr32 (s : Nat) : zCV .shr .u64 (s : Int) 32 = some (.int .u64 ((s / 4294967296 : Nat) : Int)):=by
 simp only [zCV]
 rw [zLv tO]
 have : (2 : Int) ^ Nat.min (32 : Int).toNat IntKind.u64.bits = 4294967296:=by rfl
 rw [this,zN2 _ tO]
 rfl
theorem shr63 (s : Nat) : zCV .shr .u64 (s : Int) 63 = some (.int .u64 ((s / 9223372036854775808 : Nat) : Int)):=by
 simp only [zCV]
 rw [zLv tO]
 have : (2 : Int) ^ Nat.min (63 : Int).toNat IntKind.u64.bits = 9223372036854775808:=by rfl
 rw [this,zN2 _ tO]
 rfl
theorem sWu32 {x : Int} {K : Int → Prop} (r : Nat) (h : x % 4294967296 = r) (k : K (r : Int)) : valP (IntKind.wrap .u32 x) K:=sVal (by rw [IntKind.wrap_u32]; omega) k
theorem sWu64 {x : Int} {K : Int → Prop} (r : Nat) (h : x % 18446744073709551616 = r) (k : K (r : Int)) : valP (IntKind.wrap .u64 x) K:=sVal (by rw [IntKind.wrap_u64]; omega) k
theorem set_pad (ds : List Nat) (m d : Nat) : ((ds ++ List.replicate (m + 1) 0).map zBA).set ds.length (zBA d) = ((ds ++ [d]) ++ List.replicate m 0).map zBA:=by
 rw [zN6,← List.map_set,zNc _ _ (zL0 _),Nat.sub_self]
 simp
theorem pad_get (ds : List Nat) (m : Nat) : ((ds ++ List.replicate (m + 1) 0).map zBA)[ds.length]? = some (zBA 0):=by
 rw [zL9,zMC (zL0 _),Nat.sub_self,zN6]; rfl
theorem Small.snoc {ds : List Nat} {d : Nat} (h : Small ds) (hd : d < 4294967296) : Small (ds ++ [d]):=by
 intro w hw
 rcases zNN.1 hw with hw | hw
 ·exact h w hw
 ·rw [zMr.1 hw]; exact hd
section
variable {C : CSpec} {GT : Nat → Option AV}
theorem trim_ev (b m : Nat) (ws : List Nat) (H : Heap) (hm : ws.length = m) (hb : H[b]? = some (.row 1 (ws.map zBA))) (hw : Small ws) (hl : m ≤ 1000000) :
  EFun C GT zEM [.sl (some false) b 1 0 m] H (.sl (some false) b 1 0 (wds (wval ws)).length) H:=by
 have hbl : b < H.length:=(zg hb).1
 subst hm
 have fin : ∀ n : Nat,n ≤ ws.length → (wds (wval ws)).length = n → (.sl (some false) b 1 0 (wds (wval ws)).length : AV) = .sl (some false) b 1 0 n:=fun n _ h=>by rw [h]
 refine zZ ?_; refine zGw ?_; refine zBm (fun n : Nat=>[(3,zK n),(0,.sl (some false) b 1 0 ws.length)]) (fun n H'=>H' = H ∧ n ≤ ws.length ∧ wval (ws.take n) = wval ws) (fun n=>n) ws.length rfl ⟨rfl,zL0 _,by rw [zOI]⟩ (fun n H1 ⟨e,hn,hv⟩=>?_)
 subst e
 dsimp only
 have hsm : Small (ws.take n):=fun w h=>hw w (zNB h)
 refine zDh (fun h=>?_) (fun h=>?_)
 ·have h : 0 < n:=by have:=zMb h; omega
  have hi : n - 1 < ws.length:=by omega
  have hx : (ws.map zBA)[n - 1]? = some (zBA ws[n - 1]):=by rw [zL9,zLy hi]; rfl
  have ht : ws.take n = ws.take (n - 1) ++ [ws[n - 1]]:=by
   have:=zNQ hi
   rwa [Nat.sub_add_cancel h] at this
  refine zN (r:=n - 1) tO tO <| sAt ⟨by omega,by omega⟩ <| zBV (n - 1) (zBA ws[n - 1]) (zBA ws[n - 1]) tO hb hx rfl <| zG ?_; refine zDh (fun h0=>?_) (fun h0=>?_)
  ·have h0 : ws[n - 1] = 0:=by have:=eq_of_beq h0; omega
   refine zN (r:=n - 1) tO tO ?_; refine zAU (n - 1) rfl ⟨rfl,by omega, ?_⟩ tO
   rw [← hv,ht,zDT,h0]; simp
  ·have h0 : ws[n - 1] ≠ 0:=fun e=>by rw [e] at h0; exact absurd h0 (by simp)
   have hd : wds (wval ws) = ws.take n:=by
    rw [← hv]
    refine wds_val hsm fun w hw=>?_
    rw [ht,List.getLast?_concat] at hw
    cases hw
    exact h0
   have e:=fin n hn (by rw [hd,zMA]; omega)
   refine zl (sl_take hn) ?_
   exact zGx e rfl rfl (by simp only [zDq]; rw [zLx hbl]) (by simp only [AV.bel]; exact zMM hbl) (Old.refl _)
 ·have h : n = 0:=by have:=zMf h; omega
  subst h
  have e:=fin 0 hn (by rw [← hv]; rfl)
  refine zF <| zF <| zl (sl_take hn) ?_
  exact zGx e rfl rfl (by simp only [zDq]; rw [zLx hbl]) (by simp only [AV.bel]; exact zMM hbl) (Old.refl _)
theorem words_ev (hT : ∀ b m ws H,ws.length = m → H[b]? = some (.row 1 (ws.map zBA)) → Small ws → m ≤ 1000000 → C zw [.sl (some false) b 1 0 m] H (.sl (some false) b 1 0 (wds (wval ws)).length) H)
  (x : Nat) (hx : x < 18446744073709551616) (H : Heap) : EFun C GT zDx [u64V x] H (zD7 x) H:=by
 have hb : (H ++ [ABlk.row 1 [zBA (x % 4294967296),zBA (x / 4294967296)]])[H.length]? = some (.row 1 (([x % 4294967296,x / 4294967296] : List Nat).map zBA)):=zB
 have hw : Small [x % 4294967296,x / 4294967296]:=by
  intro w hw
  simp at hw
  omega
 have hv : wval [x % 4294967296,x / 4294967296] = x:=by simp only [wval]; omega
 have ht:=hT H.length 2 [x % 4294967296,x / 4294967296] _ rfl hb hw tO
 rw [hv] at ht
 refine zZ ?_; refine sWu32 (x % 4294967296) tO <| zl (shr32 x) <| sWu32 (x / 4294967296) tO <| zAs (vs':=[zBA (x % 4294967296),zBA (x / 4294967296)]) rfl rfl <| zL (ht) ?_
 exact sRetF rfl rfl (frz_mag (zL0 _) hb hw hv) rfl (((Old.refl H).push _).set (zL0 _) _)
structure SAd where
 i : Nat
 c : Nat
 ds : List Nat
theorem add_tail (hT : ∀ b m ws H,ws.length = m → H[b]? = some (.row 1 (ws.map zBA)) → Small ws → m ≤ 1000000 → C zw [.sl (some false) b 1 0 m] H (.sl (some false) b 1 0 (wds (wval ws)).length) H)
  (av bv : AV) (x y n : Nat) (H : Heap) (ha : Mag av x) (hb : Mag bv y) (hn : (wds x).length = n) (hle : (wds y).length ≤ n) (hl : n ≤ 100000) :
  EW C GT (zEn.behind 2) (finF zDQ H (zD7 (x + y)) H) [(1,bv),(0,av)] H:=by
 have hal : ((wds x).map zBA).length = n:=by rw [zL6,hn]
 refine zBD n ha hal <| zN (r:=n + 1) rfl tO <| sMake (n:=n + 1) rfl (Int.le_refl _) ⟨by omega,by omega⟩ rfl ?_; refine zBm (fun s : SAd=>[(7,zK s.i),(5,.sl (some false) H.length 1 0 (n + 1)),(1,bv),(0,av),(6,u64V s.c)])
  (fun s H'=>Old H H' ∧ s.ds.length = s.i ∧ s.i ≤ n ∧ Small s.ds ∧ s.c ≤ 1 ∧ H'[H.length]? = some (.row 1 ((s.ds ++ List.replicate (n + 1 - s.i) 0).map zBA)) ∧ wval s.ds + 4294967296 ^ s.i * s.c = wval ((wds x).take s.i) + wval ((wds y).take s.i)) (fun s=>n - s.i) ⟨0,0,[]⟩ rfl
  ⟨(Old.refl _).push _,rfl,zMm _,(fun w hw=>by cases hw),zMm _,by rw [zM1,zOA,zOZ]; exact zB,rfl⟩ (fun ⟨i,c,ds⟩ H1 ⟨hO,hd,hi,hsm,hc,hrow,hval⟩=>?_)
 simp only at hd hi hsm hc hrow hval
 dsimp only
 refine zBD n ha hal ?_; refine zDh (fun h=>?_) (fun h=>?_)
 ·have h : i < n:=by have:=zMb h; omega
  have hx : i < (wds x).length:=by omega
  have hax:=zJE hx
  have htx:=zCs hx
  have hsx:=zBe x _ (zMy hx)
  obtain ⟨a,had⟩ : ∃ a,(wds x)[i] = a:=⟨_,rfl⟩
  rw [had] at hax htx hsx
  have hm : n + 1 - i = (n - i) + 1:=by omega
  rw [hm] at hrow
  have hget:=pad_get ds (n - i)
  have hset:=fun d=>set_pad ds (n - i) d
  rw [hd] at hget hset
  have hlen : ds.length = i:=hd
  refine zD0 i (zBA a) ha rfl hax <| zt (zBA a) rfl <| zDW (r:=a) rfl tO <| zDW (r:=c + a) tO tO <| zBD (wds y).length hb (by simp) ?_; refine zDh (fun h2=>?_) (fun h2=>?_)
  ·have h2 : i < (wds y).length:=by have:=zMb h2; omega
   have hby:=zJE h2
   have hty:=zCs h2
   have hsy:=zBe y _ (zMy h2)
   obtain ⟨d,hdd⟩ : ∃ d,(wds y)[i] = d:=⟨_,rfl⟩
   rw [hdd] at hby hty hsy
   refine zD0 i (zBA d) hb rfl hby <| zt (zBA d) rfl <| zDW (r:=d) rfl tO <| zDW (r:=c + a + d) tO tO <| sWu32 ((c + a + d) % 4294967296) tO <| sAt ⟨by omega,by omega⟩ ?_; refine zLD i (zBA ((c + a + d) % 4294967296)) tO hrow hget rfl (by decide) rfl (fun cs h=>by cases h) <| zl (shr32 (c + a + d)) <| zN (r:=i + 1) rfl tO ?_; refine zAU (SAd.mk (i + 1) ((c + a + d) / 4294967296) (ds ++ [(c + a + d) % 4294967296])) rfl ⟨hO.set (zL0 _) _,by simp [hlen],by simp only; omega,hsm.snoc tO,by simp only; omega, ?_, ?_⟩ (by simp only; omega)
   ·rw [hset]
    have : n + 1 - (i + 1) = n - i:=by omega
    simp only [this]
    exact zE hrow
   ·simp only [zDT,hlen,htx,hty,zMp]
    have e : (c + a + d) % 4294967296 + 4294967296 * ((c + a + d) / 4294967296) = c + a + d:=by omega
    have e2 : 4294967296 ^ i * ((c + a + d) % 4294967296) + 4294967296 ^ i * 4294967296 * ((c + a + d) / 4294967296) = 4294967296 ^ i * c + 4294967296 ^ i * a + 4294967296 ^ i * d:=by
     rw [zNU,← Nat.mul_add,e,zN3,zN3]
    omega
  ·have h2 : (wds y).length ≤ i:=by have:=zMf h2; omega
   have hty : wval ((wds y).take (i + 1)) = wval ((wds y).take i):=by rw [zMZ tO,zMZ h2]
   refine sWu32 ((c + a) % 4294967296) tO <| sAt ⟨by omega,by omega⟩ <| zLD i (zBA ((c + a) % 4294967296)) tO hrow hget rfl (by decide) rfl (fun cs h=>by cases h) <| zl (shr32 (c + a)) <| zN (r:=i + 1) rfl tO ?_; refine zAU (SAd.mk (i + 1) ((c + a) / 4294967296) (ds ++ [(c + a) % 4294967296])) rfl ⟨hO.set (zL0 _) _,by simp [hlen],by simp only; omega,hsm.snoc tO,by simp only; omega, ?_, ?_⟩ (by simp only; omega)
   ·rw [hset]
    have : n + 1 - (i + 1) = n - i:=by omega
    simp only [this]
    exact zE hrow
   ·simp only [zDT,hlen,htx,hty,zMp]
    have e : (c + a) % 4294967296 + 4294967296 * ((c + a) / 4294967296) = c + a:=by omega
    have e2 : 4294967296 ^ i * ((c + a) % 4294967296) + 4294967296 ^ i * 4294967296 * ((c + a) / 4294967296) = 4294967296 ^ i * c + 4294967296 ^ i * a:=by
     rw [zNU,← Nat.mul_add,e,zN3]
    omega
 ·have h : i = n:=by have:=zMf h; omega
  subst h
  have hm : i + 1 - i = 0 + 1:=by omega
  rw [hm] at hrow
  have hget:=pad_get ds 0
  have hset:=fun d=>set_pad ds 0 d
  rw [hd] at hget hset
  rw [zMZ tO,zMZ tO,zDe,zDe,← hd,← zDT] at hval
  have hsm2 : Small (ds ++ [c]):=hsm.snoc tO
  have hr2 : (H1.set H.length (.row 1 ((ds ++ [c]).map zBA)))[H.length]? = some (.row 1 ((ds ++ [c]).map zBA)):=zE hrow
  have hset2 : ((ds ++ List.replicate (0 + 1) 0).map zBA).set i (zBA c) = (ds ++ [c]).map zBA:=by rw [hset]; simp
  have ht:=hT H.length (i + 1) (ds ++ [c]) _ (by simp [hd]) hr2 hsm2 tO
  rw [hval] at ht
  rw [← hset2] at ht hr2
  refine zBD i ha hal <| sWu32 c tO <| sAt ⟨by omega,by omega⟩ <| zLD i (zBA c) tO hrow hget rfl (by decide) rfl (fun cs h=>by cases h) <| zL ht ?_
  rw [hset2] at hr2
  exact sRetF rfl rfl (frz_mag (zL0 _) (by rw [hset2]; exact hr2) hsm2 hval) rfl ((hO.set (zL0 _) _).set (zL0 _) _)
theorem add_ev (hT : ∀ b m ws H,ws.length = m → H[b]? = some (.row 1 (ws.map zBA)) → Small ws → m ≤ 1000000 → C zw [.sl (some false) b 1 0 m] H (.sl (some false) b 1 0 (wds (wval ws)).length) H)
  (av bv : AV) (x y : Nat) (H : Heap) (ha : Mag av x) (hb : Mag bv y) (h1 : (wds x).length ≤ 100000) (h2 : (wds y).length ≤ 100000) : EFun C GT zDQ [av,bv] H (zD7 (x + y)) H:=by
 refine zZ ?_; refine zBD (wds x).length ha (by simp) <| zBD (wds y).length hb (by simp) ?_; refine zDh (fun h=>?_) (fun h=>?_)
 ·have h : (wds x).length < (wds y).length:=by have:=zMb h; omega
  rw [zNZ x y]
  refine sTail rfl (add_tail hT bv av y x _ H hb ha rfl tO h2) ?_
  rfl
 ·have h : (wds y).length ≤ (wds x).length:=by have:=zMf h; omega
  refine sTail rfl (add_tail hT av bv x y _ H ha hb rfl h h1) ?_
  rfl
theorem sub_ev (hT : ∀ b m ws H,ws.length = m → H[b]? = some (.row 1 (ws.map zBA)) → Small ws → m ≤ 1000000 → C zw [.sl (some false) b 1 0 m] H (.sl (some false) b 1 0 (wds (wval ws)).length) H)
  (av bv : AV) (x y n : Nat) (H : Heap) (ha : Mag av x) (hb : Mag bv y) (hyx : y ≤ x) (hn : (wds x).length = n) (hl : n ≤ 100000) : EFun C GT zEp [av,bv] H (zD7 (x - y)) H:=by
 have hal : ((wds x).map zBA).length = n:=by rw [zL6,hn]
 have hle : (wds y).length ≤ n:=by rw [← hn]; exact wds_len_mono hyx
 refine zZ ?_; refine zBD n ha hal <| sMake (n:=n) rfl (Int.le_refl _) ⟨by omega,by omega⟩ rfl ?_; refine zBm (fun s : SAd=>[(7,zK s.i),(5,.sl (some false) H.length 1 0 n),(1,bv),(6,u64V s.c),(0,av)])
  (fun s H'=>Old H H' ∧ s.ds.length = s.i ∧ s.i ≤ n ∧ Small s.ds ∧ s.c ≤ 1 ∧ H'[H.length]? = some (.row 1 ((s.ds ++ List.replicate (n - s.i) 0).map zBA)) ∧ wval s.ds + wval ((wds y).take s.i) = wval ((wds x).take s.i) + 4294967296 ^ s.i * s.c) (fun s=>n - s.i) ⟨0,0,[]⟩ rfl
  ⟨(Old.refl _).push _,rfl,zMm _,(fun w hw=>by cases hw),zMm _,by rw [zM1,zOA,zOZ]; exact zB,rfl⟩ (fun ⟨i,c,ds⟩ H1 ⟨hO,hd,hi,hsm,hc,hrow,hval⟩=>?_)
 simp only at hd hi hsm hc hrow hval
 dsimp only
 refine zBD n ha hal ?_; refine zDh (fun h=>?_) (fun h=>?_)
 ·have h : i < n:=by have:=zMb h; omega
  have hx : i < (wds x).length:=by omega
  have hax:=zJE hx
  have htx:=zCs hx
  have hsx:=zBe x _ (zMy hx)
  obtain ⟨a,had⟩ : ∃ a,(wds x)[i] = a:=⟨_,rfl⟩
  rw [had] at hax htx hsx
  obtain ⟨m,hm⟩ : ∃ m,n - i = m + 1:=⟨n - i - 1,by omega⟩
  rw [hm] at hrow
  have hget:=pad_get ds m
  have hset:=fun d=>set_pad ds m d
  rw [hd] at hget hset
  have hlen : ds.length = i:=hd
  refine zD0 i (zBA a) ha rfl hax <| zt (zBA a) rfl <| zDW (r:=a) rfl tO <| sWu64 ((((a : Int) - c) % 18446744073709551616).toNat) tO <| zBD (wds y).length hb (by simp) ?_
  have next : ∀ (e d c' : Nat),(e : Int) = (a : Int) - c' - c ∨ True → True:=fun _ _ _ _=>trivial
  refine zDh (fun h2=>?_) (fun h2=>?_)
  ·have h2 : i < (wds y).length:=by have:=zMb h2; omega
   have hby:=zJE h2
   have hty:=zCs h2
   have hsy:=zBe y _ (zMy h2)
   obtain ⟨d,hdd⟩ : ∃ d,(wds y)[i] = d:=⟨_,rfl⟩
   rw [hdd] at hby hty hsy
   obtain ⟨D,hD⟩ : ∃ D : Nat,(((a : Int) - c - d) % 18446744073709551616) = D:=⟨(((a : Int) - c - d) % 18446744073709551616).toNat,by omega⟩
   refine zD0 i (zBA d) hb rfl hby <| zt (zBA d) rfl <| zDW (r:=d) rfl tO <| sWu64 D tO <| sWu32 (D % 4294967296) tO <| sAt ⟨by omega,by omega⟩ ?_; refine zLD i (zBA (D % 4294967296)) tO hrow hget rfl (by decide) rfl (fun cs h=>by cases h) <| zl (shr63 D) <| zN (r:=i + 1) rfl tO ?_; refine zAU (SAd.mk (i + 1) (D / 9223372036854775808) (ds ++ [D % 4294967296])) rfl ⟨hO.set (zL0 _) _,by simp [hlen],by simp only; omega,hsm.snoc tO,by simp only; omega, ?_, ?_⟩ (by simp only; omega)
   ·rw [hset]
    have : n - (i + 1) = m:=by omega
    simp only [this]
    exact zE hrow
   ·simp only [zDT,hlen,htx,hty,zMp]
    have e : D % 4294967296 + c + d = a + 4294967296 * (D / 9223372036854775808):=by omega
    have e2 : 4294967296 ^ i * (D % 4294967296) + 4294967296 ^ i * c + 4294967296 ^ i * d = 4294967296 ^ i * a + 4294967296 ^ i * 4294967296 * (D / 9223372036854775808):=by
     rw [zNU,← Nat.mul_add,← Nat.mul_add,e,zN3]
    omega
  ·have h2 : (wds y).length ≤ i:=by have:=zMf h2; omega
   have hty : wval ((wds y).take (i + 1)) = wval ((wds y).take i):=by rw [zMZ tO,zMZ h2]
   obtain ⟨D,hD⟩ : ∃ D : Nat,(((a : Int) - c) % 18446744073709551616).toNat = D:=⟨_,rfl⟩
   rw [hD]
   refine sWu32 (D % 4294967296) tO <| sAt ⟨by omega,by omega⟩ <| zLD i (zBA (D % 4294967296)) tO hrow hget rfl (by decide) rfl (fun cs h=>by cases h) <| zl (shr63 D) <| zN (r:=i + 1) rfl tO ?_; refine zAU (SAd.mk (i + 1) (D / 9223372036854775808) (ds ++ [D % 4294967296])) rfl ⟨hO.set (zL0 _) _,by simp [hlen],by simp only; omega,hsm.snoc tO,by simp only; omega, ?_, ?_⟩ (by simp only; omega)
   ·rw [hset]
    have : n - (i + 1) = m:=by omega
    simp only [this]
    exact zE hrow
   ·simp only [zDT,hlen,htx,hty,zMp]
    have e : D % 4294967296 + c = a + 4294967296 * (D / 9223372036854775808):=by omega
    have e2 : 4294967296 ^ i * (D % 4294967296) + 4294967296 ^ i * c = 4294967296 ^ i * a + 4294967296 ^ i * 4294967296 * (D / 9223372036854775808):=by
     rw [zNU,← Nat.mul_add,← Nat.mul_add,e]
    omega
 ·have h : i = n:=by have:=zMf h; omega
  subst h
  rw [Nat.sub_self,zOU,List.append_nil] at hrow
  rw [zMZ tO,zMZ tO,zDe,zDe] at hval
  have hv : wval ds = x - y:=by
   have h1:=wval_lt hsm
   rw [hd] at h1
   have hc0 : c = 0:=by
    rcases zNY c with h | h
    ·exact h
    ·have hc1 : c = 1:=by omega
     rw [hc1,zOX] at hval
     omega
   rw [hc0] at hval
   omega
  have ht:=hT H.length i ds _ hd hrow hsm tO
  rw [hv] at ht
  refine zL ht ?_
  exact sRetF rfl rfl (frz_mag (zL0 _) hrow hsm hv) rfl (hO.set (zL0 _) _)
def cmpN (x y : Nat) : Int:=if x < y then -1 else if x = y then 0 else 1
theorem cmpN_lt {x y : Nat} (h : x < y) : cmpN x y = -1:=zLx h
theorem cmpN_eq (x : Nat) : cmpN x x = 0:=by unfold cmpN; rw [zLv tO,zLx rfl]
theorem cmpN_gt {x y : Nat} (h : y < x) : cmpN x y = 1:=by unfold cmpN; rw [zLv tO,zLv tO]
theorem bcmp_ev (av bv : AV) (x y : Nat) (H : Heap) (ha : Mag av x) (hb : Mag bv y) (h1 : (wds x).length ≤ 100000) (h2 : (wds y).length ≤ 100000) : EFun C GT zEo [av,bv] H (zI (cmpN x y)) H:=by
 refine zZ ?_; refine zBD (wds x).length ha (by simp) <| zBD (wds y).length hb (by simp) ?_; refine zDh (fun h=>?_) (fun h=>?_)
 ·have h : (wds x).length ≠ (wds y).length:=by simp only [zMg,ne_eq] at h; omega
  refine zBD (wds x).length ha (by simp) <| zBD (wds y).length hb (by simp) ?_; refine zDh (fun h2=>?_) (fun h2=>?_)
  ·have h2 : (wds x).length < (wds y).length:=by have:=zMb h2; omega
   rw [cmpN_lt (zJg h2)]
   exact sRr
  ·have h2 : (wds y).length < (wds x).length:=by have:=zMf h2; omega
   rw [cmpN_gt (zJg h2)]
   exact sRr
 have h : (wds x).length = (wds y).length:=by simp only [zMQ] at h; omega
 have key : ∀ (e : Int),cmpN x y = e → True:=fun _ _=>trivial
 refine zBD (wds x).length ha (by simp) <| sW64 ⟨by omega,by omega⟩ ?_; refine zBm (fun k : Nat=>[(5,zI ((k : Int) - 1)),(1,bv),(0,av)]) (fun k H'=>H' = H ∧ k ≤ (wds x).length ∧ (wds x).drop k = (wds y).drop k) (fun k=>k) (wds x).length rfl
  ⟨rfl,zL0 _,by rw [List.drop_length,h,List.drop_length]⟩ (fun k H1 ⟨e,hk,hd⟩=>?_)
 subst e
 dsimp only
 refine zDh (fun h3=>?_) (fun h3=>?_)
 ·have h3 : 1 ≤ k:=by have:=zMb h3; omega
  obtain ⟨i,rfl⟩ : ∃ i,k = i + 1:=⟨k - 1,by omega⟩
  have hx : i < (wds x).length:=by omega
  have hy : i < (wds y).length:=by omega
  have hax:=zJE hx
  have hby:=zJE hy
  have hsx:=zBe x _ (zMy hx)
  have hsy:=zBe y _ (zMy hy)
  have top1:=fun hlt=>cmp_top (zBe x) (zBe y) h hx hd hlt
  have top2:=fun hlt=>cmp_top (zBe y) (zBe x) h.symm hy hd.symm hlt
  rw [zDe,zDe] at top1 top2
  have hdx : (wds x).drop i = (wds x)[i] :: (wds x).drop (i + 1):=(zNs hx).symm
  have hdy : (wds y).drop i = (wds y)[i] :: (wds y).drop (i + 1):=(zNs hy).symm
  generalize (wds x)[i] = a at *
  generalize (wds y)[i] = d at *
  refine zD0 i (zBA a) ha tO hax <| zt (zBA a) rfl <| zD0 i (zBA d) hb tO hby <| zt (zBA d) rfl ?_; refine zDh (fun h4=>?_) (fun h4=>?_)
  ·have h4 : a ≠ d:=by simp only [zMg,ne_eq] at h4; omega
   refine zD0 i (zBA a) ha tO hax <| zt (zBA a) rfl <| zD0 i (zBA d) hb tO hby <| zt (zBA d) rfl ?_; refine zDh (fun h5=>?_) (fun h5=>?_)
   ·have h5 : a < d:=by have:=zMb h5; omega
    rw [cmpN_lt (top1 h5)]
    exact sRr
   ·have h5 : d < a:=by have:=zMf h5; omega
    rw [cmpN_gt (top2 h5)]
    exact sRr
  ·have h4 : a = d:=by simp only [zMQ] at h4; omega
   refine sW64 ⟨by omega,by omega⟩ ?_; refine zAU i ?_ ⟨rfl,by omega,by rw [hdx,hdy,h4,hd]⟩ tO
   have : ((i + 1 : Nat) : Int) - 1 - 1 = (i : Int) - 1:=by omega
   simp only [← this]
   rfl
 ·have h3 : k = 0:=by have:=zMf h3; omega
  subst h3
  have e : x = y:=by
   rw [← zDe x,← zDe y]
   simp only [zOD] at hd
   rw [hd]
  rw [e,cmpN_eq]
  exact sRr
def sumS (xn : Bool) (x : Nat) (yn : Bool) (y : Nat) : Bool × Nat:=if xn = yn then (xn,x + y) else if y ≤ x then (xn,x - y) else (yn,y - x)
theorem bsum_ev (hA : ∀ av bv x y H,Mag av x → Mag bv y → (wds x).length ≤ 100000 → (wds y).length ≤ 100000 → C zCJ [av,bv] H (zD7 (x + y)) H)
  (hS : ∀ av bv x y H,Mag av x → Mag bv y → y ≤ x → (wds x).length ≤ 100000 → C zBY [av,bv] H (zD7 (x - y)) H)
  (hC : ∀ av bv x y H,Mag av x → Mag bv y → (wds x).length ≤ 100000 → (wds y).length ≤ 100000 → C zCK [av,bv] H (zI (cmpN x y)) H)
  (av bv : AV) (xn yn : Bool) (x y : Nat) (H : Heap) (ha : Mag av x) (hb : Mag bv y) (h1 : (wds x).length ≤ 100000) (h2 : (wds y).length ≤ 100000) :
  EFun C GT zEm [.bool xn,av,.bool yn,bv] H (.tup [.bool (sumS xn x yn y).1,zD7 (sumS xn x yn y).2]) H:=by
 obtain ⟨r,hr⟩ : ∃ r,sumS xn x yn y = r:=⟨_,rfl⟩
 rw [hr]
 unfold sumS at hr
 have c1:=hA av bv x y H ha hb h1 h2
 have c2:=hC av bv x y H ha hb h1 h2
 refine zZ ?_
 by_cases he : xn = yn
 ·rw [zLx he] at hr
  subst hr
  subst he
  cases xn
  ·refine zG <| zL (c1) ?_
   exact sRr
  ·refine zG <| zL (c1) ?_
   exact sRr
 rw [zLv he] at hr
 by_cases hle : y ≤ x
 ·rw [zLx hle] at hr
  subst hr
  have c3:=hS av bv x y H ha hb hle h1
  have hg : decide (cmpN x y ≥ 0) = true:=by unfold cmpN; rw [zLv tO]; split <;> rfl
  cases xn <;> cases yn <;> first | exact absurd rfl he | skip
  all_goals
   refine zF <| zL (c2) ?_; refine zDh (fun _=>?_) (fun h=>absurd (hg.symm.trans h) (by simp))
   refine zL (c3) ?_
   exact sRr
 ·rw [zLv hle] at hr
  subst hr
  have c3:=hS bv av y x H hb ha tO h2
  have hg : decide (cmpN x y ≥ 0) = false:=by unfold cmpN; rw [zLx tO]; rfl
  cases xn <;> cases yn <;> first | exact absurd rfl he | skip
  all_goals
   refine zF <| zL (c2) ?_; refine zDh (fun h=>absurd (hg.symm.trans h) (by simp)) (fun _=>?_)
   refine zL (c3) ?_
   exact sRr
end
end Go.AM
set_option maxRecDepth 20000
namespace Go.AM
def zFm (v : Int) : List AV:=[.bool (decide (v < 0)),zD7 v.natAbs]
theorem wds_get : ∀ (n q : Nat),q < (wds n).length → (wds n)[q]? = some (n / 4294967296 ^ q % 4294967296):=by
 intro n
 induction n using Nat.strongRecOn with
 | ind n ih=>
  intro q hq
  have hn : n ≠ 0:=fun e=>by subst e; simp [zDd] at hq
  rw [zC4 hn] at hq ⊢
  cases q with
  | zero=>simp
  | succ q=>
   rw [zNl,ih _ tO q (by simpa using hq),zNt,zMp,zNC 4294967296]
theorem B_pow (q : Nat) : 4294967296 ^ q = 2 ^ (32 * q):=by rw [Nat.pow_mul]
theorem bit_of_word (m i : Nat) : m / 4294967296 ^ (i / 32) % 4294967296 / 2 ^ (i % 32) % 2 = m / 2 ^ i % 2:=by
 have hr : i % 32 < 32:=Nat.mod_lt _ tO
 obtain ⟨k,hk⟩ : ∃ k,32 = i % 32 + (k + 1):=⟨31 - i % 32,by omega⟩
 have e1 : (4294967296 : Nat) = 2 ^ (i % 32) * 2 ^ (k + 1):=by rw [← Nat.pow_add,← hk]
 have e2 : m / 4294967296 ^ (i / 32) % 4294967296 / 2 ^ (i % 32) = m / 4294967296 ^ (i / 32) / 2 ^ (i % 32) % 2 ^ (k + 1):=by
  conv=>lhs; lhs; rhs; rw [e1]
  rw [Nat.mod_mul_right_div_self]
 rw [e2,Nat.mod_mod_of_dvd _ (by rw [zMp]; exact Nat.dvd_mul_left 2 _),B_pow,zNt,← Nat.pow_add]
 have : 32 * (i / 32) + i % 32 = i:=Nat.div_add_mod i 32
 rw [this]
theorem bit_high {m i : Nat} (h : (wds m).length ≤ i / 32) : m / 2 ^ i % 2 = 0:=by
 have h1:=wds_lt m
 have h2 : 4294967296 ^ (wds m).length ≤ 4294967296 ^ (i / 32):=zMz tO h
 rw [B_pow (i / 32)] at h2
 have h3 : 2 ^ (32 * (i / 32)) ≤ 2 ^ i:=zMz tO tO
 rw [Nat.div_eq_of_lt tO]
theorem bits_shift : ∀ k n : Nat,n / 2 ^ k ≠ 0 → bits n = bits (n / 2 ^ k) + k
 | 0,n,_=>by simp
 | k + 1,n,h=>by
  have hn : n ≠ 0:=fun e=>by subst e; simp at h
  have e : n / 2 ^ (k + 1) = n / 2 / 2 ^ k:=by rw [zNt,zMp,zNC]
  rw [e] at h ⊢
  rw [zKi hn,bits_shift k (n / 2) h]
  omega
theorem bits_top : ∀ (m k : Nat),(wds m).length = k + 1 → bits m = k * 32 + bits (m / 4294967296 ^ k % 4294967296):=by
 intro m
 induction m using Nat.strongRecOn with
 | ind m ih=>
  intro k hk
  have hm : m ≠ 0:=fun e=>by subst e; simp [zDd] at hk
  rw [zC4 hm,zLw] at hk
  by_cases h2 : m / 4294967296 = 0
  ·rw [h2,zDd] at hk
   have : k = 0:=by simpa using hk.symm
   subst this
   rw [Nat.pow_zero,Nat.div_one,zN0 tO]; omega
  ·have h3 : (wds (m / 4294967296)).length ≠ 0:=by rw [zC4 h2]; simp
   obtain ⟨j,rfl⟩ : ∃ j,k = j + 1:=⟨k - 1,by omega⟩
   have h4:=ih (m / 4294967296) tO j tO
   have h5:=bits_shift 32 m (by simpa using h2)
   have e : (2 : Nat) ^ 32 = 4294967296:=by decide
   rw [e] at h5
   rw [h5,h4,zNt,zMp,zNC 4294967296]
   omega
theorem tz_exists : ∀ m : Nat,m ≠ 0 → ∃ n,m % 2 ^ n = 0 ∧ m / 2 ^ n % 2 = 1:=by
 intro m
 induction m using Nat.strongRecOn with
 | ind m ih=>
  intro h
  by_cases ho : m % 2 = 1
  ·exact ⟨0,by simp [Nat.mod_one],by simpa using ho⟩
  ·obtain ⟨n,h1,h2⟩:=ih (m / 2) tO tO
   refine ⟨n + 1, ?_, ?_⟩
   ·rw [zMp,zNC,Nat.mod_mul,h1]; omega
   ·rw [zMp,zNC,← Nat.div_div_eq_div_mul]; exact h2
theorem tz_low {m n k : Nat} (h : m % 2 ^ n = 0) (hk : k < n) : m / 2 ^ k % 2 = 0:=by
 obtain ⟨c,rfl⟩:=Nat.dvd_of_mod_eq_zero h
 obtain ⟨j,rfl⟩ : ∃ j,n = k + (j + 1):=⟨n - k - 1,by omega⟩
 rw [Nat.pow_add,zNU,Nat.mul_div_cancel_left _ (Nat.two_pow_pos k),zMp,zNC (2 ^ j) 2,zNU,Nat.mul_mod_right]
theorem tz_63 {m : Nat} (h : m < 18446744073709551616) (h1 : m % 2 ^ 63 = 0) (h2 : m / 2 ^ 63 % 2 = 1) : m = 9223372036854775808:=by
 have e : (2 : Nat) ^ 63 = 9223372036854775808:=by decide
 rw [e] at h1 h2
 omega
theorem shrN (w r : Nat) (h : r ≤ 32) : zCV .shr .u32 (w : Int) (r : Int) = some (.int .u32 ((w / 2 ^ r : Nat) : Int)):=by
 simp only [zCV]
 rw [zLv tO]
 have e : Nat.min (r : Int).toNat IntKind.u32.bits = r:=by
  rw [zMh]; exact zNb h
 have e2 : ((2 : Int) ^ r) = ((2 ^ r : Nat) : Int):=by simp
 rw [e,e2,zN2 _ (zOY _)]
 rfl
theorem shr1w (w : Nat) : zCV .shr .u32 (w : Int) 1 = some (.int .u32 ((w / 2 : Nat) : Int)):=by
 have:=shrN w 1 tO; simpa using this
theorem and1 (a : Nat) (h : a < 18446744073709551616) : zHg .and .u64 (a : Int) 1 = some (.int .u64 ((a % 2 : Nat) : Int)):=by
 simp only [zHg]
 have e : (BitVec.ofInt IntKind.u64.bits (a : Int) &&& BitVec.ofInt IntKind.u64.bits 1).toNat = a % 2:=by
  rw [BitVec.toNat_and]
  have h1 : (BitVec.ofInt IntKind.u64.bits (a : Int)).toNat = a:=by
   show (BitVec.ofInt 64 (a : Int)).toNat = a
   rw [BitVec.toNat_ofInt]
   have : ((a : Int) % ((2 ^ 64 : Nat) : Int)) = (a : Int):=by rw [Int.emod_eq_of_lt tO (by simp; omega)]
   rw [this,zMh]
  have h2 : (BitVec.ofInt IntKind.u64.bits 1).toNat = 1:=by decide
  rw [h1,h2,Nat.and_one_is_mod]
 rw [e,IntKind.wrap_u64]
 have : ((a % 2 : Nat) : Int) % 18446744073709551616 = ((a % 2 : Nat) : Int):=by omega
 rw [this]
theorem shl32 (a : Nat) (h : a < 4294967296) : zCV .shl .u64 (a : Int) 32 = some (.int .u64 ((a * 4294967296 : Nat) : Int)):=by
 simp only [zCV]
 rw [zLv tO]
 have : (2 : Int) ^ Nat.min (32 : Int).toNat IntKind.u64.bits = 4294967296:=by rfl
 rw [this,IntKind.wrap_u64]
 have : ((a : Int) * 4294967296) % 18446744073709551616 = ((a * 4294967296 : Nat) : Int):=by omega
 rw [this]
theorem or32 (a b : Nat) (ha : a < 4294967296) (hb : b < 4294967296) : zHg .or .u64 (a : Int) ((b * 4294967296 : Nat) : Int) = some (.int .u64 ((a + 4294967296 * b : Nat) : Int)):=by
 simp only [zHg]
 have of (x : Nat) (hx : x < 18446744073709551616) : (BitVec.ofInt IntKind.u64.bits (x : Int)).toNat = x:=by
  show (BitVec.ofInt 64 (x : Int)).toNat = x
  rw [BitVec.toNat_ofInt]
  have : ((x : Int) % ((2 ^ 64 : Nat) : Int)) = (x : Int):=by rw [Int.emod_eq_of_lt tO (by simp; omega)]
  rw [this,zMh]
 have e : (BitVec.ofInt IntKind.u64.bits (a : Int) ||| BitVec.ofInt IntKind.u64.bits ((b * 4294967296 : Nat) : Int)).toNat = a + 4294967296 * b:=by
  rw [BitVec.toNat_or,of a tO,of _ tO,Nat.or_comm,zNC b]
  have:=Nat.two_pow_add_eq_or_of_lt (i:=32) (b:=a) (by simpa using ha) b
  have e32 : (2 : Nat) ^ 32 = 4294967296:=by decide
  rw [e32] at this
  rw [← this]; omega
 rw [e,IntKind.wrap_u64]
 have : ((a + 4294967296 * b : Nat) : Int) % 18446744073709551616 = ((a + 4294967296 * b : Nat) : Int):=by omega
 rw [this]
theorem zJk {F : AF} {H H1 : Heap} {fr : Fr} {v : AV} {b : Nat} {cs : List AV} (hH : H1 = H.set b (.box cs)) (hk : F.keep = false) (hr : (zBT fr H1 F.results).map tupled = some v) (hf : zDq H.length v H1 = some (v,H1)) (hb : v.bel H.length = true) (hc : zFE H.length (.box cs) = true) :
  retP F H fr H1 v (H.set b (.box cs)):=by
 refine sRet ?_
 unfold zGP
 cases hs : zBT fr H1 F.results with
 | none=>rw [hs] at hr; cases hr
 | some vs=>
  rw [hs] at hr
  simp only [zMB,zLt] at hr
  subst hr
  simp only [hk,hf,zL5,zMP]
  subst hH
  refine ⟨hb,fun c hc'=>?_,trivial, ?_⟩
  ·by_cases e : b = c
   ·subst e
    exact .inr ⟨_,zMK hc',hc⟩
   ·exact .inl (zMJ e)
  ·rw [zMZ (by rw [zL3]; omega)]
theorem sRetK {F : AF} {H H1 : Heap} {fr : Fr} {v : AV} (hk : F.keep = true) (hr : (zBT fr H1 F.results).map tupled = some v) : retP F H fr H1 v H1:=by
 refine sRet ?_
 unfold zGP
 cases hs : zBT fr H1 F.results with
 | none=>rw [hs] at hr; cases hr
 | some vs=>
  rw [hs] at hr
  simp only [zMB,zLt] at hr
  subst hr
  simp only [hk,zMR]
  exact ⟨trivial,trivial⟩
section
variable {C : CSpec} {GT : Nat → Option AV}
theorem bit_ev (av : AV) (m i : Nat) (H : Heap) (ha : Mag av m) (hl : (wds m).length ≤ 100000) (hi : i ≤ 1000000) : EFun C GT zEq [av,zI i] H (u64V (m / 2 ^ i % 2)) H:=by
 obtain ⟨r,hr⟩ : ∃ r,m / 2 ^ i % 2 = r:=⟨_,rfl⟩
 have hd : (i : Int).tdiv 32 = ((i / 32 : Nat) : Int):=(Int.ofNat_tdiv i 32).symm
 rw [hr]
 refine zZ ?_; refine zF <| zFp (by decide) <| zN (r:=i / 32) hd tO <| zBD (wds m).length ha (by simp) <| zF ?_; refine zDh (fun h=>?_) (fun h=>?_)
 ·have h : (wds m).length ≤ i / 32:=by have:=zMb h; omega
  rw [bit_high h] at hr
  subst hr
  exact sRr
 ·have h : i / 32 < (wds m).length:=by have:=zMf h; omega
  have hg:=zJE h
  have hw:=zBe m _ (zMy h)
  have he:=wds_get m (i / 32) h
  rw [zLy h] at he
  have he:=zMI he
  have hb:=bit_of_word m i
  rw [← he,hr] at hb
  generalize (wds m)[i / 32] = w at *
  have hw2 : w / 2 ^ (i % 32) ≤ w:=Nat.div_le_self _ _
  have hm : (i : Int).tmod 32 = ((i % 32 : Nat) : Int):=(Int.ofNat_tmod i 32).symm
  subst hb
  refine zFp (by decide) <| zN (r:=i / 32) hd tO <| zD0 (i / 32) (zBA w) ha rfl hg <| zt (zBA w) rfl <| zDW (r:=i) rfl tO <| zFp (by decide) ?_; refine sVal (r:=((i % 32 : Nat) : Int)) hm <| zl (shrN w (i % 32) tO) <| zDW (r:=w / 2 ^ (i % 32)) rfl tO <| zl (and1 (w / 2 ^ (i % 32)) tO) ?_
  exact sRr
theorem tzb_ev (hB : ∀ (av : AV) (m i : Nat) (H : Heap),Mag av m → (wds m).length ≤ 100000 → i ≤ 1000000 → C zCL [av,zI i] H (u64V (m / 2 ^ i % 2)) H) (b m n : Nat) (x av : AV) (H : Heap) (hb : H[b]? = some (.box [x,av])) (ha : Mag av m) (h0 : m ≠ 0) (hl : (wds m).length ≤ 100) (hn : n ≤ 10000) (h1 : m % 2 ^ n = 0) (h2 : m / 2 ^ n % 2 = 1) :
  EFun C GT zA7 [.ref b 0 0 0] H (u64V n) H:=by
 have hlz : (wds m).length ≠ 0:=by rw [zC4 h0]; simp
 refine zZ ?_; refine zD (av) hb rfl <| zBD (wds m).length ha (by simp) ?_; refine zDh (fun h=>absurd (eq_of_beq h) tO) (fun _=>?_)
 refine zBm (fun k : Nat=>[(3,u64V k),(0,.ref b 0 0 0)]) (fun k H'=>H' = H ∧ k ≤ n) (fun k=>n - k) 0 rfl ⟨rfl,zMm _⟩ (fun k H1 ⟨e,hk⟩=>?_)
 subst e
 dsimp only
 have hbk:=hB av m k H1 ha tO tO
 by_cases hkn : k = n
 ·subst hkn
  rw [h2] at hbk
  refine zD (av) hb rfl <| zN (r:=k) rfl tO <| zL (hbk) <| zF ?_
  exact sRr
 ·rw [tz_low h1 (by omega : k < n)] at hbk
  refine zD (av) hb rfl <| zN (r:=k) rfl tO <| zL (hbk) <| zG <| zDW (r:=k + 1) rfl tO ?_
  exact zAU (k + 1) rfl ⟨rfl,by omega⟩ tO
structure SLe where
 t : Nat
 n : Nat
theorem length_ev (av : AV) (m : Nat) (H : Heap) (ha : Mag av m) (hl : (wds m).length ≤ 1000) : EFun C GT zDm [av] H (zK (bits m)) H:=by
 obtain ⟨r,hr⟩ : ∃ r,bits m = r:=⟨_,rfl⟩
 rw [hr]
 refine zZ ?_; refine zBD (wds m).length ha (by simp) ?_; refine zDh (fun h=>?_) (fun h=>?_)
 ·have h : (wds m).length = 0:=by have:=eq_of_beq h; omega
  have h0 : m = 0:=by
   by_cases e : m = 0
   ·exact e
   ·rw [zC4 e] at h; simp at h
  subst h0
  subst hr
  exact sRr
 ·have h : (wds m).length ≠ 0:=fun e=>by rw [e] at h; exact absurd h (by simp)
  obtain ⟨k,hk⟩ : ∃ k,(wds m).length = k + 1:=⟨(wds m).length - 1,by omega⟩
  have hlt : k < (wds m).length:=by omega
  have hg:=zJE hlt
  have he:=wds_get m k hlt
  rw [zLy hlt] at he
  have he:=zMI he
  have ht:=bits_top m k hk
  rw [← he,hr] at ht
  have hw:=zBe m _ (zMy hlt)
  generalize (wds m)[k] = w at *
  have hbw : bits w ≤ 32:=(bits_le 32 w).2 hw
  refine zBD (k + 1) ha (by simp [hk]) <| zN (r:=k) tO tO <| zD0 k (zBA w) ha rfl hg <| zt (zBA w) rfl ?_; refine zBm (fun s : SLe=>[(4,zBA s.t),(3,zK s.n),(0,av)]) (fun s H'=>H' = H ∧ s.n + bits s.t = bits w) (fun s=>s.t) ⟨w,0⟩ rfl ⟨rfl,by simp⟩ (fun ⟨t,n⟩ H1 ⟨e,hn⟩=>?_)
  subst e
  simp only at hn
  dsimp only
  refine zDh (fun hc=>?_) (fun hc=>?_)
  ·have hc : t ≠ 0:=fun e=>by rw [e] at hc; exact absurd hc (by simp)
   rw [zKi hc] at hn
   refine zN (r:=n + 1) rfl tO <| zl (shr1w t) ?_
   exact zAU (SLe.mk (t / 2) (n + 1)) rfl ⟨rfl,by simp only; omega⟩ (by simp only; omega)
  ·have hc : t = 0:=by simp only [zMQ] at hc; omega
   subst hc
   have hz : bits 0 = 0:=rfl
   rw [hz] at hn
   have hn' : n = bits w:=by omega
   subst hn'
   subst ht
   refine zBD (k + 1) ha (by simp [hk]) <| zN (r:=k) tO tO <| zN (r:=k * 32) tO tO <| zN (r:=k * 32 + bits w) tO tO ?_
   exact sRr
theorem uint64_ev (b m : Nat) (x av : AV) (H : Heap) (hb : H[b]? = some (.box [x,av])) (ha : Mag av m) (hm : m < 18446744073709551616) : EFun C GT zCb [.ref b 0 0 0] H (u64V m) H:=by
 refine zZ ?_
 by_cases h0 : m = 0
 ·subst h0
  refine zD (av) hb rfl <| zBD 0 ha rfl <| zF <| zD (av) hb rfl <| zBD 0 ha rfl <| zF ?_
  exact sRr
 have hw : wds m = (m % 4294967296) :: wds (m / 4294967296):=zC4 h0
 by_cases h1 : m / 4294967296 = 0
 ·rw [h1,zDd] at hw
  have hm' : m % 4294967296 = m:=by omega
  rw [hm'] at hw
  have ha' : zDB av 1 [zBA m]:=by unfold Mag at ha; rw [hw] at ha; exact ha
  refine zD (av) hb rfl <| zBD 1 ha' rfl <| zG <| zD (av) hb rfl <| zD0 0 (zBA m) ha' rfl rfl <| zt (zBA m) rfl ?_; refine zDW (r:=m) rfl tO <| zD (av) hb rfl <| zBD 1 ha' rfl <| zF ?_
  exact sRr
 ·have hw2 : wds (m / 4294967296) = [m / 4294967296]:=by
   rw [zC4 h1]
   have e1 : m / 4294967296 / 4294967296 = 0:=by omega
   have e2 : m / 4294967296 % 4294967296 = m / 4294967296:=by omega
   rw [e1,e2,zDd]
  rw [hw2] at hw
  have ha' : zDB av 1 [zBA (m % 4294967296),zBA (m / 4294967296)]:=by unfold Mag at ha; rw [hw] at ha; exact ha
  have e : m % 4294967296 + 4294967296 * (m / 4294967296) = m:=by omega
  have hor:=or32 (m % 4294967296) (m / 4294967296) tO tO
  rw [e] at hor
  refine zD (av) hb rfl <| zBD 2 ha' rfl <| zG <| zD (av) hb rfl <| zD0 0 (zBA (m % 4294967296)) ha' rfl rfl <| zt (zBA (m % 4294967296)) rfl ?_; refine zDW (r:=m % 4294967296) rfl tO <| zD (av) hb rfl <| zBD 2 ha' rfl <| zG <| zD (av) hb rfl <| zD0 1 (zBA (m / 4294967296)) ha' rfl rfl ?_; refine zt (zBA (m / 4294967296)) rfl <| zDW (r:=m / 4294967296) rfl tO <| zl (shl32 (m / 4294967296) tO) <| zl hor ?_
  exact sRr
theorem int64_ev (hU : ∀ b m x av H,H[b]? = some (.box [x,av]) → Mag av m → m < 18446744073709551616 → C zAl [.ref b 0 0 0] H (u64V m) H) (b : Nat) (v : Int) (H : Heap) (hb : H[b]? = some (.box (zFm v))) (hv : zDC v) :
  EFun C GT zCo [.ref b 0 0 0] H (zI v) H:=by
 unfold zDC at hv
 have hu:=hU b v.natAbs _ _ H hb (zHG _) tO
 unfold zFm at hb
 refine zZ ?_
 by_cases hn : v < 0
 ·rw [zMM hn] at hb
  have e : aUn .neg (.int .i64 (if v = -9223372036854775808 then v else -v)) = some (zI v):=by
   simp only [aUn]
   rw [IntKind.wrap_i64]
   by_cases h : v = -9223372036854775808
   ·subst h; rfl
   ·rw [zLv h]
    have : (0 - -v + 9223372036854775808) % 18446744073709551616 - 9223372036854775808 = v:=by omega
    rw [this]; rfl
  refine zL (hu) <| sVal (r:=if v = -9223372036854775808 then v else -v) (by rw [IntKind.wrap_i64]; split <;> omega) <| zD (AV.bool true) hb rfl <| zG <| zl e ?_
  exact sRr
 ·rw [zMV hn] at hb
  refine zL (hu) <| sVal (r:=v) (by rw [IntKind.wrap_i64]; omega) <| zD (AV.bool false) hb rfl <| zF ?_
  exact sRr
theorem isInt64_ev (hL : ∀ av m H,Mag av m → (wds m).length ≤ 1000 → C zBZ [av] H (zK (bits m)) H)
  (hT : ∀ b m n x av H,H[b]? = some (.box [x,av]) → Mag av m → m ≠ 0 → (wds m).length ≤ 100 → n ≤ 10000 → m % 2 ^ n = 0 → m / 2 ^ n % 2 = 1 → C zAD [.ref b 0 0 0] H (u64V n) H)
  (b : Nat) (v : Int) (H : Heap) (hb : H[b]? = some (.box (zFm v))) (hv : (wds v.natAbs).length ≤ 100) : EFun C GT zCS [.ref b 0 0 0] H (.bool (decide (zDC v))) H:=by
 obtain ⟨r,hr⟩ : ∃ r,decide (zDC v) = r:=⟨_,rfl⟩
 rw [hr]
 have hl:=hL (zD7 v.natAbs) v.natAbs H (zHG _) tO
 have b63:=bits_le 63 v.natAbs
 have b64:=bits_le 64 v.natAbs
 have e63 : (2 : Nat) ^ 63 = 9223372036854775808:=by decide
 have e64 : (2 : Nat) ^ 64 = 18446744073709551616:=by decide
 rw [e63] at b63
 rw [e64] at b64
 have hb2 : H[b]? = some (.box [.bool (decide (v < 0)),zD7 v.natAbs]):=hb
 clear hb
 refine zZ ?_; refine zD (zD7 v.natAbs) hb2 rfl <| zL (hl) ?_
 generalize bits v.natAbs = L at *
 refine zDh (fun h=>?_) (fun h=>?_)
 ·have h : L ≤ 63:=by have:=zMb h; omega
  have : zDC v:=by unfold zDC; have:=b63.1 h; omega
  rw [zMM this] at hr
  subst hr
  refine zG ?_
  exact sRr
 ·have h : ¬ L ≤ 63:=by have:=zMf h; omega
  have hbig : ¬ v.natAbs < 9223372036854775808:=fun h'=>h (b63.2 h')
  refine zDh (fun h64=>?_) (fun h64=>?_)
  ·have h64 : L ≤ 64:=by have:=eq_of_beq h64; omega
   have hlt:=b64.1 h64
   by_cases hn : v < 0
   ·rw [zMM hn] at hb2
    obtain ⟨n,t1,t2⟩:=tz_exists v.natAbs tO
    have hn64 : n < 64:=by
     rcases zNJ n 64 with h | h
     ·exact h
     ·have h1 : 2 ^ 64 ≤ 2 ^ n:=zMz tO h
      rw [e64] at h1
      rw [zN0 tO] at t1
      omega
    have ht:=hT b v.natAbs n _ _ H hb2 (zHG _) tO hv tO t1 t2
    by_cases h63 : n = 63
    ·subst h63
     have:=tz_63 hlt t1 t2
     have hin : zDC v:=by unfold zDC; omega
     rw [zMM hin] at hr
     subst hr
     refine zD (AV.bool true) hb2 rfl <| zG <| zG <| zL (ht) <| zG <| zF ?_
     exact sRr
    ·have hin : ¬ zDC v:=fun hin=>by
      unfold zDC at hin
      have e : v.natAbs = 2 ^ 63:=by rw [e63]; omega
      rw [e] at t1 t2
      rcases Nat.lt_or_gt_of_ne h63 with h | h
      ·have:=tz_low (m:=2 ^ 63) (n:=63) (k:=n) (Nat.mod_self _) h
       omega
      ·have h1 : (2 : Nat) ^ 63 < 2 ^ n:=Nat.pow_lt_pow_right tO h
       rw [zN0 h1] at t1
       omega
     have hne : ((n : Int) == 63) = false:=by rw [beq_eq_false_iff_ne]; omega
     rw [zMV hin] at hr
     subst hr
     refine zD (AV.bool true) hb2 rfl <| zG <| zG <| zL (ht) <| zG <| zF ?_
     exact zGx (zML AV.bool hne.symm) rfl rfl rfl rfl (Old.refl _)
   ·rw [zMV hn] at hb2
    have hin : ¬ zDC v:=fun hin=>by unfold zDC at hin; omega
    rw [zMV hin] at hr
    subst hr
    refine zD (AV.bool false) hb2 rfl <| zG <| zF <| zF <| zF ?_
    exact sRr
  ·have h64 : ¬ L ≤ 64:=fun h'=>by
    have : L = 64:=by omega
    rw [this] at h64
    exact absurd h64 (by simp)
   have hgt : ¬ v.natAbs < 18446744073709551616:=fun h'=>h64 (b64.2 h')
   have hin : ¬ zDC v:=fun hin=>by unfold zDC at hin; omega
   rw [zMV hin] at hr
   subst hr
   refine zF <| zF <| zF <| zF ?_
   exact sRr
theorem give_ev (b n : Nat) (neg : Bool) (x0 x1 : AV) (H : Heap) (hb : H[b]? = some (.box [x0,x1])) : EFun C GT zBu [.ref b 0 0 0,.bool neg,zD7 n] H (.ref b 0 0 0) (H.set b (.box [.bool (neg && decide (0 < n)),zD7 n])):=by
 have hbl : b < H.length:=(zg hb).1
 have hz : ((wds n).length > 0) ↔ 0 < n:=by
  by_cases e : n = 0
  ·subst e; simp [zDd]
  ·rw [zC4 e]; simp; omega
 have hd : decide (((wds n).length : Int) > 0) = decide (0 < n):=by
  rw [zNp,zNA,zNA,← hz]; omega
 refine zZ ?_
 cases neg
 ·refine zH (v:=zD7 n) [x0,zD7 n] hb rfl rfl rfl rfl <| zF <| zF <| zH (v:=AV.bool false) [AV.bool false,zD7 n] (zE hb) rfl rfl rfl rfl ?_
  exact zJk (by rw [zOB]; rfl) rfl rfl rfl (zMM hbl) rfl
 ·refine zH (v:=zD7 n) [x0,zD7 n] hb rfl rfl rfl rfl <| zG <| zBD (wds n).length (zHG n) (by simp) <| zG <| zH (v:=.bool (decide (((wds n).length : Int) > 0))) [.bool (decide (((wds n).length : Int) > 0)),zD7 n] (zE hb) rfl rfl rfl rfl ?_
  exact zJk (by rw [zOB,hd]; rfl) rfl rfl rfl (zMM hbl) rfl
theorem setInt64_ev (hW : ∀ x H,x < 18446744073709551616 → C zBk [u64V x] H (zD7 x) H) (hG : ∀ b n neg x0 x1 H,H[b]? = some (.box [x0,x1]) → C zn [.ref b 0 0 0,.bool neg,zD7 n] H (.ref b 0 0 0) (H.set b (.box [.bool (neg && decide (0 < n)),zD7 n])))
  (b : Nat) (v : Int) (x0 x1 : AV) (H : Heap) (hb : H[b]? = some (.box [x0,x1])) (hv : zDC v) : EFun C GT zCM [.ref b 0 0 0,zI v] H (.ref b 0 0 0) (H.set b (.box (zFm v))):=by
 have hbl : b < H.length:=(zg hb).1
 unfold zDC at hv
 have hw:=hW v.natAbs H tO
 have hg:=hG b v.natAbs (decide (v < 0)) x0 x1 H hb
 have e0 : (decide (v < 0) && decide (0 < v.natAbs)) = decide (v < 0):=by
  by_cases h : v < 0
  ·rw [zMM h,tT (by omega : 0 < v.natAbs)]; rfl
  ·rw [zMV h]; rfl
 rw [e0] at hg
 refine zZ ?_
 by_cases hn : v < 0
 ·have e : aUn .neg (.int .u64 (18446744073709551616 + v)) = some (u64V v.natAbs):=by
   simp only [aUn]
   rw [IntKind.wrap_u64]
   have : (0 - (18446744073709551616 + v)) % 18446744073709551616 = (v.natAbs : Int):=by omega
   rw [this]; rfl
  refine sVal (r:=18446744073709551616 + v) (by rw [IntKind.wrap_u64]; omega) ?_; refine zDh (fun _=>?_) (fun h=>absurd hn (zMf h))
  refine zl e <| zL (hw) <| zAc hg (fun h=>by cases h) ?_
  exact zJk rfl rfl rfl rfl (zMM hbl) rfl
 ·refine sVal (r:=(v.natAbs : Int)) (by rw [IntKind.wrap_u64]; omega) ?_; refine zDh (fun h=>absurd (zMb h) hn) (fun _=>?_)
  refine zL (hw) <| zAc hg (fun h=>by cases h) ?_
  exact zJk rfl rfl rfl rfl (zMM hbl) rfl
def a_bigNew : AF:={ zG5 with keep:=true }
theorem newInt_ev (hS : ∀ b v x0 x1 H,H[b]? = some (.box [x0,x1]) → zDC v → C zAb [.ref b 0 0 0,zI v] H (.ref b 0 0 0) (H.set b (.box (zFm v)))) (v : Int) (H : Heap) (hv : zDC v) :
  EFun C GT a_bigNew [zI v] H (.ref H.length 0 0 0) (H ++ [.box (zFm v)]):=by
 have hs:=hS H.length v (.bool false) (.lst (some true) 0 []) (H ++ [.box zV8]) zB hv
 have e : (H ++ [ABlk.box zV8]).set H.length (.box (zFm v)) = H ++ [.box (zFm v)]:=by
  rw [zNc _ _ (zL0 _),Nat.sub_self]; rfl
 rw [e] at hs
 refine zZ ?_; refine zAc hs (fun h=>by cases h) ?_
 exact sRetK rfl rfl
theorem fits_ev (hI : ∀ b v H,H[b]? = some (.box (zFm v)) → (wds v.natAbs).length ≤ 100 → C zAh [.ref b 0 0 0] H (.bool (decide (zDC v))) H) (b : Nat) (v : Int) (H : Heap) (hb : H[b]? = some (.box (zFm v))) (hv : (wds v.natAbs).length ≤ 100) :
  EFun C GT zHq [.ref b 0 0 0] H (.bool (decide (zDC v))) H:=by
 have h:=hI b v H hb hv
 refine zZ ?_; refine zL (h) ?_
 exact sRr
theorem wds_fit {n k : Nat} (h : n < 4294967296 ^ k) : (wds n).length ≤ k:=by
 rcases zNJ k (wds n).length with h2 | h2
 ·have hn : n ≠ 0:=fun e=>by subst e; simp [zDd] at h2
  have h3:=wds_ge n hn
  have h4 : 4294967296 ^ k ≤ 4294967296 ^ ((wds n).length - 1):=zMz tO tO
  omega
 ·exact h2
end
end Go.AM
set_option maxRecDepth 20000
namespace Go.AM
def mulV (v : Nat) : AV:=if v = 0 then .lst (some true) 0 [] else zD7 (v * 10)
theorem mulV_mag (v : Nat) : Mag (mulV v) (v * 10):=by
 unfold mulV
 by_cases h : v = 0
 ·rw [zLx h]; subst h; exact ⟨some true,0,rfl,.inr rfl⟩
 ·rw [zLv h]; exact zHG _
theorem wds_ten : wds 10 = [10]:=by rw [zC4 (by decide)]; rfl
theorem set_pad2 (ds : List Nat) (c m d e : Nat) : ((((ds ++ c :: List.replicate (m + 1) 0).map zBA).set ds.length (zBA d)).set (ds.length + 1) (zBA e)) = ((ds ++ [d]) ++ e :: List.replicate m 0).map zBA:=by
 rw [← List.map_set,← List.map_set,zNc _ _ (zL0 _),Nat.sub_self,zNc _ _ tO,zNX]
 simp [zN6]
theorem get_pad1 (ds : List Nat) (c : Nat) (zs : List Nat) : ((ds ++ c :: zs).map zBA)[ds.length]? = some (zBA c):=by
 rw [zL9,zMC (zL0 _),Nat.sub_self]; rfl
theorem get_pad2 (ds : List Nat) (c m d : Nat) : (((ds ++ c :: List.replicate (m + 1) 0).map zBA).set ds.length (zBA d))[ds.length + 1]? = some (zBA 0):=by
 rw [zMJ tO,zL9,zMC tO,zNX]; rfl
structure SMu where
 i : Nat
 c : Nat
 ds : List Nat
structure SMj where
 j : Nat
 c : Nat
section
variable {C : CSpec} {GT : Nat → Option AV}
theorem mul10_ev (hT : ∀ b m ws H,ws.length = m → H[b]? = some (.row 1 (ws.map zBA)) → Small ws → m ≤ 1000000 → C zw [.sl (some false) b 1 0 m] H (.sl (some false) b 1 0 (wds (wval ws)).length) H)
  (av : AV) (x n : Nat) (H : Heap) (ha : Mag av x) (hn : (wds x).length = n) (hl : n ≤ 100000) : EFun C GT zEl [av,zD7 10] H (mulV x) H:=by
 have hal : ((wds x).map zBA).length = n:=by rw [zL6,hn]
 have hb : zDB (zD7 10) 1 [zBA 10]:=by have:=zHG 10; unfold Mag at this; rw [wds_ten] at this; exact this
 refine zZ ?_
 unfold mulV
 by_cases h0 : x = 0
 ·subst h0
  have hn0 : n = 0:=by rw [← hn]; rfl
  rw [zLx rfl]
  refine zBD n ha hal ?_; refine zb tE <| zG <| zG ?_
  exact sRr
 rw [zLv h0]
 have hn1 : n ≠ 0:=by rw [← hn,zC4 h0]; simp
 refine zBD n ha hal ?_; refine zY tN ?_; refine zBD 1 hb rfl ?_; refine zF <| zY tN ?_; refine zBD n ha hal ?_; refine zBD 1 hb rfl ?_; refine zN (r:=n + 1) rfl tO ?_; refine sMake (n:=n + 1) rfl (Int.le_refl _) ⟨by omega,by omega⟩ rfl ?_; refine zBm (fun s : SMu=>[(6,zK s.i),(5,.sl (some false) H.length 1 0 (n + 1)),(1,zD7 10),(0,av)])
  (fun s H'=>Old H H' ∧ s.ds.length = s.i ∧ s.i ≤ n ∧ Small s.ds ∧ s.c ≤ 10 ∧ H'[H.length]? = some (.row 1 ((s.ds ++ s.c :: List.replicate (n - s.i) 0).map zBA)) ∧ wval s.ds + 4294967296 ^ s.i * s.c = wval ((wds x).take s.i) * 10) (fun s=>n - s.i) ⟨0,0,[]⟩ rfl
  ⟨(Old.refl _).push _,rfl,zMm _,(fun w hw=>by cases hw),by simp only; omega,by rw [zM1,zOA,← List.replicate_succ,zOZ]; exact zB,rfl⟩ (fun ⟨i,c,ds⟩ H1 ⟨hO,hd,hi,hsm,hc,hrow,hval⟩=>?_)
 simp only at hd hi hsm hc hrow hval
 dsimp only
 refine zBD n ha hal ?_; refine zDh (fun h=>?_) (fun h=>?_)
 ·have h : i < n:=by have:=zMb h; omega
  have hx : i < (wds x).length:=by omega
  have hax:=zJE hx
  have htx:=zCs hx
  have hsx:=zBe x _ (zMy hx)
  obtain ⟨a,had⟩ : ∃ a,(wds x)[i] = a:=⟨_,rfl⟩
  rw [had] at hax htx hsx
  obtain ⟨m,hm⟩ : ∃ m,n - i = m + 1:=⟨n - i - 1,by omega⟩
  rw [hm] at hrow
  have hg1:=get_pad1 ds c (List.replicate (m + 1) 0)
  have hg2:=fun d=>get_pad2 ds c m d
  have hset:=fun d e=>set_pad2 ds c m d e
  rw [hd] at hg1 hg2 hset
  have hsz : H1.length > H.length:=(zg hrow).1
  refine zBm (fun s : SMj=>[(8,zK s.j),(6,zK i),(5,.sl (some false) H.length 1 0 (n + 1)),(1,zD7 10),(0,av),(7,u64V s.c)])
   (fun s H'=>(s.j = 0 ∧ s.c = 0 ∧ H' = H1) ∨ (s.j = 1 ∧ s.c = (a * 10 + c) / 4294967296 ∧ H' = H1.set H.length (.row 1 (((ds ++ c :: List.replicate (m + 1) 0).map zBA).set i (zBA ((a * 10 + c) % 4294967296)))))) (fun s=>1 - s.j) ⟨0,0⟩ rfl (.inl ⟨rfl,rfl,rfl⟩) (fun ⟨j,c2⟩ H2 hj=>?_)
  dsimp only at hj ⊢
  rcases hj with ⟨rfl,rfl,rfl⟩ | ⟨rfl,rfl,rfl⟩
  ·refine zBD 1 hb rfl ?_; refine zb (tT (by decide)) ?_; refine zD0 i (zBA a) ha rfl hax ?_; refine zt (zBA a) rfl ?_; refine zDW (r:=a) rfl tO ?_; refine zD0 0 (zBA 10) hb rfl rfl ?_; refine zt (zBA 10) rfl ?_; refine zDW (r:=10) rfl tO ?_; refine zDW (r:=a * 10) rfl tO ?_; refine zN (r:=i) tO tO ?_; refine sAt ⟨by omega,by omega⟩ ?_; refine zBV i (zBA c) (zBA c) tO hrow hg1 rfl ?_; refine zDW (r:=c) rfl tO ?_
   refine zDW (r:=a * 10 + c) rfl tO ?_; refine zDW (r:=a * 10 + c) tO tO ?_; refine zN (r:=i) tO tO ?_; refine sWu32 ((a * 10 + c) % 4294967296) tO ?_; refine sAt ⟨by omega,by omega⟩ ?_; refine zLD i (zBA ((a * 10 + c) % 4294967296)) tO hrow hg1 rfl (by decide) rfl (fun cs h=>by cases h) ?_; refine zl (shr32 (a * 10 + c)) ?_; refine zN (r:=1) tO tO ?_; refine zAU (SMj.mk 1 ((a * 10 + c) / 4294967296)) rfl (.inr ⟨rfl,rfl,rfl⟩) (by simp)
  ·have hrow2 : (H1.set H.length (.row 1 (((ds ++ c :: List.replicate (m + 1) 0).map zBA).set i (zBA ((a * 10 + c) % 4294967296)))))[H.length]? = some (.row 1 (((ds ++ c :: List.replicate (m + 1) 0).map zBA).set i (zBA ((a * 10 + c) % 4294967296)))):=zE hrow
   refine zBD 1 hb rfl ?_; refine zY (tF (by decide)) ?_; refine zBD 1 hb rfl ?_; refine zN (r:=i + 1) rfl tO ?_; refine sWu32 ((a * 10 + c) / 4294967296) tO ?_; refine sAt ⟨by omega,by omega⟩ ?_; refine zLD (i + 1) (zBA ((a * 10 + c) / 4294967296)) tO hrow2 (hg2 _) rfl (by decide) rfl (fun cs h=>by cases h) ?_; refine zN (r:=i + 1) rfl tO ?_; refine zAU (SMu.mk (i + 1) ((a * 10 + c) / 4294967296) (ds ++ [(a * 10 + c) % 4294967296])) rfl ⟨(hO.set (zL0 _) _).set (zL0 _) _,by simp [hd],by simp only; omega,hsm.snoc tO,by simp only; omega, ?_, ?_⟩ (by simp only; omega)
   ·have : n - (i + 1) = m:=by omega
    simp only [this]
    rw [hset]
    exact zE hrow2
   ·simp only [zDT,hd,htx,zMp]
    have e : (a * 10 + c) % 4294967296 + 4294967296 * ((a * 10 + c) / 4294967296) = a * 10 + c:=by omega
    have e2 : 4294967296 ^ i * ((a * 10 + c) % 4294967296) + 4294967296 ^ i * 4294967296 * ((a * 10 + c) / 4294967296) = 4294967296 ^ i * a * 10 + 4294967296 ^ i * c:=by
     rw [zNU,← Nat.mul_add,e,zN3,zNU]
    rw [zMd]
    omega
 ·have h : i = n:=by have:=zMf h; omega
  subst h
  rw [Nat.sub_self,zOU] at hrow
  rw [zMZ tO,zDe,← hd,← zDT] at hval
  have hsm2 : Small (ds ++ [c]):=hsm.snoc tO
  have ht:=hT H.length (i + 1) (ds ++ [c]) _ (by simp [hd]) hrow hsm2 tO
  rw [hval] at ht
  refine zL ht ?_
  exact sRetF rfl rfl (frz_mag (zL0 _) hrow hsm2 hval) rfl (hO.set (zL0 _) _)
theorem give0_ev (b : Nat) (xs : List AV) (nv x0 x1 : AV) (H : Heap) (hb : H[b]? = some (.box [x0,x1])) (hv : zDB nv 1 xs) : EFun C GT zBu [.ref b 0 0 0,.bool false,nv] H (.ref b 0 0 0) (H.set b (.box [.bool false,nv])):=by
 have hbl : b < H.length:=(zg hb).1
 obtain ⟨q,k',rfl,hk⟩:=hv
 refine zZ ?_; refine zH (v:=AV.lst q k' xs) [x0,AV.lst q k' xs] hb rfl rfl rfl rfl ?_; refine zF <| zF ?_; refine zH (v:=AV.bool false) [AV.bool false,AV.lst q k' xs] (zE hb) rfl rfl rfl rfl ?_
 exact zJk (zOB ..) rfl rfl rfl (zMM hbl) rfl
theorem bigMul_ev (hM : ∀ av x H,Mag av x → (wds x).length ≤ 100000 → C zCH [av,zD7 10] H (mulV x) H)
  (hG : ∀ b xs nv x0 x1 H,H[b]? = some (.box [x0,x1]) → zDB nv 1 xs → C zn [.ref b 0 0 0,.bool false,nv] H (.ref b 0 0 0) (H.set b (.box [.bool false,nv])))
  (b t v : Nat) (av : AV) (H : Heap) (hb : H[b]? = some (.box [.bool false,av])) (ht : H[t]? = some (.box (zFm 10))) (ha : Mag av v) (hl : (wds v).length ≤ 1000) :
  EFun C GT zDO [.ref b 0 0 0,.ref b 0 0 0,.ref t 0 0 0] H (.ref b 0 0 0) (H.set b (.box [.bool false,mulV v])):=by
 have hbl : b < H.length:=(zg hb).1
 have hm:=hM av v H ha tO
 have hg:=hG b _ (mulV v) _ _ H hb (mulV_mag v)
 clear hM hG
 have ht : H[t]? = some (.box [.bool false,zD7 10]):=ht
 refine zZ ?_; refine zD (AV.bool false) hb rfl ?_; refine zD (AV.bool (decide (10 < 0))) ht rfl ?_; refine zD (av) hb rfl ?_; refine zD (zD7 (Int.natAbs 10)) ht rfl ?_; refine zL hm ?_; refine zAc hg (fun h=>by cases h) ?_
 exact zJk rfl rfl rfl rfl (zMM hbl) (by unfold mulV; split <;> rfl)
theorem bigAddM_ev (hS : ∀ av bv xn yn x y H,Mag av x → Mag bv y → (wds x).length ≤ 100000 → (wds y).length ≤ 100000 → C zCI [.bool xn,av,.bool yn,bv] H (.tup [.bool (sumS xn x yn y).1,zD7 (sumS xn x yn y).2]) H)
  (hG : ∀ b n neg x0 x1 H,H[b]? = some (.box [x0,x1]) → C zn [.ref b 0 0 0,.bool neg,zD7 n] H (.ref b 0 0 0) (H.set b (.box [.bool (neg && decide (0 < n)),zD7 n])))
  (b t v d : Nat) (av : AV) (H : Heap) (hb : H[b]? = some (.box [.bool false,av])) (ht : H[t]? = some (.box (zFm d))) (ha : Mag av v) (hl : (wds v).length ≤ 1000) (hd : (wds d).length ≤ 1000) :
  EFun C GT zDP [.ref b 0 0 0,.ref b 0 0 0,.ref t 0 0 0] H (.ref b 0 0 0) (H.set b (.box (zFm ((v + d : Nat) : Int)))):=by
 have hbl : b < H.length:=(zg hb).1
 have e1 : zFm (d : Int) = [.bool false,zD7 d]:=by unfold zFm; rw [tF]; rfl
 have e2 : zFm ((v + d : Nat) : Int) = [.bool false,zD7 (v + d)]:=by unfold zFm; rw [tF]; rfl
 have hs:=hS av (zD7 d) false false v d H ha (zHG _) tO tO
 have es : sumS false v false d = (false,v + d):=rfl
 rw [es] at hs
 have hg:=hG b (v + d) false (.bool false) av H hb
 rw [e1] at ht
 rw [e2]
 clear hS hG
 refine zZ ?_; refine zD (AV.bool false) hb rfl ?_; refine zD (av) hb rfl ?_; refine zD (AV.bool false) ht rfl ?_; refine zD (zD7 d) ht rfl ?_; refine zL hs ?_; refine zl rfl ?_; refine zl rfl ?_; refine zAc hg (fun h=>by cases h) ?_
 exact zJk rfl rfl rfl rfl (zMM hbl) rfl
end
end Go.AM
set_option maxRecDepth 20000
namespace Go.AM
def zJl : Option Int → AV
 | some n=>.tup [zI n,.bool true]
 | none=>.tup [zI 0,.bool false]
theorem dec_take {s : Bs} {i : Nat} {c : UInt8} (h : s[i]? = some c) : zCi (s.take (i + 1)) = zCi (s.take i) * 10 + (c.toNat - 48):=by
 rw [List.take_add_one,h]
 exact decV_snoc _ _
theorem all_take {s : Bs} {i : Nat} {c : UInt8} (h : s[i]? = some c) : (s.take (i + 1)).all zGm = ((s.take i).all zGm && zGm c):=by
 rw [List.take_add_one,h,List.all_append]
 simp
theorem bigC_nat (n : Nat) : zFm (n : Int) = [.bool false,zD7 n]:=by unfold zFm; rw [tF]; rfl
theorem pow_words2 (k : Nat) : 10 ^ (9 * k) ≤ 4294967296 ^ k:=by
 rw [Nat.pow_mul]; exact Nat.pow_le_pow_left (by decide) k
theorem dec_words {s : Bs} (h : s.all zGm = true) (hl : s.length ≤ 200) : (wds (zCi s)).length ≤ 23:=by
 refine wds_fit ?_
 have h1:=zLm s h
 have h2 : 10 ^ s.length ≤ 10 ^ (9 * 23):=zMz (by decide) tO
 exact zMa h1 (zNH h2 (pow_words2 23))
section
variable {C : CSpec} {GT : Nat → Option AV}
theorem rwhole_ev (hNew : ∀ v H,zDC v → C zAY [zI v] H (.ref H.length 0 0 0) (H ++ [.box (zFm v)]))
  (hMul : ∀ b t v av H,H[b]? = some (.box [.bool false,av]) → H[t]? = some (.box (zFm 10)) → Mag av v → (wds v).length ≤ 1000 → C zAe [.ref b 0 0 0,.ref b 0 0 0,.ref t 0 0 0] H (.ref b 0 0 0) (H.set b (.box [.bool false,mulV v])))
  (hAdd : ∀ (b t v d : Nat) (av : AV) (H : Heap),H[b]? = some (.box [.bool false,av]) → H[t]? = some (.box (zFm d)) → Mag av v → (wds v).length ≤ 1000 → (wds d).length ≤ 1000 → C zAf [.ref b 0 0 0,.ref b 0 0 0,.ref t 0 0 0] H (.ref b 0 0 0) (H.set b (.box (zFm ((v + d : Nat) : Int)))))
  (hFit : ∀ b v H,H[b]? = some (.box (zFm v)) → (wds v.natAbs).length ≤ 100 → C zCn [.ref b 0 0 0] H (.bool (decide (zDC v))) H)
  (hI : ∀ b v H,H[b]? = some (.box (zFm v)) → zDC v → C zAS [.ref b 0 0 0] H (zI v) H)
  (s : Bs) (H : Heap) (hl : s.length ≤ 200) : EFun C GT zCR [.str s,.bool false] H (zJl (zAq s)) H:=by
 refine zZ ?_
 cases s with
 | nil=>
  clear hNew hMul hAdd hFit hI
  refine zF <| zF <| zF <| zF <| zF <| zG <| zG <| zG ?_
  exact sRr
 | cons c0 r0=>
 have hc0 : (c0 :: r0)[0]? = some c0:=rfl
 have hne : ((c0 :: r0) == ([] : Bs)) = false:=rfl
 obtain ⟨s,hs⟩ : ∃ s,c0 :: r0 = s:=⟨_,rfl⟩
 have hh : s.head? = some c0:=by rw [← hs]; rfl
 have hs0 : s ≠ []:=by rw [← hs]; simp
 have hs1 : 1 ≤ s.length:=by rw [← hs]; simp
 rw [hs] at hc0 hne hl ⊢
 clear hs r0
 by_cases h48 : c0.toNat = 48 ∧ s ≠ [48]
 ·have e : zAq s = none:=by
   unfold zAq
   rw [zLx (.inr ⟨by rw [hh,show c0 = 48 from zME.1 h48.1],h48.2⟩)]
  rw [e]
  clear hNew hMul hAdd hFit hI
  refine zF <| zF <| zF <| zF <| zF <| zY hne ?_; refine zr rfl hc0 <| zb tE <| zG <| zF <| zb (zMg.2 h48.2) ?_
  exact sRr
 have hform : ¬ (s = [] ∨ (s.head? = some 48 ∧ s ≠ [48])):=by
  rintro (h | ⟨h,h'⟩)
  ·exact hs0 h
  ·rw [hh] at h; cases h; exact h48 ⟨rfl,h'⟩
 have main : loopP C GT [8,6,7,0] zFO (zJz 0 [7,0,6] (seqK (EW C GT (AC.rest (AC.rest (AC.rest (AC.rest (AC.rest (AC.rest zG3)))))) (finF zCR H (zJl (zAq s)) H)) (finF zCR H (zJl (zAq s)) H))) [(8,zK 0),(6,.str s),(7,.ref H.length 0 0 0),(0,.str s)] (H ++ [.box zV8]):=by
  have hwp : zAq s = if s.all zGm = true then (if zCi s ≤ 9223372036854775807 then some (zCi s : Int) else none) else none:=by unfold zAq; rw [zLv hform]
  rw [hwp]
  obtain ⟨r,hr⟩ : ∃ r,(if s.all zGm = true then (if zCi s ≤ 9223372036854775807 then some (zCi s : Int) else none) else none) = r:=⟨_,rfl⟩
  rw [hr]
  refine zBm (fun i : Nat=>[(8,zK i),(6,.str s),(7,.ref H.length 0 0 0),(0,.str s)])
   (fun i H'=>Old H H' ∧ i ≤ s.length ∧ (s.take i).all zGm = true ∧ ∃ av,H'[H.length]? = some (.box [.bool false,av]) ∧ Mag av (zCi (s.take i)) ∧ (1 ≤ i → av = zD7 (zCi (s.take i))))
   (fun i=>s.length - i) 0 rfl ⟨(Old.refl _).push _,by omega,rfl,_,zB,⟨some true,0,rfl,.inr rfl⟩,fun h=>by omega⟩ (fun i H1 ⟨hO,hi,hd,av,hb,hm,hav⟩=>?_)
  try dsimp only
  have hw:=dec_words hd (by rw [zMA]; omega)
  by_cases hlt : i < s.length
  ·obtain ⟨c,hc⟩ : ∃ c,s[i]? = some c:=⟨_,zLy hlt⟩
   have hdt:=dec_take hc
   have hat:=all_take hc
   have hc256 : c.toNat < 256:=zM4 c
   by_cases hdg : zGm c = true
   ·have hdg':=hdg
    unfold zGm at hdg'
    simp only [zLu,zMF] at hdg'
    rw [hd,hdg] at hat
    have hd2 : (wds (c.toNat - 48)).length ≤ 1000:=zNH (wds_fit (k:=1) tO) tO
    have hmw : (wds (zCi (s.take i) * 10)).length ≤ 1000:=by
     have h1:=zLm (s.take (i + 1)) hat
     refine zNH (wds_fit (k:=23) ?_) tO
     have h2 : 10 ^ (s.take (i + 1)).length ≤ 10 ^ (9 * 23):=zMz (by decide) (by rw [zMA]; omega)
     have h3:=pow_words2 23
     omega
    have hn10:=hNew 10
    have hnd:=hNew ((c.toNat - 48 : Nat) : Int)
    have hmul:=fun t H h1 h2=>hMul H1.length t (zCi (s.take i)) av H h1 h2
    clear hFit hI hNew
    have hbl : H.length < H1.length:=(zg hb).1
    refine zb tT <| zr rfl hc <| zY tF <| zr rfl hc <| zF <| zY tF ?_; refine zAc (hn10 _ (by decide)) (fun h=>by cases h) <| zAc (hMul H.length H1.length (zCi (s.take i)) av _ hP hP hm tO) (fun h=>by cases h) <| zr rfl hc <| zN (r:=c.toNat) tO tO <| zN (r:=c.toNat - 48) tO tO <| zAc (hnd _ (by unfold zDC; omega)) (fun h=>by cases h) ?_; refine zAc (hAdd H.length _ (zCi (s.take i) * 10) (c.toNat - 48) (mulV (zCi (s.take i))) _ hP hP (mulV_mag _) hmw hd2) (fun h=>by cases h) <| zN (r:=i + 1) rfl tO ?_
    refine zAU (i + 1) rfl ⟨?_,by omega,hat,zD7 (zCi (s.take (i + 1))), ?_,zHG _,fun _=>rfl⟩ tO
    ·exact (((hO.push _).set (zL0 _) _).push _).set (zL0 _) _
    ·rw [hdt,← bigC_nat]
     exact hP
   ·have hdf:=zMe.2 hdg
    have hall : s.all zGm = false:=by
     rw [zMe]
     intro h
     exact hdg (zMs.1 h c (zMH hc))
    rw [hall] at hr
    have hr : none = r:=hr
    subst hr
    clear hFit hI hNew hMul hAdd
    unfold zGm at hdf
    by_cases h1 : c.toNat < 48
    ·refine zb tT <| zr rfl hc <| zb tT <| zG <| zG ?_
     exact zBW rfl rfl rfl rfl hO
    ·have h2 : 57 < c.toNat:=by
      rw [tT (by omega : 48 ≤ c.toNat),zM7] at hdf
      have:=zMf hdf
      omega
     refine zb tT <| zr rfl hc <| zY tF <| zr rfl hc <| zF <| zb tT ?_
     exact zBW rfl rfl rfl rfl hO
  ·have hin : i = s.length:=by omega
   subst hin
   rw [zOI] at hd hm hav hw
   have hav:=hav hs1
   subst hav
   rw [hd,zLx rfl] at hr
   have hb' : H1[H.length]? = some (.box (zFm ((zCi s : Nat) : Int))):=by rw [bigC_nat]; exact hb
   have hft:=hFit H.length ((zCi s : Nat) : Int) H1 hb' (by simpa using (by omega : (wds (zCi s)).length ≤ 100))
   have hi6:=hI H.length ((zCi s : Nat) : Int) H1 hb'
   clear hFit hI hNew hMul hAdd
   by_cases h64 : zCi s ≤ 9223372036854775807
   ·rw [zLx h64] at hr
    subst hr
    have hin64 : zDC ((zCi s : Nat) : Int):=by unfold zDC; omega
    rw [zMM hin64] at hft
    have hi6:=hi6 hin64
    refine zY tF <| zY (zMQ.2 rfl) <| zL hft <| zF <| zL hi6 ?_
    exact zBW rfl rfl rfl rfl hO
   ·rw [zLv h64] at hr
    subst hr
    have hin64 : ¬ zDC ((zCi s : Nat) : Int):=by unfold zDC; omega
    rw [zMV hin64] at hft
    refine zY tF <| zY (zMQ.2 rfl) <| zL hft <| zG ?_
    exact zBW rfl rfl rfl rfl hO
 by_cases h0 : c0.toNat = 48
 ·have h1 : s = [48]:=by
   rcases Classical.em (s = [48]) with h | h
   ·exact h
   ·exact absurd ⟨h0,h⟩ h48
  refine zF <| zF <| zF <| zF <| zF <| zY hne ?_; refine zr rfl hc0 <| zb tE <| zG <| zF <| zY (zMQ.2 h1) ?_
  exact main
 ·refine zF <| zF <| zF <| zF <| zF <| zY hne ?_; refine zr rfl hc0 <| zY tN <| zF <| zF <| zF ?_
  exact main
end
end Go.AM
