/- Several texts of mine in one (Rf5, Bg1, Bg2, Bgm, Rf3). Own work. -/
import Derived.Test.YthllabjbdobpgaaGreatDoorRf2
import Derived.Test.YthllabjbdobpgaaGreatDoorGPreFr1
import Derived.Test.YthllabjbdobpgaaGreatDoorGAm23Am29
import Derived.Test.YthllabjbdobpgaaGreatDoorUc
import Derived.Test.YthllabjbdobpgaaGreatDoorGFp0Trm
import Derived.Test.YthllabjbdobpgaaGreatDoorGAm31Rf1
set_option linter.all false
set_option maxRecDepth 20000
namespace Go.AM
def tkK : Tok → Nat
 | .fin=>0
 | .word _ _=>1
 | .txt _ _=>2
 | .bad _ _=>3
 | .sign _ _=>4
 | .none=>9
def tkE (q : Nat) : Tok → Nat
 | .fin=>q
 | .word e _=>e
 | .txt e _=>e
 | .bad e _=>e
 | .sign e _=>e
 | .none=>q
def tkT : Tok → Bs
 | .fin=>[]
 | .word _ t=>t
 | .txt _ t=>t
 | .bad _ k=>wrongs.getD (k - 1) []
 | .sign _ t=>t
 | .none=>[]
theorem zFE (s : Bs) (a : Nat) : tkV s a = kV (tkK (tok s a)) (skip s a) (tkE (skip s a) (tok s a)) (tkT (tok s a)):=by
 unfold tkV tkAt tok
 cases zCX s (skip s a) <;> rfl
theorem zII {s : Bs} {a : Nat} (h : a ≤ s.length) : tkE (skip s a) (tok s a) ≤ s.length:=by
 have h1:=zBr s a
 have h2:=zBo h
 cases hk : tok s a <;> rw [hk] at h1 <;> simp only [tkE,Tok.endsBy] at h1 ⊢ <;> omega
theorem tkT_41 {s : Bs} {a : Nat} : (∃ e,tok s a = .sign e [41]) ↔ tkK (tok s a) = 4 ∧ tkT (tok s a) = [41]:=by
 constructor
 ·rintro ⟨e,h⟩; rw [h]; exact ⟨rfl,rfl⟩
 ·intro h
  cases hk : tok s a <;> rw [hk] at h <;> simp only [tkK,tkT] at h
  all_goals first | omega | skip
  exact ⟨_,by rw [h.2]⟩
section
variable {C : CSpec} {GT : Nat → Option AV}
theorem rclose_ok (hT : ∀ s a H,a ≤ s.length → s.length ≤ 1000 → C zV [.str s,zJ a] H (tkV s a) H)
  (b : Nat) (s : Bs) (p d e : Nat) (H : Heap) (hb : H[b]? = some (rP s p (d + 1))) (hp : p ≤ s.length) (hl : s.length ≤ 200) (hd : d ≤ 1000) (hk : tok s p = .sign e [41]) : zCA C GT zBh [pR b] H b [] .undef (some (.tup [],rP s e d)):=by
 have hbl : b < H.length:=(zg hb).1
 have ht:=fun H=>hT s p H hp tO
 rw [zFE,hk] at ht
 have ht : ∀ H,C zV [.str s,zJ p] H (kV 4 (skip s p) e [41]) H:=ht
 generalize skip s p = q at *
 clear hT
 refine zAE ?_; refine zB (AV.str s) hb rfl <| zB (zK ↑p) hb rfl ?_; refine zG7 ?_ ?_
 all_goals
  refine zI (ht _) <| zF (v:=kV 4 q e [41]) (AV.cells (kV 4 q e [41])) zD rfl rfl rfl rfl <| zB (zK 0) (zA tA (zC hb)) rfl <| zH <| zB (zJ 4) (zE zD) rfl <| zG ?_; refine zB (AV.str [41]) (zE zD) rfl <| zG <| zH <| zG <| zB (zJ e) (zE zD) rfl <| zF (v:=zJ e) [AV.str s,zJ e,zK 0,zK 0,zK ↑(d + 1)] (zA tA (zC hb)) rfl rfl rfl rfl ?_; refine zB (zK ↑(d + 1)) (zE (zA tA (zC hb))) rfl <| zM (r:=d) tO tO <| zF (v:=.int .i64 ↑d) [AV.str s,zJ e,zK 0,zK 0,.int .i64 ↑d] (zE (zA tA (zC hb))) rfl rfl rfl rfl ?_
  exact zF2 _ (by first | rfl | assumption) rfl rfl rfl rfl (((((OldB.start hb).push _).set tA _).setB _).setB _) rfl
theorem rclose_no (hT : ∀ s a H,a ≤ s.length → s.length ≤ 1000 → C zV [.str s,zJ a] H (tkV s a) H)
  (hF : ∀ b s p d a e H,H[b]? = some (pB s p 0 0 d) → C ze [pR b,zK a,zK e] H (.tup []) (H.set b (pB s p a e d)))
  (b : Nat) (s : Bs) (p d : Nat) (H : Heap) (hb : H[b]? = some (rP s p (d + 1))) (hp : p ≤ s.length) (hl : s.length ≤ 200) (hd : d ≤ 1000) (hk : ¬ ∃ e,tok s p = .sign e [41]) : zCA C GT zBh [pR b] H b [] .undef (some (.tup [],pB s (tkE (skip s p) (tok s p) : Nat) (skip s p : Nat) 2 d)):=by
 have hbl : b < H.length:=(zg hb).1
 have ht:=fun H=>hT s p H hp tO
 rw [zFE] at ht
 rw [tkT_41] at hk
 have hf:=fun H=>hF b s p (d + 1 : Nat) (skip s p : Nat) 2 H
 clear hT hF
 generalize tkE (skip s p) (tok s p) = e at *
 generalize tkK (tok s p) = kk at *
 generalize tkT (tok s p) = t at *
 generalize skip s p = q at *
 refine zAE ?_
 by_cases h4 : kk = 4
 ·subst h4
  have h41 : t ≠ [41]:=fun x=>hk ⟨rfl,x⟩
  refine zB (AV.str s) hb rfl <| zB (zK ↑p) hb rfl ?_; refine zG7 ?_ ?_
  all_goals
   refine zI (ht _) <| zF (v:=kV 4 q e t) (AV.cells (kV 4 q e t)) zD rfl rfl rfl rfl <| zB (zK 0) (zA tA (zC hb)) rfl <| zH <| zB (zJ 4) (zE zD) rfl <| zG ?_; refine zB (AV.str t) (zE zD) rfl <| zG <| zH <| zP (zNP.2 h41) <| zB (zJ q) (zE zD) rfl <| zp (hf _ hP) (fun h=>by cases h) ?_; refine zB (zJ e) (zA tA (zE zD)) rfl <| zF (v:=zJ e) [AV.str s,zJ e,zK ↑q,zK 2,zK ↑(d + 1)] (zE (zA tA (zC hb))) rfl rfl rfl rfl <| zB (zK ↑(d + 1)) (zE (zE (zA tA (zC hb)))) rfl <| zM (r:=d) tO tO <| zF (v:=.int .i64 ↑d) [AV.str s,zJ e,zK ↑q,zK 2,.int .i64 ↑d] (zE (zE (zA tA (zC hb)))) rfl rfl rfl rfl ?_
   exact zF2 _ (by first | rfl | assumption) rfl rfl rfl rfl ((((((OldB.start hb).push _).set tA _).setB _).setB _).setB _) rfl
 ·refine zB (AV.str s) hb rfl <| zB (zK ↑p) hb rfl ?_; refine zG7 ?_ ?_
  all_goals
   refine zI (ht _) <| zF (v:=kV kk q e t) (AV.cells (kV kk q e t)) zD rfl rfl rfl rfl <| zB (zK 0) (zA tA (zC hb)) rfl <| zH <| zB (zJ kk) (zE zD) rfl ?_; refine zP (zNP.2 tO) <| zH <| zH <| zH <| zB (zJ q) (zE zD) rfl <| zp (hf _ hP) (fun h=>by cases h) ?_; refine zB (zJ e) (zA tA (zE zD)) rfl <| zF (v:=zJ e) [AV.str s,zJ e,zK ↑q,zK 2,zK ↑(d + 1)] (zE (zA tA (zC hb))) rfl rfl rfl rfl <| zB (zK ↑(d + 1)) (zE (zE (zA tA (zC hb)))) rfl <| zM (r:=d) tO tO <| zF (v:=.int .i64 ↑d) [AV.str s,zJ e,zK ↑q,zK 2,.int .i64 ↑d] (zE (zE (zA tA (zC hb)))) rfl rfl rfl rfl ?_
   exact zF2 _ (by first | rfl | assumption) rfl rfl rfl rfl ((((((OldB.start hb).push _).set tA _).setB _).setB _).setB _) rfl
theorem rclose_bad (hT : ∀ s a H,a ≤ s.length → s.length ≤ 1000 → C zV [.str s,zJ a] H (tkV s a) H)
  (b : Nat) (s : Bs) (p : Nat) (w e d : Int) (H : Heap) (hb : H[b]? = some (pB s p w e d)) (he : e ≠ 0) (hp : p ≤ s.length) (hl : s.length ≤ 200) : zCA C GT zBh [pR b] H b [] .undef (some (.tup [],pB s (tkE (skip s p) (tok s p) : Nat) w e (IntKind.wrap .i64 (d - 1)))):=by
 have hbl : b < H.length:=(zg hb).1
 have ht:=fun H=>hT s p H hp tO
 rw [zFE] at ht
 clear hT
 generalize tkE (skip s p) (tok s p) = ee at *
 generalize tkK (tok s p) = kk at *
 generalize tkT (tok s p) = t at *
 generalize skip s p = q at *
 refine zAE ?_; refine zB (AV.str s) hb rfl <| zB (zK ↑p) hb rfl ?_; refine zG7 ?_ ?_
 all_goals
  refine zI (ht _) <| zF (v:=kV kk q ee t) (AV.cells (kV kk q ee t)) zD rfl rfl rfl rfl <| zB (zK e) (zA tA (zC hb)) rfl <| zO (tN he) <| zG <| zG ?_; refine zB (zJ ee) (zE zD) rfl <| zF (v:=zJ ee) [AV.str s,zJ ee,zK w,zK e,zK d] (zA tA (zC hb)) rfl rfl rfl rfl <| zB (zK d) (zE (zA tA (zC hb))) rfl <| sVal rfl <| zF (v:=.int .i64 (IntKind.i64.wrap (d - 1))) [AV.str s,zJ ee,zK w,zK e,.int .i64 (IntKind.i64.wrap (d - 1))] (zE (zA tA (zC hb))) rfl rfl rfl rfl ?_
  exact zF2 _ (by first | rfl | assumption) rfl rfl rfl rfl (((((OldB.start hb).push _).set tA _).setB _).setB _) rfl
end
end Go.AM
set_option maxRecDepth 20000
namespace Go.AM
def zBL (w : Nat) : AV:=.int .u32 w
def u64V (w : Nat) : AV:=.int .u64 w
def zEP (n : Nat) : AV:=.lst (some false) 1 ((wds n).map zBL)
def Mag (v : AV) (n : Nat) : Prop:=zAs v 1 ((wds n).map zBL)
theorem zHc (n : Nat) : Mag (zEP n) n:=⟨_,_,rfl,.inl rfl⟩
theorem Mag.nil (k : Nat) : Mag (.lst (some true) k []) 0:=⟨_,_,rfl,.inr rfl⟩
theorem zJd {n i : Nat} (h : i < (wds n).length) : ((wds n).map zBL)[i]? = some (zBL (wds n)[i]):=by rw [zMq,zMf h]; rfl
theorem sl_take {b m n : Nat} (h : n ≤ m) : zAy (some 1) (.sl (some false) b 1 0 m) none (some (.int .i64 (n : Int))) = some (.sl (some false) b 1 0 n):=by
 have e : zDA m none (some (.int .i64 (n : Int))) = some (0,n):=by
  simp only [zDA,aHi,aLo]
  rw [zMg ⟨by omega,by omega⟩]
  simp
 simp only [zAy,zND,e,zMv,zNe,zPP]
 rfl
theorem frz_mag {H0 H : Heap} {b n : Nat} {ws : List Nat} (hbl : H0.length ≤ b) (hb : H[b]? = some (.row 1 (ws.map zBL))) (hw : Small ws) (hn : wval ws = n) :
  zDR H0.length (.sl (some false) b 1 0 (wds n).length) H = some (zEP n,H.set b (.frz 1 (ws.map zBL))):=by
 subst hn
 have h:=wds_take hw
 simp only [zDR,hb]
 rw [zMe tO,zMg ⟨trivial,by rw [zMl]; omega⟩]
 simp only [zOs,← List.map_take,h.2]
 rfl
theorem shr32 (s : Nat) : zCh .shr .u64 (s : Int) 32 = some (.int .u64 ((s / 4294967296 : Nat) : Int)):=by
 simp only [zCh]
 rw [zMe tO]
 have : (2 : Int) ^ Nat.min (32 : Int).toNat IntKind.u64.bits = 4294967296:=by rfl
 rw [this,zO0 _ tO]
 rfl
theorem shr63 (s : Nat) : zCh .shr .u64 (s : Int) 63 = some (.int .u64 ((s / 9223372036854775808 : Nat) : Int)):=by
 simp only [zCh]
 rw [zMe tO]
 have : (2 : Int) ^ Nat.min (63 : Int).toNat IntKind.u64.bits = 9223372036854775808:=by rfl
 rw [this,zO0 _ tO]
 rfl
theorem sWu32 {x : Int} {K : Int → Prop} (r : Nat) (h : x % 4294967296 = r) (k : K (r : Int)) : valP (IntKind.wrap .u32 x) K:=sVal (by rw [IntKind.wrap_u32]; omega) k
theorem sWu64 {x : Int} {K : Int → Prop} (r : Nat) (h : x % 18446744073709551616 = r) (k : K (r : Int)) : valP (IntKind.wrap .u64 x) K:=sVal (by rw [IntKind.wrap_u64]; omega) k
theorem set_pad (ds : List Nat) (m d : Nat) : ((ds ++ List.replicate (m + 1) 0).map zBL).set ds.length (zBL d) = ((ds ++ [d]) ++ List.replicate m 0).map zBL:=by
 rw [zO3,← List.map_set,zOW _ _ (zMh _),Nat.sub_self]
 simp
theorem pad_get (ds : List Nat) (m : Nat) : ((ds ++ List.replicate (m + 1) 0).map zBL)[ds.length]? = some (zBL 0):=by
 rw [zMq,zMu (zMh _),Nat.sub_self,zO3]; rfl
theorem Small.snoc {ds : List Nat} {d : Nat} (h : Small ds) (hd : d < 4294967296) : Small (ds ++ [d]):=by
 intro w hw
 rcases zNp.1 hw with hw | hw
 ·exact h w hw
 ·rw [zNn.1 hw]; exact hd
section
variable {C : CSpec} {GT : Nat → Option AV}
theorem trim_ev (b m : Nat) (ws : List Nat) (H : Heap) (hm : ws.length = m) (hb : H[b]? = some (.row 1 (ws.map zBL))) (hw : Small ws) (hl : m ≤ 1000000) :
  EFun C GT zEe [.sl (some false) b 1 0 m] H (.sl (some false) b 1 0 (wds (wval ws)).length) H:=by
 have hbl : b < H.length:=(zg hb).1
 subst hm
 have fin : ∀ n : Nat,n ≤ ws.length → (wds (wval ws)).length = n → (.sl (some false) b 1 0 (wds (wval ws)).length : AV) = .sl (some false) b 1 0 n:=fun n _ h=>by rw [h]
 refine zc ?_; refine zEV ?_; refine zBB (fun n : Nat=>[(3,zJ n),(0,.sl (some false) b 1 0 ws.length)]) (fun n H'=>H' = H ∧ n ≤ ws.length ∧ wval (ws.take n) = wval ws) (fun n=>n) ws.length rfl ⟨rfl,zMh _,by rw [zOz]⟩ (fun n H1 ⟨e,hn,hv⟩=>?_)
 subst e
 dsimp only
 have hsm : Small (ws.take n):=fun w h=>hw w (zN3 h)
 refine zDy (fun h=>?_) (fun h=>?_)
 ·have h : 0 < n:=by have:=zNM h; omega
  have hi : n - 1 < ws.length:=by omega
  have hx : (ws.map zBL)[n - 1]? = some (zBL ws[n - 1]):=by rw [zMq,zMf hi]; rfl
  have ht : ws.take n = ws.take (n - 1) ++ [ws[n - 1]]:=by
   have:=zOH hi
   rwa [Nat.sub_add_cancel h] at this
  refine zM (r:=n - 1) tO tO <| sAt ⟨by omega,by omega⟩ <| zA5 (n - 1) (zBL ws[n - 1]) (zBL ws[n - 1]) tO hb hx rfl <| zH ?_; refine zDy (fun h0=>?_) (fun h0=>?_)
  ·have h0 : ws[n - 1] = 0:=by have:=eq_of_beq h0; omega
   refine zM (r:=n - 1) tO tO ?_; refine zAA (n - 1) rfl ⟨rfl,by omega, ?_⟩ tO
   rw [← hv,ht,zDm,h0]; simp
  ·have h0 : ws[n - 1] ≠ 0:=fun e=>by rw [e] at h0; exact absurd h0 (by simp)
   have hd : wds (wval ws) = ws.take n:=by
    rw [← hv]
    refine wds_val hsm fun w hw=>?_
    rw [ht,List.getLast?_concat] at hw
    cases hw
    exact h0
   have e:=fin n hn (by rw [hd,zMy]; omega)
   refine zS (sl_take hn) ?_
   exact sRetE e rfl rfl (by simp only [zDR]; rw [zMg hbl]) (by simp only [AV.bel]; exact zM8 hbl) (Old.refl _)
 ·have h : n = 0:=by have:=zNN h; omega
  subst h
  have e:=fin 0 hn (by rw [← hv]; rfl)
  refine zG <| zG <| zS (sl_take hn) ?_
  exact sRetE e rfl rfl (by simp only [zDR]; rw [zMg hbl]) (by simp only [AV.bel]; exact zM8 hbl) (Old.refl _)
theorem words_ev (hT : ∀ b m ws H,ws.length = m → H[b]? = some (.row 1 (ws.map zBL)) → Small ws → m ≤ 1000000 → C z7 [.sl (some false) b 1 0 m] H (.sl (some false) b 1 0 (wds (wval ws)).length) H)
  (x : Nat) (hx : x < 18446744073709551616) (H : Heap) : EFun C GT zEF [u64V x] H (zEP x) H:=by
 have hb : (H ++ [ABlk.row 1 [zBL (x % 4294967296),zBL (x / 4294967296)]])[H.length]? = some (.row 1 (([x % 4294967296,x / 4294967296] : List Nat).map zBL)):=zD
 have hw : Small [x % 4294967296,x / 4294967296]:=by
  intro w hw
  simp at hw
  omega
 have hv : wval [x % 4294967296,x / 4294967296] = x:=by simp only [wval]; omega
 have ht:=hT H.length 2 [x % 4294967296,x / 4294967296] _ rfl hb hw tO
 rw [hv] at ht
 refine zc ?_; refine sWu32 (x % 4294967296) tO <| zS (shr32 x) <| sWu32 (x / 4294967296) tO <| zAD (vs':=[zBL (x % 4294967296),zBL (x / 4294967296)]) rfl rfl <| zI (ht) ?_
 exact zKj rfl rfl (frz_mag (zMh _) hb hw hv) rfl (((Old.refl H).push _).set (zMh _) _)
structure SAd where
 i : Nat
 c : Nat
 ds : List Nat
theorem add_tail (hT : ∀ b m ws H,ws.length = m → H[b]? = some (.row 1 (ws.map zBL)) → Small ws → m ≤ 1000000 → C z7 [.sl (some false) b 1 0 m] H (.sl (some false) b 1 0 (wds (wval ws)).length) H)
  (av bv : AV) (x y n : Nat) (H : Heap) (ha : Mag av x) (hb : Mag bv y) (hn : (wds x).length = n) (hle : (wds y).length ≤ n) (hl : n ≤ 100000) :
  EW C GT (zE6.behind 2) (finF zDk H (zEP (x + y)) H) [(1,bv),(0,av)] H:=by
 have hal : ((wds x).map zBL).length = n:=by rw [zMl,hn]
 refine zA8 n ha hal <| zM (r:=n + 1) rfl tO <| sMake (n:=n + 1) rfl (Int.le_refl _) ⟨by omega,by omega⟩ rfl ?_; refine zBB (fun s : SAd=>[(7,zJ s.i),(5,.sl (some false) H.length 1 0 (n + 1)),(1,bv),(0,av),(6,u64V s.c)])
  (fun s H'=>Old H H' ∧ s.ds.length = s.i ∧ s.i ≤ n ∧ Small s.ds ∧ s.c ≤ 1 ∧ H'[H.length]? = some (.row 1 ((s.ds ++ List.replicate (n + 1 - s.i) 0).map zBL)) ∧ wval s.ds + 4294967296 ^ s.i * s.c = wval ((wds x).take s.i) + wval ((wds y).take s.i)) (fun s=>n - s.i) ⟨0,0,[]⟩ rfl
  ⟨(Old.refl _).push _,rfl,zNX _,(fun w hw=>by cases hw),zNX _,by rw [zN1,zPP,zO9]; exact zD,rfl⟩ (fun ⟨i,c,ds⟩ H1 ⟨hO,hd,hi,hsm,hc,hrow,hval⟩=>?_)
 simp only at hd hi hsm hc hrow hval
 dsimp only
 refine zA8 n ha hal ?_; refine zDy (fun h=>?_) (fun h=>?_)
 ·have h : i < n:=by have:=zNM h; omega
  have hx : i < (wds x).length:=by omega
  have hax:=zJd hx
  have htx:=zC4 hx
  have hsx:=zBj x _ (zNj hx)
  obtain ⟨a,had⟩ : ∃ a,(wds x)[i] = a:=⟨_,rfl⟩
  rw [had] at hax htx hsx
  have hm : n + 1 - i = (n - i) + 1:=by omega
  rw [hm] at hrow
  have hget:=pad_get ds (n - i)
  have hset:=fun d=>set_pad ds (n - i) d
  rw [hd] at hget hset
  have hlen : ds.length = i:=hd
  refine zCl i (zBL a) ha rfl hax <| zk (zBL a) rfl <| zDp (r:=a) rfl tO <| zDp (r:=c + a) tO tO <| zA8 (wds y).length hb (by simp) ?_; refine zDy (fun h2=>?_) (fun h2=>?_)
  ·have h2 : i < (wds y).length:=by have:=zNM h2; omega
   have hby:=zJd h2
   have hty:=zC4 h2
   have hsy:=zBj y _ (zNj h2)
   obtain ⟨d,hdd⟩ : ∃ d,(wds y)[i] = d:=⟨_,rfl⟩
   rw [hdd] at hby hty hsy
   refine zCl i (zBL d) hb rfl hby <| zk (zBL d) rfl <| zDp (r:=d) rfl tO <| zDp (r:=c + a + d) tO tO <| sWu32 ((c + a + d) % 4294967296) tO <| sAt ⟨by omega,by omega⟩ ?_; refine zLo i (zBL ((c + a + d) % 4294967296)) tO hrow hget rfl (by decide) rfl (fun cs h=>by cases h) <| zS (shr32 (c + a + d)) <| zM (r:=i + 1) rfl tO ?_; refine zAA (SAd.mk (i + 1) ((c + a + d) / 4294967296) (ds ++ [(c + a + d) % 4294967296])) rfl ⟨hO.set (zMh _) _,by simp [hlen],by simp only; omega,hsm.snoc tO,by simp only; omega, ?_, ?_⟩ (by simp only; omega)
   ·rw [hset]
    have : n + 1 - (i + 1) = n - i:=by omega
    simp only [this]
    exact zE hrow
   ·simp only [zDm,hlen,htx,hty,zNf]
    have e : (c + a + d) % 4294967296 + 4294967296 * ((c + a + d) / 4294967296) = c + a + d:=by omega
    have e2 : 4294967296 ^ i * ((c + a + d) % 4294967296) + 4294967296 ^ i * 4294967296 * ((c + a + d) / 4294967296) = 4294967296 ^ i * c + 4294967296 ^ i * a + 4294967296 ^ i * d:=by
     rw [zOL,← Nat.mul_add,e,zO1,zO1]
    omega
  ·have h2 : (wds y).length ≤ i:=by have:=zNN h2; omega
   have hty : wval ((wds y).take (i + 1)) = wval ((wds y).take i):=by rw [zM7 tO,zM7 h2]
   refine sWu32 ((c + a) % 4294967296) tO <| sAt ⟨by omega,by omega⟩ <| zLo i (zBL ((c + a) % 4294967296)) tO hrow hget rfl (by decide) rfl (fun cs h=>by cases h) <| zS (shr32 (c + a)) <| zM (r:=i + 1) rfl tO ?_; refine zAA (SAd.mk (i + 1) ((c + a) / 4294967296) (ds ++ [(c + a) % 4294967296])) rfl ⟨hO.set (zMh _) _,by simp [hlen],by simp only; omega,hsm.snoc tO,by simp only; omega, ?_, ?_⟩ (by simp only; omega)
   ·rw [hset]
    have : n + 1 - (i + 1) = n - i:=by omega
    simp only [this]
    exact zE hrow
   ·simp only [zDm,hlen,htx,hty,zNf]
    have e : (c + a) % 4294967296 + 4294967296 * ((c + a) / 4294967296) = c + a:=by omega
    have e2 : 4294967296 ^ i * ((c + a) % 4294967296) + 4294967296 ^ i * 4294967296 * ((c + a) / 4294967296) = 4294967296 ^ i * c + 4294967296 ^ i * a:=by
     rw [zOL,← Nat.mul_add,e,zO1]
    omega
 ·have h : i = n:=by have:=zNN h; omega
  subst h
  have hm : i + 1 - i = 0 + 1:=by omega
  rw [hm] at hrow
  have hget:=pad_get ds 0
  have hset:=fun d=>set_pad ds 0 d
  rw [hd] at hget hset
  rw [zM7 tO,zM7 tO,zDv,zDv,← hd,← zDm] at hval
  have hsm2 : Small (ds ++ [c]):=hsm.snoc tO
  have hr2 : (H1.set H.length (.row 1 ((ds ++ [c]).map zBL)))[H.length]? = some (.row 1 ((ds ++ [c]).map zBL)):=zE hrow
  have hset2 : ((ds ++ List.replicate (0 + 1) 0).map zBL).set i (zBL c) = (ds ++ [c]).map zBL:=by rw [hset]; simp
  have ht:=hT H.length (i + 1) (ds ++ [c]) _ (by simp [hd]) hr2 hsm2 tO
  rw [hval] at ht
  rw [← hset2] at ht hr2
  refine zA8 i ha hal <| sWu32 c tO <| sAt ⟨by omega,by omega⟩ <| zLo i (zBL c) tO hrow hget rfl (by decide) rfl (fun cs h=>by cases h) <| zI ht ?_
  rw [hset2] at hr2
  exact zKj rfl rfl (frz_mag (zMh _) (by rw [hset2]; exact hr2) hsm2 hval) rfl ((hO.set (zMh _) _).set (zMh _) _)
theorem add_ev (hT : ∀ b m ws H,ws.length = m → H[b]? = some (.row 1 (ws.map zBL)) → Small ws → m ≤ 1000000 → C z7 [.sl (some false) b 1 0 m] H (.sl (some false) b 1 0 (wds (wval ws)).length) H)
  (av bv : AV) (x y : Nat) (H : Heap) (ha : Mag av x) (hb : Mag bv y) (h1 : (wds x).length ≤ 100000) (h2 : (wds y).length ≤ 100000) : EFun C GT zDk [av,bv] H (zEP (x + y)) H:=by
 refine zc ?_; refine zA8 (wds x).length ha (by simp) <| zA8 (wds y).length hb (by simp) ?_; refine zDy (fun h=>?_) (fun h=>?_)
 ·have h : (wds x).length < (wds y).length:=by have:=zNM h; omega
  rw [zOT x y]
  refine sTail rfl (add_tail hT bv av y x _ H hb ha rfl tO h2) ?_
  rfl
 ·have h : (wds y).length ≤ (wds x).length:=by have:=zNN h; omega
  refine sTail rfl (add_tail hT av bv x y _ H ha hb rfl h h1) ?_
  rfl
theorem sub_ev (hT : ∀ b m ws H,ws.length = m → H[b]? = some (.row 1 (ws.map zBL)) → Small ws → m ≤ 1000000 → C z7 [.sl (some false) b 1 0 m] H (.sl (some false) b 1 0 (wds (wval ws)).length) H)
  (av bv : AV) (x y n : Nat) (H : Heap) (ha : Mag av x) (hb : Mag bv y) (hyx : y ≤ x) (hn : (wds x).length = n) (hl : n ≤ 100000) : EFun C GT zE8 [av,bv] H (zEP (x - y)) H:=by
 have hal : ((wds x).map zBL).length = n:=by rw [zMl,hn]
 have hle : (wds y).length ≤ n:=by rw [← hn]; exact wds_len_mono hyx
 refine zc ?_; refine zA8 n ha hal <| sMake (n:=n) rfl (Int.le_refl _) ⟨by omega,by omega⟩ rfl ?_; refine zBB (fun s : SAd=>[(7,zJ s.i),(5,.sl (some false) H.length 1 0 n),(1,bv),(6,u64V s.c),(0,av)])
  (fun s H'=>Old H H' ∧ s.ds.length = s.i ∧ s.i ≤ n ∧ Small s.ds ∧ s.c ≤ 1 ∧ H'[H.length]? = some (.row 1 ((s.ds ++ List.replicate (n - s.i) 0).map zBL)) ∧ wval s.ds + wval ((wds y).take s.i) = wval ((wds x).take s.i) + 4294967296 ^ s.i * s.c) (fun s=>n - s.i) ⟨0,0,[]⟩ rfl
  ⟨(Old.refl _).push _,rfl,zNX _,(fun w hw=>by cases hw),zNX _,by rw [zN1,zPP,zO9]; exact zD,rfl⟩ (fun ⟨i,c,ds⟩ H1 ⟨hO,hd,hi,hsm,hc,hrow,hval⟩=>?_)
 simp only at hd hi hsm hc hrow hval
 dsimp only
 refine zA8 n ha hal ?_; refine zDy (fun h=>?_) (fun h=>?_)
 ·have h : i < n:=by have:=zNM h; omega
  have hx : i < (wds x).length:=by omega
  have hax:=zJd hx
  have htx:=zC4 hx
  have hsx:=zBj x _ (zNj hx)
  obtain ⟨a,had⟩ : ∃ a,(wds x)[i] = a:=⟨_,rfl⟩
  rw [had] at hax htx hsx
  obtain ⟨m,hm⟩ : ∃ m,n - i = m + 1:=⟨n - i - 1,by omega⟩
  rw [hm] at hrow
  have hget:=pad_get ds m
  have hset:=fun d=>set_pad ds m d
  rw [hd] at hget hset
  have hlen : ds.length = i:=hd
  refine zCl i (zBL a) ha rfl hax <| zk (zBL a) rfl <| zDp (r:=a) rfl tO <| sWu64 ((((a : Int) - c) % 18446744073709551616).toNat) tO <| zA8 (wds y).length hb (by simp) ?_
  have next : ∀ (e d c' : Nat),(e : Int) = (a : Int) - c' - c ∨ True → True:=fun _ _ _ _=>trivial
  refine zDy (fun h2=>?_) (fun h2=>?_)
  ·have h2 : i < (wds y).length:=by have:=zNM h2; omega
   have hby:=zJd h2
   have hty:=zC4 h2
   have hsy:=zBj y _ (zNj h2)
   obtain ⟨d,hdd⟩ : ∃ d,(wds y)[i] = d:=⟨_,rfl⟩
   rw [hdd] at hby hty hsy
   obtain ⟨D,hD⟩ : ∃ D : Nat,(((a : Int) - c - d) % 18446744073709551616) = D:=⟨(((a : Int) - c - d) % 18446744073709551616).toNat,by omega⟩
   refine zCl i (zBL d) hb rfl hby <| zk (zBL d) rfl <| zDp (r:=d) rfl tO <| sWu64 D tO <| sWu32 (D % 4294967296) tO <| sAt ⟨by omega,by omega⟩ ?_; refine zLo i (zBL (D % 4294967296)) tO hrow hget rfl (by decide) rfl (fun cs h=>by cases h) <| zS (shr63 D) <| zM (r:=i + 1) rfl tO ?_; refine zAA (SAd.mk (i + 1) (D / 9223372036854775808) (ds ++ [D % 4294967296])) rfl ⟨hO.set (zMh _) _,by simp [hlen],by simp only; omega,hsm.snoc tO,by simp only; omega, ?_, ?_⟩ (by simp only; omega)
   ·rw [hset]
    have : n - (i + 1) = m:=by omega
    simp only [this]
    exact zE hrow
   ·simp only [zDm,hlen,htx,hty,zNf]
    have e : D % 4294967296 + c + d = a + 4294967296 * (D / 9223372036854775808):=by omega
    have e2 : 4294967296 ^ i * (D % 4294967296) + 4294967296 ^ i * c + 4294967296 ^ i * d = 4294967296 ^ i * a + 4294967296 ^ i * 4294967296 * (D / 9223372036854775808):=by
     rw [zOL,← Nat.mul_add,← Nat.mul_add,e,zO1]
    omega
  ·have h2 : (wds y).length ≤ i:=by have:=zNN h2; omega
   have hty : wval ((wds y).take (i + 1)) = wval ((wds y).take i):=by rw [zM7 tO,zM7 h2]
   obtain ⟨D,hD⟩ : ∃ D : Nat,(((a : Int) - c) % 18446744073709551616).toNat = D:=⟨_,rfl⟩
   rw [hD]
   refine sWu32 (D % 4294967296) tO <| sAt ⟨by omega,by omega⟩ <| zLo i (zBL (D % 4294967296)) tO hrow hget rfl (by decide) rfl (fun cs h=>by cases h) <| zS (shr63 D) <| zM (r:=i + 1) rfl tO ?_; refine zAA (SAd.mk (i + 1) (D / 9223372036854775808) (ds ++ [D % 4294967296])) rfl ⟨hO.set (zMh _) _,by simp [hlen],by simp only; omega,hsm.snoc tO,by simp only; omega, ?_, ?_⟩ (by simp only; omega)
   ·rw [hset]
    have : n - (i + 1) = m:=by omega
    simp only [this]
    exact zE hrow
   ·simp only [zDm,hlen,htx,hty,zNf]
    have e : D % 4294967296 + c = a + 4294967296 * (D / 9223372036854775808):=by omega
    have e2 : 4294967296 ^ i * (D % 4294967296) + 4294967296 ^ i * c = 4294967296 ^ i * a + 4294967296 ^ i * 4294967296 * (D / 9223372036854775808):=by
     rw [zOL,← Nat.mul_add,← Nat.mul_add,e]
    omega
 ·have h : i = n:=by have:=zNN h; omega
  subst h
  rw [Nat.sub_self,zO4,zNS] at hrow
  rw [zM7 tO,zM7 tO,zDv,zDv] at hval
  have hv : wval ds = x - y:=by
   have h1:=wval_lt hsm
   rw [hd] at h1
   have hc0 : c = 0:=by
    rcases zOS c with h | h
    ·exact h
    ·have hc1 : c = 1:=by omega
     rw [hc1,zPX] at hval
     omega
   rw [hc0] at hval
   omega
  have ht:=hT H.length i ds _ hd hrow hsm tO
  rw [hv] at ht
  refine zI ht ?_
  exact zKj rfl rfl (frz_mag (zMh _) hrow hsm hv) rfl (hO.set (zMh _) _)
def cmpN (x y : Nat) : Int:=if x < y then -1 else if x = y then 0 else 1
theorem cmpN_lt {x y : Nat} (h : x < y) : cmpN x y = -1:=zMg h
theorem cmpN_eq (x : Nat) : cmpN x x = 0:=by unfold cmpN; rw [zMe tO,zMg rfl]
theorem cmpN_gt {x y : Nat} (h : y < x) : cmpN x y = 1:=by unfold cmpN; rw [zMe tO,zMe tO]
theorem bcmp_ev (av bv : AV) (x y : Nat) (H : Heap) (ha : Mag av x) (hb : Mag bv y) (h1 : (wds x).length ≤ 100000) (h2 : (wds y).length ≤ 100000) : EFun C GT zE7 [av,bv] H (zK (cmpN x y)) H:=by
 refine zc ?_; refine zA8 (wds x).length ha (by simp) <| zA8 (wds y).length hb (by simp) ?_; refine zDy (fun h=>?_) (fun h=>?_)
 ·have h : (wds x).length ≠ (wds y).length:=by simp only [zNP,ne_eq] at h; omega
  refine zA8 (wds x).length ha (by simp) <| zA8 (wds y).length hb (by simp) ?_; refine zDy (fun h2=>?_) (fun h2=>?_)
  ·have h2 : (wds x).length < (wds y).length:=by have:=zNM h2; omega
   rw [cmpN_lt (zJ9 h2)]
   exact sRr
  ·have h2 : (wds y).length < (wds x).length:=by have:=zNN h2; omega
   rw [cmpN_gt (zJ9 h2)]
   exact sRr
 have h : (wds x).length = (wds y).length:=by simp only [zNA] at h; omega
 have key : ∀ (e : Int),cmpN x y = e → True:=fun _ _=>trivial
 refine zA8 (wds x).length ha (by simp) <| sW64 ⟨by omega,by omega⟩ ?_; refine zBB (fun k : Nat=>[(5,zK ((k : Int) - 1)),(1,bv),(0,av)]) (fun k H'=>H' = H ∧ k ≤ (wds x).length ∧ (wds x).drop k = (wds y).drop k) (fun k=>k) (wds x).length rfl
  ⟨rfl,zMh _,by rw [List.drop_length,h,List.drop_length]⟩ (fun k H1 ⟨e,hk,hd⟩=>?_)
 subst e
 dsimp only
 refine zDy (fun h3=>?_) (fun h3=>?_)
 ·have h3 : 1 ≤ k:=by have:=zNM h3; omega
  obtain ⟨i,rfl⟩ : ∃ i,k = i + 1:=⟨k - 1,by omega⟩
  have hx : i < (wds x).length:=by omega
  have hy : i < (wds y).length:=by omega
  have hax:=zJd hx
  have hby:=zJd hy
  have hsx:=zBj x _ (zNj hx)
  have hsy:=zBj y _ (zNj hy)
  have top1:=fun hlt=>cmp_top (zBj x) (zBj y) h hx hd hlt
  have top2:=fun hlt=>cmp_top (zBj y) (zBj x) h.symm hy hd.symm hlt
  rw [zDv,zDv] at top1 top2
  have hdx : (wds x).drop i = (wds x)[i] :: (wds x).drop (i + 1):=(zOm hx).symm
  have hdy : (wds y).drop i = (wds y)[i] :: (wds y).drop (i + 1):=(zOm hy).symm
  generalize (wds x)[i] = a at *
  generalize (wds y)[i] = d at *
  refine zCl i (zBL a) ha tO hax <| zk (zBL a) rfl <| zCl i (zBL d) hb tO hby <| zk (zBL d) rfl ?_; refine zDy (fun h4=>?_) (fun h4=>?_)
  ·have h4 : a ≠ d:=by simp only [zNP,ne_eq] at h4; omega
   refine zCl i (zBL a) ha tO hax <| zk (zBL a) rfl <| zCl i (zBL d) hb tO hby <| zk (zBL d) rfl ?_; refine zDy (fun h5=>?_) (fun h5=>?_)
   ·have h5 : a < d:=by have:=zNM h5; omega
    rw [cmpN_lt (top1 h5)]
    exact sRr
   ·have h5 : d < a:=by have:=zNN h5; omega
    rw [cmpN_gt (top2 h5)]
    exact sRr
  ·have h4 : a = d:=by simp only [zNA] at h4; omega
   refine sW64 ⟨by omega,by omega⟩ ?_; refine zAA i ?_ ⟨rfl,by omega,by rw [hdx,hdy,h4,hd]⟩ tO
   have : ((i + 1 : Nat) : Int) - 1 - 1 = (i : Int) - 1:=by omega
   simp only [← this]
   rfl
 ·have h3 : k = 0:=by have:=zNN h3; omega
  subst h3
  have e : x = y:=by
   rw [← zDv x,← zDv y]
   simp only [zOs] at hd
   rw [hd]
  rw [e,cmpN_eq]
  exact sRr
def sumS (xn : Bool) (x : Nat) (yn : Bool) (y : Nat) : Bool × Nat:=if xn = yn then (xn,x + y) else if y ≤ x then (xn,x - y) else (yn,y - x)
theorem bsum_ev (hA : ∀ av bv x y H,Mag av x → Mag bv y → (wds x).length ≤ 100000 → (wds y).length ≤ 100000 → C zCS [av,bv] H (zEP (x + y)) H)
  (hS : ∀ av bv x y H,Mag av x → Mag bv y → y ≤ x → (wds x).length ≤ 100000 → C zBd [av,bv] H (zEP (x - y)) H)
  (hC : ∀ av bv x y H,Mag av x → Mag bv y → (wds x).length ≤ 100000 → (wds y).length ≤ 100000 → C zCT [av,bv] H (zK (cmpN x y)) H)
  (av bv : AV) (xn yn : Bool) (x y : Nat) (H : Heap) (ha : Mag av x) (hb : Mag bv y) (h1 : (wds x).length ≤ 100000) (h2 : (wds y).length ≤ 100000) :
  EFun C GT zE5 [.bool xn,av,.bool yn,bv] H (.tup [.bool (sumS xn x yn y).1,zEP (sumS xn x yn y).2]) H:=by
 obtain ⟨r,hr⟩ : ∃ r,sumS xn x yn y = r:=⟨_,rfl⟩
 rw [hr]
 unfold sumS at hr
 have c1:=hA av bv x y H ha hb h1 h2
 have c2:=hC av bv x y H ha hb h1 h2
 refine zc ?_
 by_cases he : xn = yn
 ·rw [zMg he] at hr
  subst hr
  subst he
  cases xn
  ·refine zH <| zI (c1) ?_
   exact sRr
  ·refine zH <| zI (c1) ?_
   exact sRr
 rw [zMe he] at hr
 by_cases hle : y ≤ x
 ·rw [zMg hle] at hr
  subst hr
  have c3:=hS av bv x y H ha hb hle h1
  have hg : decide (cmpN x y ≥ 0) = true:=by unfold cmpN; rw [zMe tO]; split <;> rfl
  cases xn <;> cases yn <;> first | exact absurd rfl he | skip
  all_goals
   refine zG <| zI (c2) ?_; refine zDy (fun _=>?_) (fun h=>absurd (hg.symm.trans h) (by simp))
   refine zI (c3) ?_
   exact sRr
 ·rw [zMe hle] at hr
  subst hr
  have c3:=hS bv av y x H hb ha tO h2
  have hg : decide (cmpN x y ≥ 0) = false:=by unfold cmpN; rw [zMg tO]; rfl
  cases xn <;> cases yn <;> first | exact absurd rfl he | skip
  all_goals
   refine zG <| zI (c2) ?_; refine zDy (fun h=>absurd (hg.symm.trans h) (by simp)) (fun _=>?_)
   refine zI (c3) ?_
   exact sRr
end
end Go.AM
set_option maxRecDepth 20000
namespace Go.AM
def zGB (v : Int) : List AV:=[.bool (decide (v < 0)),zEP v.natAbs]
theorem wds_get : ∀ (n q : Nat),q < (wds n).length → (wds n)[q]? = some (n / 4294967296 ^ q % 4294967296):=by
 intro n
 induction n using Nat.strongRecOn with
 | ind n ih=>
  intro q hq
  have hn : n ≠ 0:=fun e=>by subst e; simp [zDu] at hq
  rw [zDG hn] at hq ⊢
  cases q with
  | zero=>simp
  | succ q=>
   rw [zOh,ih _ tO q (by simpa using hq),zOn,zNf,zOA 4294967296]
theorem B_pow (q : Nat) : 4294967296 ^ q = 2 ^ (32 * q):=by rw [Nat.pow_mul]
theorem bit_of_word (m i : Nat) : m / 4294967296 ^ (i / 32) % 4294967296 / 2 ^ (i % 32) % 2 = m / 2 ^ i % 2:=by
 have hr : i % 32 < 32:=Nat.mod_lt _ tO
 obtain ⟨k,hk⟩ : ∃ k,32 = i % 32 + (k + 1):=⟨31 - i % 32,by omega⟩
 have e1 : (4294967296 : Nat) = 2 ^ (i % 32) * 2 ^ (k + 1):=by rw [← Nat.pow_add,← hk]
 have e2 : m / 4294967296 ^ (i / 32) % 4294967296 / 2 ^ (i % 32) = m / 4294967296 ^ (i / 32) / 2 ^ (i % 32) % 2 ^ (k + 1):=by
  conv=>lhs; lhs; rhs; rw [e1]
  rw [Nat.mod_mul_right_div_self]
 rw [e2,Nat.mod_mod_of_dvd _ (by rw [zNf]; exact Nat.dvd_mul_left 2 _),B_pow,zOn,← Nat.pow_add]
 have : 32 * (i / 32) + i % 32 = i:=Nat.div_add_mod i 32
 rw [this]
theorem bit_high {m i : Nat} (h : (wds m).length ≤ i / 32) : m / 2 ^ i % 2 = 0:=by
 have h1:=wds_lt m
 have h2 : 4294967296 ^ (wds m).length ≤ 4294967296 ^ (i / 32):=zNm tO h
 rw [B_pow (i / 32)] at h2
 have h3 : 2 ^ (32 * (i / 32)) ≤ 2 ^ i:=zNm tO tO
 rw [Nat.div_eq_of_lt tO]
theorem bits_shift : ∀ k n : Nat,n / 2 ^ k ≠ 0 → bits n = bits (n / 2 ^ k) + k
 | 0,n,_=>by simp
 | k + 1,n,h=>by
  have hn : n ≠ 0:=fun e=>by subst e; simp at h
  have e : n / 2 ^ (k + 1) = n / 2 / 2 ^ k:=by rw [zOn,zNf,zOA]
  rw [e] at h ⊢
  rw [zLI hn,bits_shift k (n / 2) h]
  omega
theorem bits_top : ∀ (m k : Nat),(wds m).length = k + 1 → bits m = k * 32 + bits (m / 4294967296 ^ k % 4294967296):=by
 intro m
 induction m using Nat.strongRecOn with
 | ind m ih=>
  intro k hk
  have hm : m ≠ 0:=fun e=>by subst e; simp [zDu] at hk
  rw [zDG hm,zMi] at hk
  by_cases h2 : m / 4294967296 = 0
  ·rw [h2,zDu] at hk
   have : k = 0:=by simpa using hk.symm
   subst this
   rw [Nat.pow_zero,Nat.div_one,zOx tO]; omega
  ·have h3 : (wds (m / 4294967296)).length ≠ 0:=by rw [zDG h2]; simp
   obtain ⟨j,rfl⟩ : ∃ j,k = j + 1:=⟨k - 1,by omega⟩
   have h4:=ih (m / 4294967296) tO j tO
   have h5:=bits_shift 32 m (by simpa using h2)
   have e : (2 : Nat) ^ 32 = 4294967296:=by decide
   rw [e] at h5
   rw [h5,h4,zOn,zNf,zOA 4294967296]
   omega
theorem tz_exists : ∀ m : Nat,m ≠ 0 → ∃ n,m % 2 ^ n = 0 ∧ m / 2 ^ n % 2 = 1:=by
 intro m
 induction m using Nat.strongRecOn with
 | ind m ih=>
  intro h
  by_cases ho : m % 2 = 1
  ·exact ⟨0,by simp [Nat.mod_one],by simpa using ho⟩
  ·obtain ⟨n,h1,h2⟩:=ih (m / 2) tO tO
   refine ⟨n + 1, ?_, ?_⟩
   ·rw [zNf,zOA,Nat.mod_mul,h1]; omega
   ·rw [zNf,zOA,← Nat.div_div_eq_div_mul]; exact h2
theorem tz_low {m n k : Nat} (h : m % 2 ^ n = 0) (hk : k < n) : m / 2 ^ k % 2 = 0:=by
 obtain ⟨c,rfl⟩:=Nat.dvd_of_mod_eq_zero h
 obtain ⟨j,rfl⟩ : ∃ j,n = k + (j + 1):=⟨n - k - 1,by omega⟩
 rw [Nat.pow_add,zOL,Nat.mul_div_cancel_left _ (Nat.two_pow_pos k),zNf,zOA (2 ^ j) 2,zOL,Nat.mul_mod_right]
theorem tz_63 {m : Nat} (h : m < 18446744073709551616) (h1 : m % 2 ^ 63 = 0) (h2 : m / 2 ^ 63 % 2 = 1) : m = 9223372036854775808:=by
 have e : (2 : Nat) ^ 63 = 9223372036854775808:=by decide
 rw [e] at h1 h2
 omega
theorem shrN (w r : Nat) (h : r ≤ 32) : zCh .shr .u32 (w : Int) (r : Int) = some (.int .u32 ((w / 2 ^ r : Nat) : Int)):=by
 simp only [zCh]
 rw [zMe tO]
 have e : Nat.min (r : Int).toNat IntKind.u32.bits = r:=by
  rw [zNt]; exact zOV h
 have e2 : ((2 : Int) ^ r) = ((2 ^ r : Nat) : Int):=by simp
 rw [e,e2,zO0 _ (zPY _)]
 rfl
theorem shr1w (w : Nat) : zCh .shr .u32 (w : Int) 1 = some (.int .u32 ((w / 2 : Nat) : Int)):=by
 have:=shrN w 1 tO; simpa using this
theorem and1 (a : Nat) (h : a < 18446744073709551616) : zH7 .and .u64 (a : Int) 1 = some (.int .u64 ((a % 2 : Nat) : Int)):=by
 simp only [zH7]
 have e : (BitVec.ofInt IntKind.u64.bits (a : Int) &&& BitVec.ofInt IntKind.u64.bits 1).toNat = a % 2:=by
  rw [BitVec.toNat_and]
  have h1 : (BitVec.ofInt IntKind.u64.bits (a : Int)).toNat = a:=by
   show (BitVec.ofInt 64 (a : Int)).toNat = a
   rw [BitVec.toNat_ofInt]
   have : ((a : Int) % ((2 ^ 64 : Nat) : Int)) = (a : Int):=by rw [Int.emod_eq_of_lt tO (by simp; omega)]
   rw [this,zNt]
  have h2 : (BitVec.ofInt IntKind.u64.bits 1).toNat = 1:=by decide
  rw [h1,h2,Nat.and_one_is_mod]
 rw [e,IntKind.wrap_u64]
 have : ((a % 2 : Nat) : Int) % 18446744073709551616 = ((a % 2 : Nat) : Int):=by omega
 rw [this]
theorem shl32 (a : Nat) (h : a < 4294967296) : zCh .shl .u64 (a : Int) 32 = some (.int .u64 ((a * 4294967296 : Nat) : Int)):=by
 simp only [zCh]
 rw [zMe tO]
 have : (2 : Int) ^ Nat.min (32 : Int).toNat IntKind.u64.bits = 4294967296:=by rfl
 rw [this,IntKind.wrap_u64]
 have : ((a : Int) * 4294967296) % 18446744073709551616 = ((a * 4294967296 : Nat) : Int):=by omega
 rw [this]
theorem or32 (a b : Nat) (ha : a < 4294967296) (hb : b < 4294967296) : zH7 .or .u64 (a : Int) ((b * 4294967296 : Nat) : Int) = some (.int .u64 ((a + 4294967296 * b : Nat) : Int)):=by
 simp only [zH7]
 have of (x : Nat) (hx : x < 18446744073709551616) : (BitVec.ofInt IntKind.u64.bits (x : Int)).toNat = x:=by
  show (BitVec.ofInt 64 (x : Int)).toNat = x
  rw [BitVec.toNat_ofInt]
  have : ((x : Int) % ((2 ^ 64 : Nat) : Int)) = (x : Int):=by rw [Int.emod_eq_of_lt tO (by simp; omega)]
  rw [this,zNt]
 have e : (BitVec.ofInt IntKind.u64.bits (a : Int) ||| BitVec.ofInt IntKind.u64.bits ((b * 4294967296 : Nat) : Int)).toNat = a + 4294967296 * b:=by
  rw [BitVec.toNat_or,of a tO,of _ tO,Nat.or_comm,zOA b]
  have:=Nat.two_pow_add_eq_or_of_lt (i:=32) (b:=a) (by simpa using ha) b
  have e32 : (2 : Nat) ^ 32 = 4294967296:=by decide
  rw [e32] at this
  rw [← this]; omega
 rw [e,IntKind.wrap_u64]
 have : ((a + 4294967296 * b : Nat) : Int) % 18446744073709551616 = ((a + 4294967296 * b : Nat) : Int):=by omega
 rw [this]
theorem sRetB {F : AF} {H H1 : Heap} {fr : Fr} {v : AV} {b : Nat} {cs : List AV} (hH : H1 = H.set b (.box cs)) (hk : F.keep = false) (hr : (zBa fr H1 F.results).map tupled = some v) (hf : zDR H.length v H1 = some (v,H1)) (hb : v.bel H.length = true) (hc : zFZ H.length (.box cs) = true) :
  retP F H fr H1 v (H.set b (.box cs)):=by
 refine sRet ?_
 unfold zGn
 cases hs : zBa fr H1 F.results with
 | none=>rw [hs] at hr; cases hr
 | some vs=>
  rw [hs] at hr
  simp only [zMv,zMc] at hr
  subst hr
  simp only [hk,hf,zMm,zNB]
  subst hH
  refine ⟨hb,fun c hc'=>?_,trivial, ?_⟩
  ·by_cases e : b = c
   ·subst e
    exact .inr ⟨_,zMz hc',hc⟩
   ·exact .inl (zM4 e)
  ·rw [zM7 (by rw [zMs]; omega)]
theorem sRetK {F : AF} {H H1 : Heap} {fr : Fr} {v : AV} (hk : F.keep = true) (hr : (zBa fr H1 F.results).map tupled = some v) : retP F H fr H1 v H1:=by
 refine sRet ?_
 unfold zGn
 cases hs : zBa fr H1 F.results with
 | none=>rw [hs] at hr; cases hr
 | some vs=>
  rw [hs] at hr
  simp only [zMv,zMc] at hr
  subst hr
  simp only [hk,zND]
  exact ⟨trivial,trivial⟩
section
variable {C : CSpec} {GT : Nat → Option AV}
theorem bit_ev (av : AV) (m i : Nat) (H : Heap) (ha : Mag av m) (hl : (wds m).length ≤ 100000) (hi : i ≤ 1000000) : EFun C GT zE9 [av,zK i] H (u64V (m / 2 ^ i % 2)) H:=by
 obtain ⟨r,hr⟩ : ∃ r,m / 2 ^ i % 2 = r:=⟨_,rfl⟩
 have hd : (i : Int).tdiv 32 = ((i / 32 : Nat) : Int):=(Int.ofNat_tdiv i 32).symm
 rw [hr]
 refine zc ?_; refine zG <| zGE (by decide) <| zM (r:=i / 32) hd tO <| zA8 (wds m).length ha (by simp) <| zG ?_; refine zDy (fun h=>?_) (fun h=>?_)
 ·have h : (wds m).length ≤ i / 32:=by have:=zNM h; omega
  rw [bit_high h] at hr
  subst hr
  exact sRr
 ·have h : i / 32 < (wds m).length:=by have:=zNN h; omega
  have hg:=zJd h
  have hw:=zBj m _ (zNj h)
  have he:=wds_get m (i / 32) h
  rw [zMf h] at he
  have he:=zM5 he
  have hb:=bit_of_word m i
  rw [← he,hr] at hb
  generalize (wds m)[i / 32] = w at *
  have hw2 : w / 2 ^ (i % 32) ≤ w:=Nat.div_le_self _ _
  have hm : (i : Int).tmod 32 = ((i % 32 : Nat) : Int):=(Int.ofNat_tmod i 32).symm
  subst hb
  refine zGE (by decide) <| zM (r:=i / 32) hd tO <| zCl (i / 32) (zBL w) ha rfl hg <| zk (zBL w) rfl <| zDp (r:=i) rfl tO <| zGE (by decide) ?_; refine sVal (r:=((i % 32 : Nat) : Int)) hm <| zS (shrN w (i % 32) tO) <| zDp (r:=w / 2 ^ (i % 32)) rfl tO <| zS (and1 (w / 2 ^ (i % 32)) tO) ?_
  exact sRr
theorem tzb_ev (hB : ∀ (av : AV) (m i : Nat) (H : Heap),Mag av m → (wds m).length ≤ 100000 → i ≤ 1000000 → C zCU [av,zK i] H (u64V (m / 2 ^ i % 2)) H) (b m n : Nat) (x av : AV) (H : Heap) (hb : H[b]? = some (.box [x,av])) (ha : Mag av m) (h0 : m ≠ 0) (hl : (wds m).length ≤ 100) (hn : n ≤ 10000) (h1 : m % 2 ^ n = 0) (h2 : m / 2 ^ n % 2 = 1) :
  EFun C GT zBG [.ref b 0 0 0] H (u64V n) H:=by
 have hlz : (wds m).length ≠ 0:=by rw [zDG h0]; simp
 refine zc ?_; refine zB (av) hb rfl <| zA8 (wds m).length ha (by simp) ?_; refine zDy (fun h=>absurd (eq_of_beq h) tO) (fun _=>?_)
 refine zBB (fun k : Nat=>[(3,u64V k),(0,.ref b 0 0 0)]) (fun k H'=>H' = H ∧ k ≤ n) (fun k=>n - k) 0 rfl ⟨rfl,zNX _⟩ (fun k H1 ⟨e,hk⟩=>?_)
 subst e
 dsimp only
 have hbk:=hB av m k H1 ha tO tO
 by_cases hkn : k = n
 ·subst hkn
  rw [h2] at hbk
  refine zB (av) hb rfl <| zM (r:=k) rfl tO <| zI (hbk) <| zG ?_
  exact sRr
 ·rw [tz_low h1 (by omega : k < n)] at hbk
  refine zB (av) hb rfl <| zM (r:=k) rfl tO <| zI (hbk) <| zH <| zDp (r:=k + 1) rfl tO ?_
  exact zAA (k + 1) rfl ⟨rfl,by omega⟩ tO
structure SLe where
 t : Nat
 n : Nat
theorem length_ev (av : AV) (m : Nat) (H : Heap) (ha : Mag av m) (hl : (wds m).length ≤ 1000) : EFun C GT zD2 [av] H (zJ (bits m)) H:=by
 obtain ⟨r,hr⟩ : ∃ r,bits m = r:=⟨_,rfl⟩
 rw [hr]
 refine zc ?_; refine zA8 (wds m).length ha (by simp) ?_; refine zDy (fun h=>?_) (fun h=>?_)
 ·have h : (wds m).length = 0:=by have:=eq_of_beq h; omega
  have h0 : m = 0:=by
   by_cases e : m = 0
   ·exact e
   ·rw [zDG e] at h; simp at h
  subst h0
  subst hr
  exact sRr
 ·have h : (wds m).length ≠ 0:=fun e=>by rw [e] at h; exact absurd h (by simp)
  obtain ⟨k,hk⟩ : ∃ k,(wds m).length = k + 1:=⟨(wds m).length - 1,by omega⟩
  have hlt : k < (wds m).length:=by omega
  have hg:=zJd hlt
  have he:=wds_get m k hlt
  rw [zMf hlt] at he
  have he:=zM5 he
  have ht:=bits_top m k hk
  rw [← he,hr] at ht
  have hw:=zBj m _ (zNj hlt)
  generalize (wds m)[k] = w at *
  have hbw : bits w ≤ 32:=(bits_le 32 w).2 hw
  refine zA8 (k + 1) ha (by simp [hk]) <| zM (r:=k) tO tO <| zCl k (zBL w) ha rfl hg <| zk (zBL w) rfl ?_; refine zBB (fun s : SLe=>[(4,zBL s.t),(3,zJ s.n),(0,av)]) (fun s H'=>H' = H ∧ s.n + bits s.t = bits w) (fun s=>s.t) ⟨w,0⟩ rfl ⟨rfl,by simp⟩ (fun ⟨t,n⟩ H1 ⟨e,hn⟩=>?_)
  subst e
  simp only at hn
  dsimp only
  refine zDy (fun hc=>?_) (fun hc=>?_)
  ·have hc : t ≠ 0:=fun e=>by rw [e] at hc; exact absurd hc (by simp)
   rw [zLI hc] at hn
   refine zM (r:=n + 1) rfl tO <| zS (shr1w t) ?_
   exact zAA (SLe.mk (t / 2) (n + 1)) rfl ⟨rfl,by simp only; omega⟩ (by simp only; omega)
  ·have hc : t = 0:=by simp only [zNA] at hc; omega
   subst hc
   have hz : bits 0 = 0:=rfl
   rw [hz] at hn
   have hn' : n = bits w:=by omega
   subst hn'
   subst ht
   refine zA8 (k + 1) ha (by simp [hk]) <| zM (r:=k) tO tO <| zM (r:=k * 32) tO tO <| zM (r:=k * 32 + bits w) tO tO ?_
   exact sRr
theorem uint64_ev (b m : Nat) (x av : AV) (H : Heap) (hb : H[b]? = some (.box [x,av])) (ha : Mag av m) (hm : m < 18446744073709551616) : EFun C GT zCn [.ref b 0 0 0] H (u64V m) H:=by
 refine zc ?_
 by_cases h0 : m = 0
 ·subst h0
  refine zB (av) hb rfl <| zA8 0 ha rfl <| zG <| zB (av) hb rfl <| zA8 0 ha rfl <| zG ?_
  exact sRr
 have hw : wds m = (m % 4294967296) :: wds (m / 4294967296):=zDG h0
 by_cases h1 : m / 4294967296 = 0
 ·rw [h1,zDu] at hw
  have hm' : m % 4294967296 = m:=by omega
  rw [hm'] at hw
  have ha' : zAs av 1 [zBL m]:=by unfold Mag at ha; rw [hw] at ha; exact ha
  refine zB (av) hb rfl <| zA8 1 ha' rfl <| zH <| zB (av) hb rfl <| zCl 0 (zBL m) ha' rfl rfl <| zk (zBL m) rfl ?_; refine zDp (r:=m) rfl tO <| zB (av) hb rfl <| zA8 1 ha' rfl <| zG ?_
  exact sRr
 ·have hw2 : wds (m / 4294967296) = [m / 4294967296]:=by
   rw [zDG h1]
   have e1 : m / 4294967296 / 4294967296 = 0:=by omega
   have e2 : m / 4294967296 % 4294967296 = m / 4294967296:=by omega
   rw [e1,e2,zDu]
  rw [hw2] at hw
  have ha' : zAs av 1 [zBL (m % 4294967296),zBL (m / 4294967296)]:=by unfold Mag at ha; rw [hw] at ha; exact ha
  have e : m % 4294967296 + 4294967296 * (m / 4294967296) = m:=by omega
  have hor:=or32 (m % 4294967296) (m / 4294967296) tO tO
  rw [e] at hor
  refine zB (av) hb rfl <| zA8 2 ha' rfl <| zH <| zB (av) hb rfl <| zCl 0 (zBL (m % 4294967296)) ha' rfl rfl <| zk (zBL (m % 4294967296)) rfl ?_; refine zDp (r:=m % 4294967296) rfl tO <| zB (av) hb rfl <| zA8 2 ha' rfl <| zH <| zB (av) hb rfl <| zCl 1 (zBL (m / 4294967296)) ha' rfl rfl ?_; refine zk (zBL (m / 4294967296)) rfl <| zDp (r:=m / 4294967296) rfl tO <| zS (shl32 (m / 4294967296) tO) <| zS hor ?_
  exact sRr
theorem int64_ev (hU : ∀ b m x av H,H[b]? = some (.box [x,av]) → Mag av m → m < 18446744073709551616 → C zAt [.ref b 0 0 0] H (u64V m) H) (b : Nat) (v : Int) (H : Heap) (hb : H[b]? = some (.box (zGB v))) (hv : zDP v) :
  EFun C GT zCz [.ref b 0 0 0] H (zK v) H:=by
 unfold zDP at hv
 have hu:=hU b v.natAbs _ _ H hb (zHc _) tO
 unfold zGB at hb
 refine zc ?_
 by_cases hn : v < 0
 ·rw [zM8 hn] at hb
  have e : aUn .neg (.int .i64 (if v = -9223372036854775808 then v else -v)) = some (zK v):=by
   simp only [aUn]
   rw [IntKind.wrap_i64]
   by_cases h : v = -9223372036854775808
   ·subst h; rfl
   ·rw [zMe h]
    have : (0 - -v + 9223372036854775808) % 18446744073709551616 - 9223372036854775808 = v:=by omega
    rw [this]; rfl
  refine zI (hu) <| sVal (r:=if v = -9223372036854775808 then v else -v) (by rw [IntKind.wrap_i64]; split <;> omega) <| zB (AV.bool true) hb rfl <| zH <| zS e ?_
  exact sRr
 ·rw [zNI hn] at hb
  refine zI (hu) <| sVal (r:=v) (by rw [IntKind.wrap_i64]; omega) <| zB (AV.bool false) hb rfl <| zG ?_
  exact sRr
theorem isInt64_ev (hL : ∀ av m H,Mag av m → (wds m).length ≤ 1000 → C zBe [av] H (zJ (bits m)) H)
  (hT : ∀ b m n x av H,H[b]? = some (.box [x,av]) → Mag av m → m ≠ 0 → (wds m).length ≤ 100 → n ≤ 10000 → m % 2 ^ n = 0 → m / 2 ^ n % 2 = 1 → C zAJ [.ref b 0 0 0] H (u64V n) H)
  (b : Nat) (v : Int) (H : Heap) (hb : H[b]? = some (.box (zGB v))) (hv : (wds v.natAbs).length ≤ 100) : EFun C GT zCe [.ref b 0 0 0] H (.bool (decide (zDP v))) H:=by
 obtain ⟨r,hr⟩ : ∃ r,decide (zDP v) = r:=⟨_,rfl⟩
 rw [hr]
 have hl:=hL (zEP v.natAbs) v.natAbs H (zHc _) tO
 have b63:=bits_le 63 v.natAbs
 have b64:=bits_le 64 v.natAbs
 have e63 : (2 : Nat) ^ 63 = 9223372036854775808:=by decide
 have e64 : (2 : Nat) ^ 64 = 18446744073709551616:=by decide
 rw [e63] at b63
 rw [e64] at b64
 have hb2 : H[b]? = some (.box [.bool (decide (v < 0)),zEP v.natAbs]):=hb
 clear hb
 refine zc ?_; refine zB (zEP v.natAbs) hb2 rfl <| zI (hl) ?_
 generalize bits v.natAbs = L at *
 refine zDy (fun h=>?_) (fun h=>?_)
 ·have h : L ≤ 63:=by have:=zNM h; omega
  have : zDP v:=by unfold zDP; have:=b63.1 h; omega
  rw [zM8 this] at hr
  subst hr
  refine zH ?_
  exact sRr
 ·have h : ¬ L ≤ 63:=by have:=zNN h; omega
  have hbig : ¬ v.natAbs < 9223372036854775808:=fun h'=>h (b63.2 h')
  refine zDy (fun h64=>?_) (fun h64=>?_)
  ·have h64 : L ≤ 64:=by have:=eq_of_beq h64; omega
   have hlt:=b64.1 h64
   by_cases hn : v < 0
   ·rw [zM8 hn] at hb2
    obtain ⟨n,t1,t2⟩:=tz_exists v.natAbs tO
    have hn64 : n < 64:=by
     rcases zOB n 64 with h | h
     ·exact h
     ·have h1 : 2 ^ 64 ≤ 2 ^ n:=zNm tO h
      rw [e64] at h1
      rw [zOx tO] at t1
      omega
    have ht:=hT b v.natAbs n _ _ H hb2 (zHc _) tO hv tO t1 t2
    by_cases h63 : n = 63
    ·subst h63
     have:=tz_63 hlt t1 t2
     have hin : zDP v:=by unfold zDP; omega
     rw [zM8 hin] at hr
     subst hr
     refine zB (AV.bool true) hb2 rfl <| zH <| zH <| zI (ht) <| zH <| zG ?_
     exact sRr
    ·have hin : ¬ zDP v:=fun hin=>by
      unfold zDP at hin
      have e : v.natAbs = 2 ^ 63:=by rw [e63]; omega
      rw [e] at t1 t2
      rcases Nat.lt_or_gt_of_ne h63 with h | h
      ·have:=tz_low (m:=2 ^ 63) (n:=63) (k:=n) (Nat.mod_self _) h
       omega
      ·have h1 : (2 : Nat) ^ 63 < 2 ^ n:=Nat.pow_lt_pow_right tO h
       rw [zOx h1] at t1
       omega
     have hne : ((n : Int) == 63) = false:=by rw [zPR]; omega
     rw [zNI hin] at hr
     subst hr
     refine zB (AV.bool true) hb2 rfl <| zH <| zH <| zI (ht) <| zH <| zG ?_
     exact sRetE (zM1 AV.bool hne.symm) rfl rfl rfl rfl (Old.refl _)
   ·rw [zNI hn] at hb2
    have hin : ¬ zDP v:=fun hin=>by unfold zDP at hin; omega
    rw [zNI hin] at hr
    subst hr
    refine zB (AV.bool false) hb2 rfl <| zH <| zG <| zG <| zG ?_
    exact sRr
  ·have h64 : ¬ L ≤ 64:=fun h'=>by
    have : L = 64:=by omega
    rw [this] at h64
    exact absurd h64 (by simp)
   have hgt : ¬ v.natAbs < 18446744073709551616:=fun h'=>h64 (b64.2 h')
   have hin : ¬ zDP v:=fun hin=>by unfold zDP at hin; omega
   rw [zNI hin] at hr
   subst hr
   refine zG <| zG <| zG <| zG ?_
   exact sRr
theorem give_ev (b n : Nat) (neg : Bool) (x0 x1 : AV) (H : Heap) (hb : H[b]? = some (.box [x0,x1])) : EFun C GT zBy [.ref b 0 0 0,.bool neg,zEP n] H (.ref b 0 0 0) (H.set b (.box [.bool (neg && decide (0 < n)),zEP n])):=by
 have hbl : b < H.length:=(zg hb).1
 have hz : ((wds n).length > 0) ↔ 0 < n:=by
  by_cases e : n = 0
  ·subst e; simp [zDu]
  ·rw [zDG e]; simp; omega
 have hd : decide (((wds n).length : Int) > 0) = decide (0 < n):=by
  rw [zO6,zOC,zOC,← hz]; omega
 refine zc ?_
 cases neg
 ·refine zF (v:=zEP n) [x0,zEP n] hb rfl rfl rfl rfl <| zG <| zG <| zF (v:=AV.bool false) [AV.bool false,zEP n] (zE hb) rfl rfl rfl rfl ?_
  exact sRetB (by rw [zOJ]; rfl) rfl rfl rfl (zM8 hbl) rfl
 ·refine zF (v:=zEP n) [x0,zEP n] hb rfl rfl rfl rfl <| zH <| zA8 (wds n).length (zHc n) (by simp) <| zH <| zF (v:=.bool (decide (((wds n).length : Int) > 0))) [.bool (decide (((wds n).length : Int) > 0)),zEP n] (zE hb) rfl rfl rfl rfl ?_
  exact sRetB (by rw [zOJ,hd]; rfl) rfl rfl rfl (zM8 hbl) rfl
theorem setInt64_ev (hW : ∀ x H,x < 18446744073709551616 → C zBq [u64V x] H (zEP x) H) (hG : ∀ b n neg x0 x1 H,H[b]? = some (.box [x0,x1]) → C zu [.ref b 0 0 0,.bool neg,zEP n] H (.ref b 0 0 0) (H.set b (.box [.bool (neg && decide (0 < n)),zEP n])))
  (b : Nat) (v : Int) (x0 x1 : AV) (H : Heap) (hb : H[b]? = some (.box [x0,x1])) (hv : zDP v) : EFun C GT zCV [.ref b 0 0 0,zK v] H (.ref b 0 0 0) (H.set b (.box (zGB v))):=by
 have hbl : b < H.length:=(zg hb).1
 unfold zDP at hv
 have hw:=hW v.natAbs H tO
 have hg:=hG b v.natAbs (decide (v < 0)) x0 x1 H hb
 have e0 : (decide (v < 0) && decide (0 < v.natAbs)) = decide (v < 0):=by
  by_cases h : v < 0
  ·rw [zM8 h,tT (by omega : 0 < v.natAbs)]; rfl
  ·rw [zNI h]; rfl
 rw [e0] at hg
 refine zc ?_
 by_cases hn : v < 0
 ·have e : aUn .neg (.int .u64 (18446744073709551616 + v)) = some (u64V v.natAbs):=by
   simp only [aUn]
   rw [IntKind.wrap_u64]
   have : (0 - (18446744073709551616 + v)) % 18446744073709551616 = (v.natAbs : Int):=by omega
   rw [this]; rfl
  refine sVal (r:=18446744073709551616 + v) (by rw [IntKind.wrap_u64]; omega) ?_; refine zDy (fun _=>?_) (fun h=>absurd hn (zNN h))
  refine zS e <| zI (hw) <| zp hg (fun h=>by cases h) ?_
  exact sRetB rfl rfl rfl rfl (zM8 hbl) rfl
 ·refine sVal (r:=(v.natAbs : Int)) (by rw [IntKind.wrap_u64]; omega) ?_; refine zDy (fun h=>absurd (zNM h) hn) (fun _=>?_)
  refine zI (hw) <| zp hg (fun h=>by cases h) ?_
  exact sRetB rfl rfl rfl rfl (zM8 hbl) rfl
def a_bigNew : AF:={ zHQ with keep:=true }
theorem newInt_ev (hS : ∀ b v x0 x1 H,H[b]? = some (.box [x0,x1]) → zDP v → C zAh [.ref b 0 0 0,zK v] H (.ref b 0 0 0) (H.set b (.box (zGB v)))) (v : Int) (H : Heap) (hv : zDP v) :
  EFun C GT a_bigNew [zK v] H (.ref H.length 0 0 0) (H ++ [.box (zGB v)]):=by
 have hs:=hS H.length v (.bool false) (.lst (some true) 0 []) (H ++ [.box zV8]) zD hv
 have e : (H ++ [ABlk.box zV8]).set H.length (.box (zGB v)) = H ++ [.box (zGB v)]:=by
  rw [zOW _ _ (zMh _),Nat.sub_self]; rfl
 rw [e] at hs
 refine zc ?_; refine zp hs (fun h=>by cases h) ?_
 exact sRetK rfl rfl
theorem fits_ev (hI : ∀ b v H,H[b]? = some (.box (zGB v)) → (wds v.natAbs).length ≤ 100 → C zAo [.ref b 0 0 0] H (.bool (decide (zDP v))) H) (b : Nat) (v : Int) (H : Heap) (hb : H[b]? = some (.box (zGB v))) (hv : (wds v.natAbs).length ≤ 100) :
  EFun C GT zIG [.ref b 0 0 0] H (.bool (decide (zDP v))) H:=by
 have h:=hI b v H hb hv
 refine zc ?_; refine zI (h) ?_
 exact sRr
theorem wds_fit {n k : Nat} (h : n < 4294967296 ^ k) : (wds n).length ≤ k:=by
 rcases zOB k (wds n).length with h2 | h2
 ·have hn : n ≠ 0:=fun e=>by subst e; simp [zDu] at h2
  have h3:=wds_ge n hn
  have h4 : 4294967296 ^ k ≤ 4294967296 ^ ((wds n).length - 1):=zNm tO tO
  omega
 ·exact h2
end
end Go.AM
set_option maxRecDepth 20000
namespace Go.AM
def mulV (v : Nat) : AV:=if v = 0 then .lst (some true) 0 [] else zEP (v * 10)
theorem mulV_mag (v : Nat) : Mag (mulV v) (v * 10):=by
 unfold mulV
 by_cases h : v = 0
 ·rw [zMg h]; subst h; exact ⟨some true,0,rfl,.inr rfl⟩
 ·rw [zMe h]; exact zHc _
theorem wds_ten : wds 10 = [10]:=by rw [zDG (by decide)]; rfl
theorem set_pad2 (ds : List Nat) (c m d e : Nat) : ((((ds ++ c :: List.replicate (m + 1) 0).map zBL).set ds.length (zBL d)).set (ds.length + 1) (zBL e)) = ((ds ++ [d]) ++ e :: List.replicate m 0).map zBL:=by
 rw [← List.map_set,← List.map_set,zOW _ _ (zMh _),Nat.sub_self,zOW _ _ tO,zOQ]
 simp [zO3]
theorem get_pad1 (ds : List Nat) (c : Nat) (zs : List Nat) : ((ds ++ c :: zs).map zBL)[ds.length]? = some (zBL c):=by
 rw [zMq,zMu (zMh _),Nat.sub_self]; rfl
theorem get_pad2 (ds : List Nat) (c m d : Nat) : (((ds ++ c :: List.replicate (m + 1) 0).map zBL).set ds.length (zBL d))[ds.length + 1]? = some (zBL 0):=by
 rw [zM4 tO,zMq,zMu tO,zOQ]; rfl
structure SMu where
 i : Nat
 c : Nat
 ds : List Nat
structure SMj where
 j : Nat
 c : Nat
section
variable {C : CSpec} {GT : Nat → Option AV}
theorem mul10_ev (hT : ∀ b m ws H,ws.length = m → H[b]? = some (.row 1 (ws.map zBL)) → Small ws → m ≤ 1000000 → C z7 [.sl (some false) b 1 0 m] H (.sl (some false) b 1 0 (wds (wval ws)).length) H)
  (av : AV) (x n : Nat) (H : Heap) (ha : Mag av x) (hn : (wds x).length = n) (hl : n ≤ 100000) : EFun C GT zE4 [av,zEP 10] H (mulV x) H:=by
 have hal : ((wds x).map zBL).length = n:=by rw [zMl,hn]
 have hb : zAs (zEP 10) 1 [zBL 10]:=by have:=zHc 10; unfold Mag at this; rw [wds_ten] at this; exact this
 refine zc ?_
 unfold mulV
 by_cases h0 : x = 0
 ·subst h0
  have hn0 : n = 0:=by rw [← hn]; rfl
  rw [zMg rfl]
  refine zA8 n ha hal ?_; refine zP tE <| zH <| zH ?_
  exact sRr
 rw [zMe h0]
 have hn1 : n ≠ 0:=by rw [← hn,zDG h0]; simp
 refine zA8 n ha hal ?_; refine zO tN ?_; refine zA8 1 hb rfl ?_; refine zG <| zO tN ?_; refine zA8 n ha hal ?_; refine zA8 1 hb rfl ?_; refine zM (r:=n + 1) rfl tO ?_; refine sMake (n:=n + 1) rfl (Int.le_refl _) ⟨by omega,by omega⟩ rfl ?_; refine zBB (fun s : SMu=>[(6,zJ s.i),(5,.sl (some false) H.length 1 0 (n + 1)),(1,zEP 10),(0,av)])
  (fun s H'=>Old H H' ∧ s.ds.length = s.i ∧ s.i ≤ n ∧ Small s.ds ∧ s.c ≤ 10 ∧ H'[H.length]? = some (.row 1 ((s.ds ++ s.c :: List.replicate (n - s.i) 0).map zBL)) ∧ wval s.ds + 4294967296 ^ s.i * s.c = wval ((wds x).take s.i) * 10) (fun s=>n - s.i) ⟨0,0,[]⟩ rfl
  ⟨(Old.refl _).push _,rfl,zNX _,(fun w hw=>by cases hw),by simp only; omega,by rw [zN1,zPP,← List.replicate_succ,zO9]; exact zD,rfl⟩ (fun ⟨i,c,ds⟩ H1 ⟨hO,hd,hi,hsm,hc,hrow,hval⟩=>?_)
 simp only at hd hi hsm hc hrow hval
 dsimp only
 refine zA8 n ha hal ?_; refine zDy (fun h=>?_) (fun h=>?_)
 ·have h : i < n:=by have:=zNM h; omega
  have hx : i < (wds x).length:=by omega
  have hax:=zJd hx
  have htx:=zC4 hx
  have hsx:=zBj x _ (zNj hx)
  obtain ⟨a,had⟩ : ∃ a,(wds x)[i] = a:=⟨_,rfl⟩
  rw [had] at hax htx hsx
  obtain ⟨m,hm⟩ : ∃ m,n - i = m + 1:=⟨n - i - 1,by omega⟩
  rw [hm] at hrow
  have hg1:=get_pad1 ds c (List.replicate (m + 1) 0)
  have hg2:=fun d=>get_pad2 ds c m d
  have hset:=fun d e=>set_pad2 ds c m d e
  rw [hd] at hg1 hg2 hset
  have hsz : H1.length > H.length:=(zg hrow).1
  refine zBB (fun s : SMj=>[(8,zJ s.j),(6,zJ i),(5,.sl (some false) H.length 1 0 (n + 1)),(1,zEP 10),(0,av),(7,u64V s.c)])
   (fun s H'=>(s.j = 0 ∧ s.c = 0 ∧ H' = H1) ∨ (s.j = 1 ∧ s.c = (a * 10 + c) / 4294967296 ∧ H' = H1.set H.length (.row 1 (((ds ++ c :: List.replicate (m + 1) 0).map zBL).set i (zBL ((a * 10 + c) % 4294967296)))))) (fun s=>1 - s.j) ⟨0,0⟩ rfl (.inl ⟨rfl,rfl,rfl⟩) (fun ⟨j,c2⟩ H2 hj=>?_)
  dsimp only at hj ⊢
  rcases hj with ⟨rfl,rfl,rfl⟩ | ⟨rfl,rfl,rfl⟩
  ·refine zA8 1 hb rfl ?_; refine zP (tT (by decide)) ?_; refine zCl i (zBL a) ha rfl hax ?_; refine zk (zBL a) rfl ?_; refine zDp (r:=a) rfl tO ?_; refine zCl 0 (zBL 10) hb rfl rfl ?_; refine zk (zBL 10) rfl ?_; refine zDp (r:=10) rfl tO ?_; refine zDp (r:=a * 10) rfl tO ?_; refine zM (r:=i) tO tO ?_; refine sAt ⟨by omega,by omega⟩ ?_; refine zA5 i (zBL c) (zBL c) tO hrow hg1 rfl ?_; refine zDp (r:=c) rfl tO ?_
   refine zDp (r:=a * 10 + c) rfl tO ?_; refine zDp (r:=a * 10 + c) tO tO ?_; refine zM (r:=i) tO tO ?_; refine sWu32 ((a * 10 + c) % 4294967296) tO ?_; refine sAt ⟨by omega,by omega⟩ ?_; refine zLo i (zBL ((a * 10 + c) % 4294967296)) tO hrow hg1 rfl (by decide) rfl (fun cs h=>by cases h) ?_; refine zS (shr32 (a * 10 + c)) ?_; refine zM (r:=1) tO tO ?_; refine zAA (SMj.mk 1 ((a * 10 + c) / 4294967296)) rfl (.inr ⟨rfl,rfl,rfl⟩) (by simp)
  ·have hrow2 : (H1.set H.length (.row 1 (((ds ++ c :: List.replicate (m + 1) 0).map zBL).set i (zBL ((a * 10 + c) % 4294967296)))))[H.length]? = some (.row 1 (((ds ++ c :: List.replicate (m + 1) 0).map zBL).set i (zBL ((a * 10 + c) % 4294967296)))):=zE hrow
   refine zA8 1 hb rfl ?_; refine zO (tF (by decide)) ?_; refine zA8 1 hb rfl ?_; refine zM (r:=i + 1) rfl tO ?_; refine sWu32 ((a * 10 + c) / 4294967296) tO ?_; refine sAt ⟨by omega,by omega⟩ ?_; refine zLo (i + 1) (zBL ((a * 10 + c) / 4294967296)) tO hrow2 (hg2 _) rfl (by decide) rfl (fun cs h=>by cases h) ?_; refine zM (r:=i + 1) rfl tO ?_; refine zAA (SMu.mk (i + 1) ((a * 10 + c) / 4294967296) (ds ++ [(a * 10 + c) % 4294967296])) rfl ⟨(hO.set (zMh _) _).set (zMh _) _,by simp [hd],by simp only; omega,hsm.snoc tO,by simp only; omega, ?_, ?_⟩ (by simp only; omega)
   ·have : n - (i + 1) = m:=by omega
    simp only [this]
    rw [hset]
    exact zE hrow2
   ·simp only [zDm,hd,htx,zNf]
    have e : (a * 10 + c) % 4294967296 + 4294967296 * ((a * 10 + c) / 4294967296) = a * 10 + c:=by omega
    have e2 : 4294967296 ^ i * ((a * 10 + c) % 4294967296) + 4294967296 ^ i * 4294967296 * ((a * 10 + c) / 4294967296) = 4294967296 ^ i * a * 10 + 4294967296 ^ i * c:=by
     rw [zOL,← Nat.mul_add,e,zO1,zOL]
    rw [zNJ]
    omega
 ·have h : i = n:=by have:=zNN h; omega
  subst h
  rw [Nat.sub_self,zO4] at hrow
  rw [zM7 tO,zDv,← hd,← zDm] at hval
  have hsm2 : Small (ds ++ [c]):=hsm.snoc tO
  have ht:=hT H.length (i + 1) (ds ++ [c]) _ (by simp [hd]) hrow hsm2 tO
  rw [hval] at ht
  refine zI ht ?_
  exact zKj rfl rfl (frz_mag (zMh _) hrow hsm2 hval) rfl (hO.set (zMh _) _)
theorem give0_ev (b : Nat) (xs : List AV) (nv x0 x1 : AV) (H : Heap) (hb : H[b]? = some (.box [x0,x1])) (hv : zAs nv 1 xs) : EFun C GT zBy [.ref b 0 0 0,.bool false,nv] H (.ref b 0 0 0) (H.set b (.box [.bool false,nv])):=by
 have hbl : b < H.length:=(zg hb).1
 obtain ⟨q,k',rfl,hk⟩:=hv
 refine zc ?_; refine zF (v:=AV.lst q k' xs) [x0,AV.lst q k' xs] hb rfl rfl rfl rfl ?_; refine zG <| zG ?_; refine zF (v:=AV.bool false) [AV.bool false,AV.lst q k' xs] (zE hb) rfl rfl rfl rfl ?_
 exact sRetB (zOJ ..) rfl rfl rfl (zM8 hbl) rfl
theorem bigMul_ev (hM : ∀ av x H,Mag av x → (wds x).length ≤ 100000 → C zCQ [av,zEP 10] H (mulV x) H)
  (hG : ∀ b xs nv x0 x1 H,H[b]? = some (.box [x0,x1]) → zAs nv 1 xs → C zu [.ref b 0 0 0,.bool false,nv] H (.ref b 0 0 0) (H.set b (.box [.bool false,nv])))
  (b t v : Nat) (av : AV) (H : Heap) (hb : H[b]? = some (.box [.bool false,av])) (ht : H[t]? = some (.box (zGB 10))) (ha : Mag av v) (hl : (wds v).length ≤ 1000) :
  EFun C GT zDi [.ref b 0 0 0,.ref b 0 0 0,.ref t 0 0 0] H (.ref b 0 0 0) (H.set b (.box [.bool false,mulV v])):=by
 have hbl : b < H.length:=(zg hb).1
 have hm:=hM av v H ha tO
 have hg:=hG b _ (mulV v) _ _ H hb (mulV_mag v)
 clear hM hG
 have ht : H[t]? = some (.box [.bool false,zEP 10]):=ht
 refine zc ?_; refine zB (AV.bool false) hb rfl ?_; refine zB (AV.bool (decide (10 < 0))) ht rfl ?_; refine zB (av) hb rfl ?_; refine zB (zEP (Int.natAbs 10)) ht rfl ?_; refine zI hm ?_; refine zp hg (fun h=>by cases h) ?_
 exact sRetB rfl rfl rfl rfl (zM8 hbl) (by unfold mulV; split <;> rfl)
theorem bigAddM_ev (hS : ∀ av bv xn yn x y H,Mag av x → Mag bv y → (wds x).length ≤ 100000 → (wds y).length ≤ 100000 → C zCR [.bool xn,av,.bool yn,bv] H (.tup [.bool (sumS xn x yn y).1,zEP (sumS xn x yn y).2]) H)
  (hG : ∀ b n neg x0 x1 H,H[b]? = some (.box [x0,x1]) → C zu [.ref b 0 0 0,.bool neg,zEP n] H (.ref b 0 0 0) (H.set b (.box [.bool (neg && decide (0 < n)),zEP n])))
  (b t v d : Nat) (av : AV) (H : Heap) (hb : H[b]? = some (.box [.bool false,av])) (ht : H[t]? = some (.box (zGB d))) (ha : Mag av v) (hl : (wds v).length ≤ 1000) (hd : (wds d).length ≤ 1000) :
  EFun C GT zDj [.ref b 0 0 0,.ref b 0 0 0,.ref t 0 0 0] H (.ref b 0 0 0) (H.set b (.box (zGB ((v + d : Nat) : Int)))):=by
 have hbl : b < H.length:=(zg hb).1
 have e1 : zGB (d : Int) = [.bool false,zEP d]:=by unfold zGB; rw [tF]; rfl
 have e2 : zGB ((v + d : Nat) : Int) = [.bool false,zEP (v + d)]:=by unfold zGB; rw [tF]; rfl
 have hs:=hS av (zEP d) false false v d H ha (zHc _) tO tO
 have es : sumS false v false d = (false,v + d):=rfl
 rw [es] at hs
 have hg:=hG b (v + d) false (.bool false) av H hb
 rw [e1] at ht
 rw [e2]
 clear hS hG
 refine zc ?_; refine zB (AV.bool false) hb rfl ?_; refine zB (av) hb rfl ?_; refine zB (AV.bool false) ht rfl ?_; refine zB (zEP d) ht rfl ?_; refine zI hs ?_; refine zS rfl ?_; refine zS rfl ?_; refine zp hg (fun h=>by cases h) ?_
 exact sRetB rfl rfl rfl rfl (zM8 hbl) rfl
end
end Go.AM
set_option maxRecDepth 20000
namespace Go.AM
def zKE : Option Int → AV
 | some n=>.tup [zK n,.bool true]
 | none=>.tup [zK 0,.bool false]
theorem dec_take {s : Bs} {i : Nat} {c : UInt8} (h : s[i]? = some c) : zCt (s.take (i + 1)) = zCt (s.take i) * 10 + (c.toNat - 48):=by
 rw [List.take_add_one,h]
 exact decV_snoc _ _
theorem all_take {s : Bs} {i : Nat} {c : UInt8} (h : s[i]? = some c) : (s.take (i + 1)).all zH4 = ((s.take i).all zH4 && zH4 c):=by
 rw [List.take_add_one,h,List.all_append]
 simp
theorem bigC_nat (n : Nat) : zGB (n : Int) = [.bool false,zEP n]:=by unfold zGB; rw [tF]; rfl
theorem pow_words2 (k : Nat) : 10 ^ (9 * k) ≤ 4294967296 ^ k:=by
 rw [Nat.pow_mul]; exact Nat.pow_le_pow_left (by decide) k
theorem dec_words {s : Bs} (h : s.all zH4 = true) (hl : s.length ≤ 200) : (wds (zCt s)).length ≤ 23:=by
 refine wds_fit ?_
 have h1:=zMT s h
 have h2 : 10 ^ s.length ≤ 10 ^ (9 * 23):=zNm (by decide) tO
 exact zNK h1 (zN4 h2 (pow_words2 23))
section
variable {C : CSpec} {GT : Nat → Option AV}
theorem rwhole_ev (hNew : ∀ v H,zDP v → C zAe [zK v] H (.ref H.length 0 0 0) (H ++ [.box (zGB v)]))
  (hMul : ∀ b t v av H,H[b]? = some (.box [.bool false,av]) → H[t]? = some (.box (zGB 10)) → Mag av v → (wds v).length ≤ 1000 → C zAm [.ref b 0 0 0,.ref b 0 0 0,.ref t 0 0 0] H (.ref b 0 0 0) (H.set b (.box [.bool false,mulV v])))
  (hAdd : ∀ (b t v d : Nat) (av : AV) (H : Heap),H[b]? = some (.box [.bool false,av]) → H[t]? = some (.box (zGB d)) → Mag av v → (wds v).length ≤ 1000 → (wds d).length ≤ 1000 → C zAn [.ref b 0 0 0,.ref b 0 0 0,.ref t 0 0 0] H (.ref b 0 0 0) (H.set b (.box (zGB ((v + d : Nat) : Int)))))
  (hFit : ∀ b v H,H[b]? = some (.box (zGB v)) → (wds v.natAbs).length ≤ 100 → C zCy [.ref b 0 0 0] H (.bool (decide (zDP v))) H)
  (hI : ∀ b v H,H[b]? = some (.box (zGB v)) → zDP v → C zAY [.ref b 0 0 0] H (zK v) H)
  (s : Bs) (H : Heap) (hl : s.length ≤ 200) : EFun C GT zCd [.str s,.bool false] H (zKE (zBE s)) H:=by
 refine zc ?_
 cases s with
 | nil=>
  clear hNew hMul hAdd hFit hI
  refine zG <| zG <| zG <| zG <| zG <| zH <| zH <| zH ?_
  exact sRr
 | cons c0 r0=>
 have hc0 : (c0 :: r0)[0]? = some c0:=rfl
 have hne : ((c0 :: r0) == ([] : Bs)) = false:=rfl
 obtain ⟨s,hs⟩ : ∃ s,c0 :: r0 = s:=⟨_,rfl⟩
 have hh : s.head? = some c0:=by rw [← hs]; rfl
 have hs0 : s ≠ []:=by rw [← hs]; simp
 have hs1 : 1 ≤ s.length:=by rw [← hs]; simp
 rw [hs] at hc0 hne hl ⊢
 clear hs r0
 by_cases h48 : c0.toNat = 48 ∧ s ≠ [48]
 ·have e : zBE s = none:=by
   unfold zBE
   rw [zMg (.inr ⟨by rw [hh,show c0 = 48 from zM0.1 h48.1],h48.2⟩)]
  rw [e]
  clear hNew hMul hAdd hFit hI
  refine zG <| zG <| zG <| zG <| zG <| zO hne ?_; refine zn rfl hc0 <| zP tE <| zH <| zG <| zP (zNP.2 h48.2) ?_
  exact sRr
 have hform : ¬ (s = [] ∨ (s.head? = some 48 ∧ s ≠ [48])):=by
  rintro (h | ⟨h,h'⟩)
  ·exact hs0 h
  ·rw [hh] at h; cases h; exact h48 ⟨rfl,h'⟩
 have main : loopP C GT [8,6,7,0] zFk (zKV 0 [7,0,6] (seqK (EW C GT (AC.rest (AC.rest (AC.rest (AC.rest (AC.rest (AC.rest zHO)))))) (finF zCd H (zKE (zBE s)) H)) (finF zCd H (zKE (zBE s)) H))) [(8,zJ 0),(6,.str s),(7,.ref H.length 0 0 0),(0,.str s)] (H ++ [.box zV8]):=by
  have hwp : zBE s = if s.all zH4 = true then (if zCt s ≤ 9223372036854775807 then some (zCt s : Int) else none) else none:=by unfold zBE; rw [zMe hform]
  rw [hwp]
  obtain ⟨r,hr⟩ : ∃ r,(if s.all zH4 = true then (if zCt s ≤ 9223372036854775807 then some (zCt s : Int) else none) else none) = r:=⟨_,rfl⟩
  rw [hr]
  refine zBB (fun i : Nat=>[(8,zJ i),(6,.str s),(7,.ref H.length 0 0 0),(0,.str s)])
   (fun i H'=>Old H H' ∧ i ≤ s.length ∧ (s.take i).all zH4 = true ∧ ∃ av,H'[H.length]? = some (.box [.bool false,av]) ∧ Mag av (zCt (s.take i)) ∧ (1 ≤ i → av = zEP (zCt (s.take i))))
   (fun i=>s.length - i) 0 rfl ⟨(Old.refl _).push _,by omega,rfl,_,zD,⟨some true,0,rfl,.inr rfl⟩,fun h=>by omega⟩ (fun i H1 ⟨hO,hi,hd,av,hb,hm,hav⟩=>?_)
  try dsimp only
  have hw:=dec_words hd (by rw [zMy]; omega)
  by_cases hlt : i < s.length
  ·obtain ⟨c,hc⟩ : ∃ c,s[i]? = some c:=⟨_,zMf hlt⟩
   have hdt:=dec_take hc
   have hat:=all_take hc
   have hc256 : c.toNat < 256:=zNu c
   by_cases hdg : zH4 c = true
   ·have hdg':=hdg
    unfold zH4 at hdg'
    simp only [zMd,zMr] at hdg'
    rw [hd,hdg] at hat
    have hd2 : (wds (c.toNat - 48)).length ≤ 1000:=zN4 (wds_fit (k:=1) tO) tO
    have hmw : (wds (zCt (s.take i) * 10)).length ≤ 1000:=by
     have h1:=zMT (s.take (i + 1)) hat
     refine zN4 (wds_fit (k:=23) ?_) tO
     have h2 : 10 ^ (s.take (i + 1)).length ≤ 10 ^ (9 * 23):=zNm (by decide) (by rw [zMy]; omega)
     have h3:=pow_words2 23
     omega
    have hn10:=hNew 10
    have hnd:=hNew ((c.toNat - 48 : Nat) : Int)
    have hmul:=fun t H h1 h2=>hMul H1.length t (zCt (s.take i)) av H h1 h2
    clear hFit hI hNew
    have hbl : H.length < H1.length:=(zg hb).1
    refine zP tT <| zn rfl hc <| zO tF <| zn rfl hc <| zG <| zO tF ?_; refine zp (hn10 _ (by decide)) (fun h=>by cases h) <| zp (hMul H.length H1.length (zCt (s.take i)) av _ hP hP hm tO) (fun h=>by cases h) <| zn rfl hc <| zM (r:=c.toNat) tO tO <| zM (r:=c.toNat - 48) tO tO <| zp (hnd _ (by unfold zDP; omega)) (fun h=>by cases h) ?_; refine zp (hAdd H.length _ (zCt (s.take i) * 10) (c.toNat - 48) (mulV (zCt (s.take i))) _ hP hP (mulV_mag _) hmw hd2) (fun h=>by cases h) <| zM (r:=i + 1) rfl tO ?_
    refine zAA (i + 1) rfl ⟨?_,by omega,hat,zEP (zCt (s.take (i + 1))), ?_,zHc _,fun _=>rfl⟩ tO
    ·exact (((hO.push _).set (zMh _) _).push _).set (zMh _) _
    ·rw [hdt,← bigC_nat]
     exact hP
   ·have hdf:=zNL.2 hdg
    have hall : s.all zH4 = false:=by
     rw [zNL]
     intro h
     exact hdg (zNk.1 h c (zM3 hc))
    rw [hall] at hr
    have hr : none = r:=hr
    subst hr
    clear hFit hI hNew hMul hAdd
    unfold zH4 at hdf
    by_cases h1 : c.toNat < 48
    ·refine zP tT <| zn rfl hc <| zP tT <| zH <| zH ?_
     exact zBO rfl rfl rfl rfl hO
    ·have h2 : 57 < c.toNat:=by
      rw [tT (by omega : 48 ≤ c.toNat),zNz] at hdf
      have:=zNN hdf
      omega
     refine zP tT <| zn rfl hc <| zO tF <| zn rfl hc <| zG <| zP tT ?_
     exact zBO rfl rfl rfl rfl hO
  ·have hin : i = s.length:=by omega
   subst hin
   rw [zOz] at hd hm hav hw
   have hav:=hav hs1
   subst hav
   rw [hd,zMg rfl] at hr
   have hb' : H1[H.length]? = some (.box (zGB ((zCt s : Nat) : Int))):=by rw [bigC_nat]; exact hb
   have hft:=hFit H.length ((zCt s : Nat) : Int) H1 hb' (by simpa using (by omega : (wds (zCt s)).length ≤ 100))
   have hi6:=hI H.length ((zCt s : Nat) : Int) H1 hb'
   clear hFit hI hNew hMul hAdd
   by_cases h64 : zCt s ≤ 9223372036854775807
   ·rw [zMg h64] at hr
    subst hr
    have hin64 : zDP ((zCt s : Nat) : Int):=by unfold zDP; omega
    rw [zM8 hin64] at hft
    have hi6:=hi6 hin64
    refine zO tF <| zO (zNA.2 rfl) <| zI hft <| zG <| zI hi6 ?_
    exact zBO rfl rfl rfl rfl hO
   ·rw [zMe h64] at hr
    subst hr
    have hin64 : ¬ zDP ((zCt s : Nat) : Int):=by unfold zDP; omega
    rw [zNI hin64] at hft
    refine zO tF <| zO (zNA.2 rfl) <| zI hft <| zH ?_
    exact zBO rfl rfl rfl rfl hO
 by_cases h0 : c0.toNat = 48
 ·have h1 : s = [48]:=by
   rcases Classical.em (s = [48]) with h | h
   ·exact h
   ·exact absurd ⟨h0,h⟩ h48
  refine zG <| zG <| zG <| zG <| zG <| zO hne ?_; refine zn rfl hc0 <| zP tE <| zH <| zG <| zO (zNA.2 h1) ?_
  exact main
 ·refine zG <| zG <| zG <| zG <| zG <| zO hne ?_; refine zn rfl hc0 <| zO tN <| zG <| zG <| zG ?_
  exact main
end
end Go.AM
