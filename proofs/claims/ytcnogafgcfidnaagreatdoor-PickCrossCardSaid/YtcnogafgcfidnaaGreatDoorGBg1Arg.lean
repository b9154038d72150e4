/- Several texts of mine in one (Bg1, Bg2, Bga, Vev, Arg). Own work. -/
import Derived.Test.YtcnogafgcfidnaaGreatDoorGHs1Bh2
import Derived.Test.YtcnogafgcfidnaaGreatDoorGPkdHd5
import Derived.Test.YtcnogafgcfidnaaGreatDoorGRtwErr
import Derived.Test.YtcnogafgcfidnaaGreatDoorGValStb
import Derived.Test.YtcnogafgcfidnaaGreatDoorGAm22Am30
import Derived.Test.YtcnogafgcfidnaaGreatDoorGHgcAm33
set_option linter.all false
set_option maxRecDepth 20000
namespace Go.AM
theorem zRB (s : Nat) : zAj .shr .u64 (s : Int) 63 = some (.int .u64 ((s / 9223372036854775808 : Nat) : Int)):=by
 simp only [zAj]
 rw [if_neg tO]
 have : (2 : Int) ^ Nat.min (63 : Int).toNat IntKind.u64.bits = 9223372036854775808:=by rfl
 rw [this,Int.fdiv_eq_ediv_of_nonneg _ tO]
 rfl
section
variable {C : CSpec} {GT : Nat → Option AV}
structure SAd where
 i : Nat
 c : Nat
 ds : List Nat
section
variable (hT : ∀ b m ws H,ws.length = m → H[b]? = some (.row 1 (ws.map zA8)) → Small ws → m ≤ 1000000 → C za [.sl (some false) b 1 0 m] H (.sl (some false) b 1 0 (wds (wval ws)).length) H) (av bv : AV)
include hT av bv
theorem zLM (x y n : Nat) (H : Heap) (ha : Mag av x) (hb : Mag bv y) (hn : (wds x).length = n) (hle : (wds y).length ≤ n) (hl : n ≤ 100000) :
  EW C GT (zCI.behind 2) (finF zBI H (zDk (x + y)) H) [(1,bv),(0,av)] H:=by
 have hal : ((wds x).map zA8).length = n:=by rw [List.length_map,hn]
 refine zu n ha hal <| zY (r:=n + 1) rfl tO <| zQx (n:=n + 1) rfl (Int.le_refl _) ⟨by omega,by omega⟩ rfl ?_; refine zAV (fun s : SAd=>[(7,zBf s.i),(5,.sl (some false) H.length 1 0 (n + 1)),(1,bv),(0,av),(6,zJz s.c)])
  (fun s H'=>Old H H' ∧ s.ds.length = s.i ∧ s.i ≤ n ∧ Small s.ds ∧ s.c ≤ 1 ∧ H'[H.length]? = some (.row 1 ((s.ds ++ List.replicate (n + 1 - s.i) 0).map zA8)) ∧ wval s.ds + 4294967296 ^ s.i * s.c = wval ((wds x).take s.i) + wval ((wds y).take s.i)) (fun s=>n - s.i) ⟨0,0,[]⟩ rfl
  ⟨(Old.refl _).push _,rfl,Nat.zero_le _,(fun w hw=>by cases hw),Nat.zero_le _,by rw [List.nil_append,Nat.sub_zero,List.map_replicate]; exact zA,rfl⟩ (fun ⟨i,c,ds⟩ H1 ⟨hO,hd,hi,hsm,hc,hrow,hval⟩=>?_)
 simp only at hd hi hsm hc hrow hval
 dsimp only
 refine zu n ha hal ?_; refine zH (fun h=>?_) (fun h=>?_)
 ·have h : i < n:=by have:=of_decide_eq_true h; omega
  have hx : i < (wds x).length:=by omega
  have hax:=zFj hx
  have htx:=zBX hx
  have hsx:=zAM x _ (List.getElem_mem hx)
  obtain ⟨a,had⟩ : ∃ a,(wds x)[i] = a:=⟨_,rfl⟩
  rw [had] at hax htx hsx
  have hm : n + 1 - i = (n - i) + 1:=by omega
  rw [hm] at hrow
  have hget:=zKb ds (n - i)
  have hset:=fun d=>zKa ds (n - i) d
  rw [hd] at hget hset
  have hlen : ds.length = i:=hd
  refine zAK i (zA8 a) ha rfl hax <| zh (zA8 a) rfl <| zC4 (r:=a) rfl tO <| zC4 (r:=c + a) tO tO <| zu (wds y).length hb (by simp) ?_; refine zH (fun h2=>?_) (fun h2=>?_)
  ·have h2 : i < (wds y).length:=by have:=of_decide_eq_true h2; omega
   have hby:=zFj h2
   have hty:=zBX h2
   have hsy:=zAM y _ (List.getElem_mem h2)
   obtain ⟨d,hdd⟩ : ∃ d,(wds y)[i] = d:=⟨_,rfl⟩
   rw [hdd] at hby hty hsy
   refine zAK i (zA8 d) hb rfl hby <| zh (zA8 d) rfl <| zC4 (r:=d) rfl tO <| zC4 (r:=c + a + d) tO tO <| zKZ ((c + a + d) % 4294967296) tO <| sAt ⟨by omega,by omega⟩ ?_; refine zJV i (zA8 ((c + a + d) % 4294967296)) tO hrow hget rfl (by decide) rfl (fun cs h=>by cases h) <| zA9 (zQJ (c + a + d)) <| zY (r:=i + 1) rfl tO ?_; refine zw (SAd.mk (i + 1) ((c + a + d) / 4294967296) (ds ++ [(c + a + d) % 4294967296])) rfl ⟨hO.set (Nat.le_refl _) _,by simp [hlen],by simp only; omega,hsm.snoc tO,by simp only; omega, ?_, ?_⟩ (by simp only; omega)
   ·rw [hset]
    have : n + 1 - (i + 1) = n - i:=by omega
    simp only [this]
    exact zN hrow
   ·simp only [zB6,hlen,htx,hty,Nat.pow_succ]
    have e : (c + a + d) % 4294967296 + 4294967296 * ((c + a + d) / 4294967296) = c + a + d:=by omega
    have e2 : 4294967296 ^ i * ((c + a + d) % 4294967296) + 4294967296 ^ i * 4294967296 * ((c + a + d) / 4294967296) = 4294967296 ^ i * c + 4294967296 ^ i * a + 4294967296 ^ i * d:=by
     rw [Nat.mul_assoc,← Nat.mul_add,e,Nat.mul_add,Nat.mul_add]
    omega
  ·have h2 : (wds y).length ≤ i:=by have:=of_decide_eq_false h2; omega
   have hty : wval ((wds y).take (i + 1)) = wval ((wds y).take i):=by rw [List.take_of_length_le tO,List.take_of_length_le h2]
   refine zKZ ((c + a) % 4294967296) tO <| sAt ⟨by omega,by omega⟩ <| zJV i (zA8 ((c + a) % 4294967296)) tO hrow hget rfl (by decide) rfl (fun cs h=>by cases h) <| zA9 (zQJ (c + a)) <| zY (r:=i + 1) rfl tO ?_; refine zw (SAd.mk (i + 1) ((c + a) / 4294967296) (ds ++ [(c + a) % 4294967296])) rfl ⟨hO.set (Nat.le_refl _) _,by simp [hlen],by simp only; omega,hsm.snoc tO,by simp only; omega, ?_, ?_⟩ (by simp only; omega)
   ·rw [hset]
    have : n + 1 - (i + 1) = n - i:=by omega
    simp only [this]
    exact zN hrow
   ·simp only [zB6,hlen,htx,hty,Nat.pow_succ]
    have e : (c + a) % 4294967296 + 4294967296 * ((c + a) / 4294967296) = c + a:=by omega
    have e2 : 4294967296 ^ i * ((c + a) % 4294967296) + 4294967296 ^ i * 4294967296 * ((c + a) / 4294967296) = 4294967296 ^ i * c + 4294967296 ^ i * a:=by
     rw [Nat.mul_assoc,← Nat.mul_add,e,Nat.mul_add]
    omega
 ·have h : i = n:=by have:=of_decide_eq_false h; omega
  subst h
  have hm : i + 1 - i = 0 + 1:=by omega
  rw [hm] at hrow
  have hget:=zKb ds 0
  have hset:=fun d=>zKa ds 0 d
  rw [hd] at hget hset
  rw [List.take_of_length_le tO,List.take_of_length_le tO,zBp,zBp,← hd,← zB6] at hval
  have hsm2 : Small (ds ++ [c]):=hsm.snoc tO
  have hr2 : (H1.set H.length (.row 1 ((ds ++ [c]).map zA8)))[H.length]? = some (.row 1 ((ds ++ [c]).map zA8)):=zN hrow
  have hset2 : ((ds ++ List.replicate (0 + 1) 0).map zA8).set i (zA8 c) = (ds ++ [c]).map zA8:=by rw [hset]; simp
  have ht:=hT H.length (i + 1) (ds ++ [c]) _ (by simp [hd]) hr2 hsm2 tO
  rw [hval] at ht
  rw [← hset2] at ht hr2
  refine zu i ha hal <| zKZ c tO <| sAt ⟨by omega,by omega⟩ <| zJV i (zA8 c) tO hrow hget rfl (by decide) rfl (fun cs h=>by cases h) <| zI ht ?_
  rw [hset2] at hr2
  exact zKM rfl rfl (zKY (Nat.le_refl _) (by rw [hset2]; exact hr2) hsm2 hval) rfl ((hO.set (Nat.le_refl _) _).set (Nat.le_refl _) _)
theorem zRC (x y : Nat) (H : Heap) (ha : Mag av x) (hb : Mag bv y) (h1 : (wds x).length ≤ 100000) (h2 : (wds y).length ≤ 100000) : EFun C GT zBI [av,bv] H (zDk (x + y)) H:=by
 refine zR ?_; refine zu (wds x).length ha (by simp) <| zu (wds y).length hb (by simp) ?_; refine zH (fun h=>?_) (fun h=>?_)
 ·have h : (wds x).length < (wds y).length:=by have:=of_decide_eq_true h; omega
  rw [Nat.add_comm x y]
  refine zQz rfl (zLM hT bv av y x _ H hb ha rfl tO h2) ?_
  rfl
 ·have h : (wds y).length ≤ (wds x).length:=by have:=of_decide_eq_false h; omega
  refine zQz rfl (zLM hT av bv x y _ H ha hb rfl h h1) ?_
  rfl
theorem zRD (x y n : Nat) (H : Heap) (ha : Mag av x) (hb : Mag bv y) (hyx : y ≤ x) (hn : (wds x).length = n) (hl : n ≤ 100000) : EFun C GT zCK [av,bv] H (zDk (x - y)) H:=by
 have hal : ((wds x).map zA8).length = n:=by rw [List.length_map,hn]
 have hle : (wds y).length ≤ n:=by rw [← hn]; exact zJo hyx
 refine zR ?_; refine zu n ha hal <| zQx (n:=n) rfl (Int.le_refl _) ⟨by omega,by omega⟩ rfl ?_; refine zAV (fun s : SAd=>[(7,zBf s.i),(5,.sl (some false) H.length 1 0 n),(1,bv),(6,zJz s.c),(0,av)])
  (fun s H'=>Old H H' ∧ s.ds.length = s.i ∧ s.i ≤ n ∧ Small s.ds ∧ s.c ≤ 1 ∧ H'[H.length]? = some (.row 1 ((s.ds ++ List.replicate (n - s.i) 0).map zA8)) ∧ wval s.ds + wval ((wds y).take s.i) = wval ((wds x).take s.i) + 4294967296 ^ s.i * s.c) (fun s=>n - s.i) ⟨0,0,[]⟩ rfl
  ⟨(Old.refl _).push _,rfl,Nat.zero_le _,(fun w hw=>by cases hw),Nat.zero_le _,by rw [List.nil_append,Nat.sub_zero,List.map_replicate]; exact zA,rfl⟩ (fun ⟨i,c,ds⟩ H1 ⟨hO,hd,hi,hsm,hc,hrow,hval⟩=>?_)
 simp only at hd hi hsm hc hrow hval
 dsimp only
 refine zu n ha hal ?_; refine zH (fun h=>?_) (fun h=>?_)
 ·have h : i < n:=by have:=of_decide_eq_true h; omega
  have hx : i < (wds x).length:=by omega
  have hax:=zFj hx
  have htx:=zBX hx
  have hsx:=zAM x _ (List.getElem_mem hx)
  obtain ⟨a,had⟩ : ∃ a,(wds x)[i] = a:=⟨_,rfl⟩
  rw [had] at hax htx hsx
  obtain ⟨m,hm⟩ : ∃ m,n - i = m + 1:=⟨n - i - 1,by omega⟩
  rw [hm] at hrow
  have hget:=zKb ds m
  have hset:=fun d=>zKa ds m d
  rw [hd] at hget hset
  have hlen : ds.length = i:=hd
  refine zAK i (zA8 a) ha rfl hax <| zh (zA8 a) rfl <| zC4 (r:=a) rfl tO <| zRA ((((a : Int) - c) % 18446744073709551616).toNat) tO <| zu (wds y).length hb (by simp) ?_
  have next : ∀ (e d c' : Nat),(e : Int) = (a : Int) - c' - c ∨ True → True:=fun _ _ _ _=>trivial
  refine zH (fun h2=>?_) (fun h2=>?_)
  ·have h2 : i < (wds y).length:=by have:=of_decide_eq_true h2; omega
   have hby:=zFj h2
   have hty:=zBX h2
   have hsy:=zAM y _ (List.getElem_mem h2)
   obtain ⟨d,hdd⟩ : ∃ d,(wds y)[i] = d:=⟨_,rfl⟩
   rw [hdd] at hby hty hsy
   obtain ⟨D,hD⟩ : ∃ D : Nat,(((a : Int) - c - d) % 18446744073709551616) = D:=⟨(((a : Int) - c - d) % 18446744073709551616).toNat,by omega⟩
   refine zAK i (zA8 d) hb rfl hby <| zh (zA8 d) rfl <| zC4 (r:=d) rfl tO <| zRA D tO <| zKZ (D % 4294967296) tO <| sAt ⟨by omega,by omega⟩ ?_; refine zJV i (zA8 (D % 4294967296)) tO hrow hget rfl (by decide) rfl (fun cs h=>by cases h) <| zA9 (zRB D) <| zY (r:=i + 1) rfl tO ?_; refine zw (SAd.mk (i + 1) (D / 9223372036854775808) (ds ++ [D % 4294967296])) rfl ⟨hO.set (Nat.le_refl _) _,by simp [hlen],by simp only; omega,hsm.snoc tO,by simp only; omega, ?_, ?_⟩ (by simp only; omega)
   ·rw [hset]
    have : n - (i + 1) = m:=by omega
    simp only [this]
    exact zN hrow
   ·simp only [zB6,hlen,htx,hty,Nat.pow_succ]
    have e : D % 4294967296 + c + d = a + 4294967296 * (D / 9223372036854775808):=by omega
    have e2 : 4294967296 ^ i * (D % 4294967296) + 4294967296 ^ i * c + 4294967296 ^ i * d = 4294967296 ^ i * a + 4294967296 ^ i * 4294967296 * (D / 9223372036854775808):=by
     rw [Nat.mul_assoc,← Nat.mul_add,← Nat.mul_add,e,Nat.mul_add]
    omega
  ·have h2 : (wds y).length ≤ i:=by have:=of_decide_eq_false h2; omega
   have hty : wval ((wds y).take (i + 1)) = wval ((wds y).take i):=by rw [List.take_of_length_le tO,List.take_of_length_le h2]
   obtain ⟨D,hD⟩ : ∃ D : Nat,(((a : Int) - c) % 18446744073709551616).toNat = D:=⟨_,rfl⟩
   rw [hD]
   refine zKZ (D % 4294967296) tO <| sAt ⟨by omega,by omega⟩ <| zJV i (zA8 (D % 4294967296)) tO hrow hget rfl (by decide) rfl (fun cs h=>by cases h) <| zA9 (zRB D) <| zY (r:=i + 1) rfl tO ?_; refine zw (SAd.mk (i + 1) (D / 9223372036854775808) (ds ++ [D % 4294967296])) rfl ⟨hO.set (Nat.le_refl _) _,by simp [hlen],by simp only; omega,hsm.snoc tO,by simp only; omega, ?_, ?_⟩ (by simp only; omega)
   ·rw [hset]
    have : n - (i + 1) = m:=by omega
    simp only [this]
    exact zN hrow
   ·simp only [zB6,hlen,htx,hty,Nat.pow_succ]
    have e : D % 4294967296 + c = a + 4294967296 * (D / 9223372036854775808):=by omega
    have e2 : 4294967296 ^ i * (D % 4294967296) + 4294967296 ^ i * c = 4294967296 ^ i * a + 4294967296 ^ i * 4294967296 * (D / 9223372036854775808):=by
     rw [Nat.mul_assoc,← Nat.mul_add,← Nat.mul_add,e]
    omega
 ·have h : i = n:=by have:=of_decide_eq_false h; omega
  subst h
  rw [Nat.sub_self,List.replicate_zero,List.append_nil] at hrow
  rw [List.take_of_length_le tO,List.take_of_length_le tO,zBp,zBp] at hval
  have hv : wval ds = x - y:=by
   have h1:=zIh hsm
   rw [hd] at h1
   have hc0 : c = 0:=by
    rcases Nat.eq_zero_or_pos c with h | h
    ·exact h
    ·have hc1 : c = 1:=by omega
     rw [hc1,Nat.mul_one] at hval
     omega
   rw [hc0] at hval
   omega
  have ht:=hT H.length i ds _ hd hrow hsm tO
  rw [hv] at ht
  refine zI ht ?_
  exact zKM rfl rfl (zKY (Nat.le_refl _) hrow hsm hv) rfl (hO.set (Nat.le_refl _) _)
end
def zMO (x y : Nat) : Int:=if x < y then -1 else if x = y then 0 else 1
theorem zNw {x y : Nat} (h : x < y) : zMO x y = -1:=if_pos h
theorem zQM (x : Nat) : zMO x x = 0:=by unfold zMO; rw [if_neg tO,if_pos rfl]
theorem zNx {x y : Nat} (h : y < x) : zMO x y = 1:=by unfold zMO; rw [if_neg tO,if_neg tO]
theorem zQN (av bv : AV) (x y : Nat) (H : Heap) (ha : Mag av x) (hb : Mag bv y) (h1 : (wds x).length ≤ 100000) (h2 : (wds y).length ≤ 100000) : EFun C GT zCJ [av,bv] H (zJ (zMO x y)) H:=by
 refine zR ?_; refine zu (wds x).length ha (by simp) <| zu (wds y).length hb (by simp) ?_; refine zH (fun h=>?_) (fun h=>?_)
 ·have h : (wds x).length ≠ (wds y).length:=by simp only [bne_iff_ne,ne_eq] at h; omega
  refine zu (wds x).length ha (by simp) <| zu (wds y).length hb (by simp) ?_; refine zH (fun h2=>?_) (fun h2=>?_)
  ·have h2 : (wds x).length < (wds y).length:=by have:=of_decide_eq_true h2; omega
   rw [zNw (zFM h2)]
   exact sRr
  ·have h2 : (wds y).length < (wds x).length:=by have:=of_decide_eq_false h2; omega
   rw [zNx (zFM h2)]
   exact sRr
 have h : (wds x).length = (wds y).length:=by simp only [bne_eq_false_iff_eq] at h; omega
 have key : ∀ (e : Int),zMO x y = e → True:=fun _ _=>trivial
 refine zu (wds x).length ha (by simp) <| sW64 ⟨by omega,by omega⟩ ?_; refine zAV (fun k : Nat=>[(5,zJ ((k : Int) - 1)),(1,bv),(0,av)]) (fun k H'=>H' = H ∧ k ≤ (wds x).length ∧ (wds x).drop k = (wds y).drop k) (fun k=>k) (wds x).length rfl
  ⟨rfl,Nat.le_refl _,by rw [List.drop_length,h,List.drop_length]⟩ (fun k H1 ⟨e,hk,hd⟩=>?_)
 subst e
 dsimp only
 refine zH (fun h3=>?_) (fun h3=>?_)
 ·have h3 : 1 ≤ k:=by have:=of_decide_eq_true h3; omega
  obtain ⟨i,rfl⟩ : ∃ i,k = i + 1:=⟨k - 1,by omega⟩
  have hx : i < (wds x).length:=by omega
  have hy : i < (wds y).length:=by omega
  have hax:=zFj hx
  have hby:=zFj hy
  have hsx:=zAM x _ (List.getElem_mem hx)
  have hsy:=zAM y _ (List.getElem_mem hy)
  have top1:=fun hlt=>zNk (zAM x) (zAM y) h hx hd hlt
  have top2:=fun hlt=>zNk (zAM y) (zAM x) h.symm hy hd.symm hlt
  rw [zBp,zBp] at top1 top2
  have hdx : (wds x).drop i = (wds x)[i] :: (wds x).drop (i + 1):=(List.getElem_cons_drop hx).symm
  have hdy : (wds y).drop i = (wds y)[i] :: (wds y).drop (i + 1):=(List.getElem_cons_drop hy).symm
  generalize (wds x)[i] = a at *
  generalize (wds y)[i] = d at *
  refine zAK i (zA8 a) ha tO hax <| zh (zA8 a) rfl <| zAK i (zA8 d) hb tO hby <| zh (zA8 d) rfl ?_; refine zH (fun h4=>?_) (fun h4=>?_)
  ·have h4 : a ≠ d:=by simp only [bne_iff_ne,ne_eq] at h4; omega
   refine zAK i (zA8 a) ha tO hax <| zh (zA8 a) rfl <| zAK i (zA8 d) hb tO hby <| zh (zA8 d) rfl ?_; refine zH (fun h5=>?_) (fun h5=>?_)
   ·have h5 : a < d:=by have:=of_decide_eq_true h5; omega
    rw [zNw (top1 h5)]
    exact sRr
   ·have h5 : d < a:=by have:=of_decide_eq_false h5; omega
    rw [zNx (top2 h5)]
    exact sRr
  ·have h4 : a = d:=by simp only [bne_eq_false_iff_eq] at h4; omega
   refine sW64 ⟨by omega,by omega⟩ ?_; refine zw i ?_ ⟨rfl,by omega,by rw [hdx,hdy,h4,hd]⟩ tO
   have : ((i + 1 : Nat) : Int) - 1 - 1 = (i : Int) - 1:=by omega
   simp only [← this]
   rfl
 ·have h3 : k = 0:=by have:=of_decide_eq_false h3; omega
  subst h3
  have e : x = y:=by
   rw [← zBp x,← zBp y]
   simp only [List.drop_zero] at hd
   rw [hd]
  rw [e,zQM]
  exact sRr
def zLN (xn : Bool) (x : Nat) (yn : Bool) (y : Nat) : Bool × Nat:=if xn = yn then (xn,x + y) else if y ≤ x then (xn,x - y) else (yn,y - x)
theorem zQO (hA : ∀ av bv x y H,Mag av x → Mag bv y → (wds x).length ≤ 100000 → (wds y).length ≤ 100000 → C zAa [av,bv] H (zDk (x + y)) H)
  (hS : ∀ av bv x y H,Mag av x → Mag bv y → y ≤ x → (wds x).length ≤ 100000 → C zAF [av,bv] H (zDk (x - y)) H)
  (hC : ∀ av bv x y H,Mag av x → Mag bv y → (wds x).length ≤ 100000 → (wds y).length ≤ 100000 → C zAb [av,bv] H (zJ (zMO x y)) H)
  (av bv : AV) (xn yn : Bool) (x y : Nat) (H : Heap) (ha : Mag av x) (hb : Mag bv y) (h1 : (wds x).length ≤ 100000) (h2 : (wds y).length ≤ 100000) :
  EFun C GT zCH [.bool xn,av,.bool yn,bv] H (.tup [.bool (zLN xn x yn y).1,zDk (zLN xn x yn y).2]) H:=by
 obtain ⟨r,hr⟩ : ∃ r,zLN xn x yn y = r:=⟨_,rfl⟩
 rw [hr]
 unfold zLN at hr
 have c1:=hA av bv x y H ha hb h1 h2
 have c2:=hC av bv x y H ha hb h1 h2
 refine zR ?_
 by_cases he : xn = yn
 ·rw [if_pos he] at hr
  subst hr
  subst he
  cases xn
  ·refine zM <| zI (c1) ?_
   exact sRr
  ·refine zM <| zI (c1) ?_
   exact sRr
 rw [if_neg he] at hr
 by_cases hle : y ≤ x
 ·rw [if_pos hle] at hr
  subst hr
  have c3:=hS av bv x y H ha hb hle h1
  have hg : decide (zMO x y ≥ 0) = true:=by unfold zMO; rw [if_neg tO]; split <;> rfl
  cases xn <;> cases yn <;> first | exact absurd rfl he | skip
  ·refine zK <| zI (c2) ?_; refine zH (fun _=>?_) (fun h=>absurd (hg.symm.trans h) (by simp))
   refine zI (c3) ?_
   exact sRr
  ·refine zK <| zI (c2) ?_; refine zH (fun _=>?_) (fun h=>absurd (hg.symm.trans h) (by simp))
   refine zI (c3) ?_
   exact sRr
 ·rw [if_neg hle] at hr
  subst hr
  have c3:=hS bv av y x H hb ha tO h2
  have hg : decide (zMO x y ≥ 0) = false:=by unfold zMO; rw [if_pos tO]; rfl
  cases xn <;> cases yn <;> first | exact absurd rfl he | skip
  ·refine zK <| zI (c2) ?_; refine zH (fun h=>absurd (hg.symm.trans h) (by simp)) (fun _=>?_)
   refine zI (c3) ?_
   exact sRr
  ·refine zK <| zI (c2) ?_; refine zH (fun h=>absurd (hg.symm.trans h) (by simp)) (fun _=>?_)
   refine zI (c3) ?_
   exact sRr
end
end Go.AM
set_option maxRecDepth 20000
namespace Go.AM
theorem zNy : ∀ (n q : Nat),q < (wds n).length → (wds n)[q]? = some (n / 4294967296 ^ q % 4294967296):=by
 intro n
 induction n using Nat.strongRecOn with
 | ind n ih=>
  intro q hq
  have hn : n ≠ 0:=fun e=>by subst e; simp [zBW] at hq
  rw [zBP hn] at hq ⊢
  cases q with
  | zero=>simp
  | succ q=>
   rw [List.getElem?_cons_succ,ih _ tO q (by simpa using hq),Nat.div_div_eq_div_mul,Nat.pow_succ,Nat.mul_comm 4294967296]
theorem zRE (q : Nat) : 4294967296 ^ q = 2 ^ (32 * q):=by rw [Nat.pow_mul]
theorem zKe (m i : Nat) : m / 4294967296 ^ (i / 32) % 4294967296 / 2 ^ (i % 32) % 2 = m / 2 ^ i % 2:=by
 have hr : i % 32 < 32:=Nat.mod_lt _ tO
 obtain ⟨k,hk⟩ : ∃ k,32 = i % 32 + (k + 1):=⟨31 - i % 32,by omega⟩
 have e1 : (4294967296 : Nat) = 2 ^ (i % 32) * 2 ^ (k + 1):=by rw [← Nat.pow_add,← hk]
 have e2 : m / 4294967296 ^ (i / 32) % 4294967296 / 2 ^ (i % 32) = m / 4294967296 ^ (i / 32) / 2 ^ (i % 32) % 2 ^ (k + 1):=by
  conv=>lhs; lhs; rhs; rw [e1]
  rw [Nat.mod_mul_right_div_self]
 rw [e2,Nat.mod_mod_of_dvd _ (by rw [Nat.pow_succ]; exact Nat.dvd_mul_left 2 _),zRE,Nat.div_div_eq_div_mul,← Nat.pow_add]
 have : 32 * (i / 32) + i % 32 = i:=Nat.div_add_mod i 32
 rw [this]
theorem zPE {m i : Nat} (h : (wds m).length ≤ i / 32) : m / 2 ^ i % 2 = 0:=by
 have h1:=zPd m
 have h2 : 4294967296 ^ (wds m).length ≤ 4294967296 ^ (i / 32):=Nat.pow_le_pow_right tO h
 rw [zRE (i / 32)] at h2
 have h3 : 2 ^ (32 * (i / 32)) ≤ 2 ^ i:=Nat.pow_le_pow_right tO tO
 rw [Nat.div_eq_of_lt tO]
theorem zH5 : ∀ k n : Nat,n / 2 ^ k ≠ 0 → bits n = bits (n / 2 ^ k) + k
 | 0,n,_=>by simp
 | k + 1,n,h=>by
  have hn : n ≠ 0:=fun e=>by subst e; simp at h
  have e : n / 2 ^ (k + 1) = n / 2 / 2 ^ k:=by rw [Nat.div_div_eq_div_mul,Nat.pow_succ,Nat.mul_comm]
  rw [e] at h ⊢
  rw [zGD hn,zH5 k (n / 2) h]
  omega
theorem zPF : ∀ (m k : Nat),(wds m).length = k + 1 → bits m = k * 32 + bits (m / 4294967296 ^ k % 4294967296):=by
 intro m
 induction m using Nat.strongRecOn with
 | ind m ih=>
  intro k hk
  have hm : m ≠ 0:=fun e=>by subst e; simp [zBW] at hk
  rw [zBP hm,List.length_cons] at hk
  by_cases h2 : m / 4294967296 = 0
  ·rw [h2,zBW] at hk
   have : k = 0:=by simpa using hk.symm
   subst this
   rw [Nat.pow_zero,Nat.div_one,Nat.mod_eq_of_lt tO]; omega
  ·have h3 : (wds (m / 4294967296)).length ≠ 0:=by rw [zBP h2]; simp
   obtain ⟨j,rfl⟩ : ∃ j,k = j + 1:=⟨k - 1,by omega⟩
   have h4:=ih (m / 4294967296) tO j tO
   have h5:=zH5 32 m (by simpa using h2)
   have e : (2 : Nat) ^ 32 = 4294967296:=by decide
   rw [e] at h5
   rw [h5,h4,Nat.div_div_eq_div_mul,Nat.pow_succ,Nat.mul_comm 4294967296]
   omega
theorem zNz : ∀ m : Nat,m ≠ 0 → ∃ n,m % 2 ^ n = 0 ∧ m / 2 ^ n % 2 = 1:=by
 intro m
 induction m using Nat.strongRecOn with
 | ind m ih=>
  intro h
  by_cases ho : m % 2 = 1
  ·exact ⟨0,by simp [Nat.mod_one],by simpa using ho⟩
  ·obtain ⟨n,h1,h2⟩:=ih (m / 2) tO tO
   refine ⟨n + 1, ?_, ?_⟩
   ·rw [Nat.pow_succ,Nat.mul_comm,Nat.mod_mul,h1]; omega
   ·rw [Nat.pow_succ,Nat.mul_comm,← Nat.div_div_eq_div_mul]; exact h2
theorem zPf {m n k : Nat} (h : m % 2 ^ n = 0) (hk : k < n) : m / 2 ^ k % 2 = 0:=by
 obtain ⟨c,rfl⟩:=Nat.dvd_of_mod_eq_zero h
 obtain ⟨j,rfl⟩ : ∃ j,n = k + (j + 1):=⟨n - k - 1,by omega⟩
 rw [Nat.pow_add,Nat.mul_assoc,Nat.mul_div_cancel_left _ (Nat.two_pow_pos k),Nat.pow_succ,Nat.mul_comm (2 ^ j) 2,Nat.mul_assoc,Nat.mul_mod_right]
theorem tz_63 {m : Nat} (h : m < 18446744073709551616) (h1 : m % 2 ^ 63 = 0) (h2 : m / 2 ^ 63 % 2 = 1) : m = 9223372036854775808:=by
 have e : (2 : Nat) ^ 63 = 9223372036854775808:=by decide
 rw [e] at h1 h2
 omega
theorem zQP (a b : Int) : (zLN (decide (a < 0)) a.natAbs (decide (b < 0)) b.natAbs).2 = (a + b).natAbs ∧ ((zLN (decide (a < 0)) a.natAbs (decide (b < 0)) b.natAbs).1 && decide (0 < (zLN (decide (a < 0)) a.natAbs (decide (b < 0)) b.natAbs).2)) = decide (a + b < 0):=by
 unfold zLN
 by_cases ha : a < 0 <;> by_cases hb : b < 0 <;> simp only [ha,hb,decide_true,decide_false,if_true,if_false,reduceCtorEq,Bool.true_eq_false,Bool.false_eq_true]
 ·exact ⟨by omega,by rw [Bool.true_and,Bool.eq_iff_iff,decide_eq_true_iff,decide_eq_true_iff]; omega⟩
 ·split
  ·exact ⟨by simp only; omega,by simp only [Bool.true_and]; rw [Bool.eq_iff_iff,decide_eq_true_iff,decide_eq_true_iff]; omega⟩
  ·exact ⟨by simp only; omega,by simp only [Bool.false_and]; exact (tF).symm⟩
 ·split
  ·exact ⟨by simp only; omega,by simp only [Bool.false_and]; exact (tF).symm⟩
  ·exact ⟨by simp only; omega,by simp only [Bool.true_and]; rw [Bool.eq_iff_iff,decide_eq_true_iff,decide_eq_true_iff]; omega⟩
 ·exact ⟨by omega,by rw [Bool.false_and]; exact (tF).symm⟩
theorem shrN (w r : Nat) (h : r ≤ 32) : zAj .shr .u32 (w : Int) (r : Int) = some (.int .u32 ((w / 2 ^ r : Nat) : Int)):=by
 simp only [zAj]
 rw [if_neg tO]
 have e : Nat.min (r : Int).toNat IntKind.u32.bits = r:=by
  rw [Int.toNat_natCast]; exact Nat.min_eq_left h
 have e2 : ((2 : Int) ^ r) = ((2 ^ r : Nat) : Int):=by simp
 rw [e,e2,Int.fdiv_eq_ediv_of_nonneg _ (Int.natCast_nonneg _)]
 rfl
theorem shr1w (w : Nat) : zAj .shr .u32 (w : Int) 1 = some (.int .u32 ((w / 2 : Nat) : Int)):=by
 have:=shrN w 1 tO; simpa using this
theorem and1 (a : Nat) (h : a < 18446744073709551616) : zDq .and .u64 (a : Int) 1 = some (.int .u64 ((a % 2 : Nat) : Int)):=by
 simp only [zDq]
 have e : (BitVec.ofInt IntKind.u64.bits (a : Int) &&& BitVec.ofInt IntKind.u64.bits 1).toNat = a % 2:=by
  rw [BitVec.toNat_and]
  have h1 : (BitVec.ofInt IntKind.u64.bits (a : Int)).toNat = a:=by
   show (BitVec.ofInt 64 (a : Int)).toNat = a
   rw [BitVec.toNat_ofInt]
   have : ((a : Int) % ((2 ^ 64 : Nat) : Int)) = (a : Int):=by rw [Int.emod_eq_of_lt tO (by simp; omega)]
   rw [this,Int.toNat_natCast]
  have h2 : (BitVec.ofInt IntKind.u64.bits 1).toNat = 1:=by decide
  rw [h1,h2,Nat.and_one_is_mod]
 rw [e,IntKind.wrap_u64]
 have : ((a % 2 : Nat) : Int) % 18446744073709551616 = ((a % 2 : Nat) : Int):=by omega
 rw [this]
section
variable {C : CSpec} {GT : Nat → Option AV}
theorem zRF (av : AV) (m i : Nat) (H : Heap) (ha : Mag av m) (hl : (wds m).length ≤ 100000) (hi : i ≤ 1000000) : EFun C GT zCL [av,zJ i] H (zJz (m / 2 ^ i % 2)) H:=by
 obtain ⟨r,hr⟩ : ∃ r,m / 2 ^ i % 2 = r:=⟨_,rfl⟩
 have hd : (i : Int).tdiv 32 = ((i / 32 : Nat) : Int):=(Int.ofNat_tdiv i 32).symm
 rw [hr]
 refine zR <| sX ?_; refine zKF (by decide) <| zY (r:=i / 32) hd tO <| zu (wds m).length ha (by simp) <| sX ?_; refine zH (fun h=>?_) (fun h=>?_)
 ·have h : (wds m).length ≤ i / 32:=by have:=of_decide_eq_true h; omega
  rw [zPE h] at hr
  subst hr
  exact sRv
 ·have h : i / 32 < (wds m).length:=by have:=of_decide_eq_false h; omega
  have hg:=zFj h
  have hw:=zAM m _ (List.getElem_mem h)
  have he:=zNy m (i / 32) h
  rw [List.getElem?_eq_getElem h] at he
  have he:=Option.some.inj he
  have hb:=zKe m i
  rw [← he,hr] at hb
  generalize (wds m)[i / 32] = w at *
  have hw2 : w / 2 ^ (i % 32) ≤ w:=Nat.div_le_self _ _
  have hm : (i : Int).tmod 32 = ((i % 32 : Nat) : Int):=(Int.ofNat_tmod i 32).symm
  subst hb
  refine zKF (by decide) <| zY (r:=i / 32) hd tO <| zAK (i / 32) (zA8 w) ha rfl hg <| sX ?_; refine zC4 (r:=i) rfl tO <| zKF (by decide) <| zM4 (r:=((i % 32 : Nat) : Int)) hm <| zA9 (shrN w (i % 32) tO) <| zC4 (r:=w / 2 ^ (i % 32)) rfl tO <| zA9 (and1 (w / 2 ^ (i % 32)) tO) ?_
  exact sRv
theorem zRG (hB : ∀ (av : AV) (m i : Nat) (H : Heap),Mag av m → (wds m).length ≤ 100000 → i ≤ 1000000 → C zAc [av,zJ i] H (zJz (m / 2 ^ i % 2)) H) (b m n : Nat) (x av : AV) (H : Heap) (hb : H[b]? = some (.box [x,av])) (ha : Mag av m) (h0 : m ≠ 0) (hl : (wds m).length ≤ 100) (hn : n ≤ 10000) (h1 : m % 2 ^ n = 0) (h2 : m / 2 ^ n % 2 = 1) :
  EFun C GT z1 [.ref b 0 0 0] H (zJz n) H:=by
 have hlz : (wds m).length ≠ 0:=by rw [zBP h0]; simp
 refine zR <| sX ?_; refine zu (wds m).length ha (by simp) ?_; refine zH (fun h=>absurd (eq_of_beq h) tO) (fun _=>?_)
 refine zAV (fun k : Nat=>[(3,zJz k),(0,.ref b 0 0 0)]) (fun k H'=>H' = H ∧ k ≤ n) (fun k=>n - k) 0 rfl ⟨rfl,Nat.zero_le _⟩ (fun k H1 ⟨e,hk⟩=>?_)
 subst e
 dsimp only
 have hbk:=hB av m k H1 ha tO tO
 by_cases hkn : k = n
 ·subst hkn
  rw [h2] at hbk
  refine sX ?_; refine zY (r:=k) rfl tO <| sX ?_
  exact sRv
 ·rw [zPf h1 (by omega : k < n)] at hbk
  refine sX ?_; refine zY (r:=k) rfl tO <| sX ?_; refine zC4 (r:=k + 1) rfl tO ?_
  exact zw (k + 1) rfl ⟨rfl,by omega⟩ tO
structure SLe where
 t : Nat
 n : Nat
theorem zN0 (av : AV) (m : Nat) (H : Heap) (ha : Mag av m) (hl : (wds m).length ≤ 1000) : EFun C GT zBb [av] H (zBf (bits m)) H:=by
 obtain ⟨r,hr⟩ : ∃ r,bits m = r:=⟨_,rfl⟩
 rw [hr]
 refine zR <| zu (wds m).length ha (by simp) ?_; refine zH (fun h=>?_) (fun h=>?_)
 ·have h : (wds m).length = 0:=by have:=eq_of_beq h; omega
  have h0 : m = 0:=by
   by_cases e : m = 0
   ·exact e
   ·rw [zBP e] at h; simp at h
  subst h0
  subst hr
  exact sRv
 ·have h : (wds m).length ≠ 0:=fun e=>by rw [e] at h; exact absurd h (by simp)
  obtain ⟨k,hk⟩ : ∃ k,(wds m).length = k + 1:=⟨(wds m).length - 1,by omega⟩
  have hlt : k < (wds m).length:=by omega
  have hg:=zFj hlt
  have he:=zNy m k hlt
  rw [List.getElem?_eq_getElem hlt] at he
  have he:=Option.some.inj he
  have ht:=zPF m k hk
  rw [← he,hr] at ht
  have hw:=zAM m _ (List.getElem_mem hlt)
  generalize (wds m)[k] = w at *
  have hbw : bits w ≤ 32:=(zKT 32 w).2 hw
  refine zu (k + 1) ha (by simp [hk]) <| zY (r:=k) tO tO <| sX ?_; refine zAV (fun s : SLe=>[(4,zA8 s.t),(3,zBf s.n),(0,av)]) (fun s H'=>H' = H ∧ s.n + bits s.t = bits w) (fun s=>s.t) ⟨w,0⟩ rfl ⟨rfl,by simp⟩ (fun ⟨t,n⟩ H1 ⟨e,hn⟩=>?_)
  subst e
  simp only at hn
  dsimp only
  refine zH (fun hc=>?_) (fun hc=>?_)
  ·have hc : t ≠ 0:=fun e=>by rw [e] at hc; exact absurd hc (by simp)
   rw [zGD hc] at hn
   refine zY (r:=n + 1) rfl tO <| zA9 (shr1w t) ?_
   exact zw (SLe.mk (t / 2) (n + 1)) rfl ⟨rfl,by simp only; omega⟩ (by simp only; omega)
  ·have hc : t = 0:=by simp only [bne_eq_false_iff_eq] at hc; omega
   subst hc
   have hz : bits 0 = 0:=rfl
   rw [hz] at hn
   have hn' : n = bits w:=by omega
   subst hn'
   subst ht
   refine zu (k + 1) ha (by simp [hk]) <| zY (r:=k) tO tO <| zY (r:=k * 32) tO tO <| zY (r:=k * 32 + bits w) tO tO ?_
   exact sRv
theorem zN1 (b m : Nat) (x av : AV) (H : Heap) (hb : H[b]? = some (.box [x,av])) (ha : Mag av m) (hm : m < 18446744073709551616) : EFun C GT zAt [.ref b 0 0 0] H (zJz m) H:=by
 refine zR ?_
 by_cases h0 : m = 0
 ·subst h0
  refine sW ?_; refine zu 0 ha rfl <| sW ?_; refine zu 0 ha rfl <| sW ?_
  exact sRr
 have hw : wds m = (m % 4294967296) :: wds (m / 4294967296):=zBP h0
 by_cases h1 : m / 4294967296 = 0
 ·rw [h1,zBW] at hw
  have hm' : m % 4294967296 = m:=by omega
  rw [hm'] at hw
  have ha' : zAv av 1 [zA8 m]:=by unfold Mag at ha; rw [hw] at ha; exact ha
  refine sX ?_; refine zu 1 ha' rfl <| sX ?_; refine zAK 0 (zA8 m) ha' rfl rfl <| sX ?_; refine zC4 (r:=m) rfl tO <| sX ?_; refine zu 1 ha' rfl <| sX ?_
  exact sRv
 ·have hw2 : wds (m / 4294967296) = [m / 4294967296]:=by
   rw [zBP h1]
   have e1 : m / 4294967296 / 4294967296 = 0:=by omega
   have e2 : m / 4294967296 % 4294967296 = m / 4294967296:=by omega
   rw [e1,e2,zBW]
  rw [hw2] at hw
  have ha' : zAv av 1 [zA8 (m % 4294967296),zA8 (m / 4294967296)]:=by unfold Mag at ha; rw [hw] at ha; exact ha
  have e : m % 4294967296 + 4294967296 * (m / 4294967296) = m:=by omega
  have hor:=or32 (m % 4294967296) (m / 4294967296) tO tO
  rw [e] at hor
  refine sX ?_; refine zu 2 ha' rfl <| sX ?_; refine zAK 0 (zA8 (m % 4294967296)) ha' rfl rfl <| sX ?_; refine zC4 (r:=m % 4294967296) rfl tO <| sX ?_; refine zu 2 ha' rfl <| sX ?_; refine zAK 1 (zA8 (m / 4294967296)) ha' rfl rfl <| sX ?_; refine zC4 (r:=m / 4294967296) rfl tO <| zA9 (shl32 (m / 4294967296) tO) <| zA9 hor ?_
  exact sRr
theorem zPG (hU : ∀ b m x av H,H[b]? = some (.box [x,av]) → Mag av m → m < 18446744073709551616 → C zj [.ref b 0 0 0] H (zJz m) H) (b : Nat) (v : Int) (H : Heap) (hb : H[b]? = some (.box (zE3 v))) (hv : zAU v) :
  EFun C GT zAy [.ref b 0 0 0] H (zJ v) H:=by
 unfold zAU at hv
 have hu:=hU b v.natAbs _ _ H hb (zFN _) tO
 unfold zE3 at hb
 refine zR ?_
 by_cases hn : v < 0
 ·rw [decide_eq_true hn] at hb
  have e : aUn .neg (.int .i64 (if v = -9223372036854775808 then v else -v)) = some (zJ v):=by
   simp only [aUn]
   rw [IntKind.wrap_i64]
   by_cases h : v = -9223372036854775808
   ·subst h; rfl
   ·rw [if_neg h]
    have : (0 - -v + 9223372036854775808) % 18446744073709551616 - 9223372036854775808 = v:=by omega
    rw [this]; rfl
  refine sX ?_; refine zM4 (r:=if v = -9223372036854775808 then v else -v) (by rw [IntKind.wrap_i64]; split <;> omega) <| zD (AV.bool true) hb rfl <| zM <| zA9 e ?_
  exact sRr
 ·rw [decide_eq_false hn] at hb
  refine sX ?_; refine zM4 (r:=v) (by rw [IntKind.wrap_i64]; omega) <| sX ?_
  exact sRv
theorem zMP (hL : ∀ av m H,Mag av m → (wds m).length ≤ 1000 → C zAG [av] H (zBf (bits m)) H)
  (hT : ∀ b m n x av H,H[b]? = some (.box [x,av]) → Mag av m → m ≠ 0 → (wds m).length ≤ 100 → n ≤ 10000 → m % 2 ^ n = 0 → m / 2 ^ n % 2 = 1 → C zQ [.ref b 0 0 0] H (zJz n) H)
  (b : Nat) (v : Int) (H : Heap) (hb : H[b]? = some (.box (zE3 v))) (hv : (wds v.natAbs).length ≤ 100) : EFun C GT zAh [.ref b 0 0 0] H (.bool (decide (zAU v))) H:=by
 obtain ⟨r,hr⟩ : ∃ r,decide (zAU v) = r:=⟨_,rfl⟩
 rw [hr]
 have hl:=hL (zDk v.natAbs) v.natAbs H (zFN _) tO
 have b63:=zKT 63 v.natAbs
 have b64:=zKT 64 v.natAbs
 have e63 : (2 : Nat) ^ 63 = 9223372036854775808:=by decide
 have e64 : (2 : Nat) ^ 64 = 18446744073709551616:=by decide
 rw [e63] at b63
 rw [e64] at b64
 have hb2 : H[b]? = some (.box [.bool (decide (v < 0)),zDk v.natAbs]):=hb
 clear hb
 refine zR <| sX ?_
 generalize bits v.natAbs = L at *
 refine zH (fun h=>?_) (fun h=>?_)
 ·have h : L ≤ 63:=by have:=of_decide_eq_true h; omega
  have : zAU v:=by unfold zAU; have:=b63.1 h; omega
  rw [decide_eq_true this] at hr
  subst hr
  refine sX ?_
  exact sRv
 ·have h : ¬ L ≤ 63:=by have:=of_decide_eq_false h; omega
  have hbig : ¬ v.natAbs < 9223372036854775808:=fun h'=>h (b63.2 h')
  refine zH (fun h64=>?_) (fun h64=>?_)
  ·have h64 : L ≤ 64:=by have:=eq_of_beq h64; omega
   have hlt:=b64.1 h64
   by_cases hn : v < 0
   ·rw [decide_eq_true hn] at hb2
    obtain ⟨n,t1,t2⟩:=zNz v.natAbs tO
    have hn64 : n < 64:=by
     rcases Nat.lt_or_ge n 64 with h | h
     ·exact h
     ·have h1 : 2 ^ 64 ≤ 2 ^ n:=Nat.pow_le_pow_right tO h
      rw [e64] at h1
      rw [Nat.mod_eq_of_lt tO] at t1
      omega
    have ht:=hT b v.natAbs n _ _ H hb2 (zFN _) tO hv tO t1 t2
    by_cases h63 : n = 63
    ·subst h63
     have:=tz_63 hlt t1 t2
     have hin : zAU v:=by unfold zAU; omega
     rw [decide_eq_true hin] at hr
     subst hr
     refine sX ?_
     exact sRv
    ·have hin : ¬ zAU v:=fun hin=>by
      unfold zAU at hin
      have e : v.natAbs = 2 ^ 63:=by rw [e63]; omega
      rw [e] at t1 t2
      rcases Nat.lt_or_gt_of_ne h63 with h | h
      ·have:=zPf (m:=2 ^ 63) (n:=63) (k:=n) (Nat.mod_self _) h
       omega
      ·have h1 : (2 : Nat) ^ 63 < 2 ^ n:=Nat.pow_lt_pow_right tO h
       rw [Nat.mod_eq_of_lt h1] at t1
       omega
     have hne : ((n : Int) == 63) = false:=by rw [beq_eq_false_iff_ne]; omega
     rw [decide_eq_false hin] at hr
     subst hr
     refine sX ?_
     exact zPy (congrArg AV.bool hne.symm) rfl rfl rfl rfl hO
   ·rw [decide_eq_false hn] at hb2
    have hin : ¬ zAU v:=fun hin=>by unfold zAU at hin; omega
    rw [decide_eq_false hin] at hr
    subst hr
    refine sX ?_
    exact sRv
  ·have h64 : ¬ L ≤ 64:=fun h'=>by
    have : L = 64:=by omega
    rw [this] at h64
    exact absurd h64 (by simp)
   have hgt : ¬ v.natAbs < 18446744073709551616:=fun h'=>h64 (b64.2 h')
   have hin : ¬ zAU v:=fun hin=>by unfold zAU at hin; omega
   rw [decide_eq_false hin] at hr
   subst hr
   refine sX ?_
   exact sRv
theorem zN2 (hS : ∀ av bv xn yn x y H,Mag av x → Mag bv y → (wds x).length ≤ 100000 → (wds y).length ≤ 100000 → C zAZ [.bool xn,av,.bool yn,bv] H (.tup [.bool (zLN xn x yn y).1,zDk (zLN xn x yn y).2]) H)
  (hG : ∀ b n neg x0 x1 H,H[b]? = some (.box [x0,x1]) → C zV [.ref b 0 0 0,.bool neg,zDk n] H (.ref b 0 0 0) (H.set b (.box [.bool (neg && decide (0 < n)),zDk n])))
  (z x y : Nat) (a b : Int) (x0 x1 : AV) (H : Heap) (hz : H[z]? = some (.box [x0,x1])) (hx : H[x]? = some (.box (zE3 a))) (hy : H[y]? = some (.box (zE3 b))) (ha : (wds a.natAbs).length ≤ 1000) (hb : (wds b.natAbs).length ≤ 1000) :
  EFun C GT zBH [.ref z 0 0 0,.ref x 0 0 0,.ref y 0 0 0] H (.ref z 0 0 0) (H.set z (.box (zE3 (a + b)))):=by
 have hzl : z < H.length:=(zg hz).1
 have hs:=hS (zDk a.natAbs) (zDk b.natAbs) (decide (a < 0)) (decide (b < 0)) _ _ H (zFN _) (zFN _) tO tO
 have hg:=hG z (zLN (decide (a < 0)) a.natAbs (decide (b < 0)) b.natAbs).2 (zLN (decide (a < 0)) a.natAbs (decide (b < 0)) b.natAbs).1 x0 x1 H hz
 obtain ⟨s1,s2⟩:=zQP a b
 rw [s2] at hg
 rw [s1] at hg hs
 unfold zE3 at hx hy
 refine zR <| sX ?_
 exact zNt rfl rfl rfl rfl (decide_eq_true hzl) rfl
theorem zQQ (hI : ∀ b v H,H[b]? = some (.box (zE3 v)) → (wds v.natAbs).length ≤ 100 → C ze [.ref b 0 0 0] H (.bool (decide (zAU v))) H) (b : Nat) (v : Int) (H : Heap) (hb : H[b]? = some (.box (zE3 v))) (hv : (wds v.natAbs).length ≤ 100) :
  EFun C GT zD1 [.ref b 0 0 0] H (.bool (decide (zAU v))) H:=by
 have h:=hI b v H hb hv
 refine zR <| sX ?_
 exact sRv
end
end Go.AM
set_option maxRecDepth 20000
namespace Go.AM
section
variable {C : CSpec} {GT : Nat → Option AV}
theorem zHO (hNew : ∀ v H,zAU v → C zo [zJ v] H (.ref H.length 0 0 0) (H ++ [.box (zE3 v)]))
  (hAdd : ∀ z x y a b x0 x1 H,H[z]? = some (.box [x0,x1]) → H[x]? = some (.box (zE3 a)) → H[y]? = some (.box (zE3 b)) → (wds a.natAbs).length ≤ 1000 → (wds b.natAbs).length ≤ 1000 → C zy [.ref z 0 0 0,.ref x 0 0 0,.ref y 0 0 0] H (.ref z 0 0 0) (H.set z (.box (zE3 (a + b)))))
  (hF : ∀ b v H,H[b]? = some (.box (zE3 v)) → (wds v.natAbs).length ≤ 100 → C zBU [.ref b 0 0 0] H (.bool (decide (zAU v))) H)
  (hI : ∀ b v H,H[b]? = some (.box (zE3 v)) → zAU v → C zm [.ref b 0 0 0] H (zJ v) H)
  (hB : ∀ n H,C zAD [zJ n] H (zB ⟨4,n,[]⟩) H) (hN : ∀ n H,C zx [zJ n] H (zB ⟨1,n,[]⟩) H)
  (a b : Int) (H : Heap) (ha : zAU a) (hb : zAU b) : EFun C GT zC9 [zJ 8,zJ a,zJ b] H (zB (zCR a b)) H:=by
 rw [zMA ha hb]
 have e2 : (4294967296 : Nat) ^ 2 = 18446744073709551616:=by decide
 have e3 : (4294967296 : Nat) ^ 3 = 79228162514264337593543950336:=by decide
 have la : (wds a.natAbs).length ≤ 2:=zKd (by rw [e2]; unfold zAU at ha; omega)
 have lb : (wds b.natAbs).length ≤ 2:=zKd (by rw [e2]; unfold zAU at hb; omega)
 have ls : (wds (a + b).natAbs).length ≤ 3:=zKd (by rw [e3]; unfold zAU at ha hb; omega)
 refine zR ?_; refine zIM (hNew a _ ha) (fun h=>by cases h) ?_; refine zIM (hNew b _ hb) (fun h=>by cases h) ?_; refine zM ?_; refine zIM (hAdd _ _ _ a b _ _ _ zA (zF (zF zA)) (zF zA) tO tO) (fun h=>by cases h) ?_; refine zI (hF _ (a + b) _ (zN zA) tO) ?_
 by_cases hin : zAU (a + b)
 ·rw [if_pos hin,decide_eq_true hin]
  refine zK ?_; refine zI (hI _ (a + b) _ (zN zA) hin) ?_; refine zI (hN _ _) ?_; refine zS (v:=zB { kind:=1,num:=a + b,text:=[] }) (AV.cells (zB { kind:=1,num:=a + b,text:=[] })) (zG (by first | assumption | simp | omega) (zF (zF (zF zA)))) rfl rfl rfl rfl ?_
  exact zZ (o:=0) rfl rfl (zn (zN (zG (by first | assumption | simp | omega) (zF (zF (zF zA)))))) rfl rfl rfl (((((((Old.refl _).push _).push _).push _).push _).set (by first | assumption | exact Nat.le_refl _ | simp | omega) _).set (by first | assumption | exact Nat.le_refl _ | simp | omega) _)
 ·rw [if_neg hin,decide_eq_false hin]
  refine zM ?_; refine zI (hB _ _) ?_; refine zS (v:=zB { kind:=4,num:=5,text:=[] }) (AV.cells (zB { kind:=4,num:=5,text:=[] })) (zG (by first | assumption | simp | omega) (zF (zF (zF zA)))) rfl rfl rfl rfl ?_
  exact zZ (o:=0) rfl rfl (zn (zN (zG (by first | assumption | simp | omega) (zF (zF (zF zA)))))) rfl rfl rfl (((((((Old.refl _).push _).push _).push _).push _).set (by first | assumption | exact Nat.le_refl _ | simp | omega) _).set (by first | assumption | exact Nat.le_refl _ | simp | omega) _)
end
end Go.AM
set_option maxRecDepth 20000
namespace Go.AM
section
variable {C : CSpec} {GT : Nat → Option AV}
theorem zN3 (va vb : AV) (xs ys : List Val) (H : Heap) (ha : zAv va 3 (xs.map zB)) (hb : zAv vb 3 (ys.map zB)) (hl : xs.length ≤ 9223372036854775807) : EFun C GT zC6 [va,vb] H (.bool (decide (xs = ys))) H:=by
 refine zR ?_; refine zu xs.length ha (by simp) ?_; refine zu ys.length hb (by simp) ?_; refine zH (fun h=>?_) (fun h=>?_)
 ·have e : ¬ xs = ys:=by intro e; subst e; simp at h
  rw [decide_eq_false e]
  exact sRr
 have hlen : xs.length = ys.length:=by simp only [bne_eq_false_iff_eq] at h; omega
 refine zAV (σ:=Nat) (fun i=>[(5,.int .i64 i),(1,vb),(0,va)]) (fun i H1=>H1 = H ∧ i ≤ xs.length ∧ ∀ k,k < i → xs[k]? = ys[k]?) (fun i=>xs.length - i) 0 rfl ⟨rfl,Nat.zero_le _,fun k h=>absurd h (Nat.not_lt_zero _)⟩ (fun i H1 ⟨e,hi,hok⟩=>?_)
 subst e
 dsimp only
 refine zu xs.length ha (by simp) ?_; refine zH (fun hlt=>?_) (fun hlt=>?_)
 ·simp only [decide_eq_true_eq,Int.ofNat_lt] at hlt
  have hx : xs[i]? = some xs[i]:=List.getElem?_eq_getElem hlt
  have hlt' : i < ys.length:=by omega
  have hy : ys[i]? = some ys[i]:=List.getElem?_eq_getElem hlt'
  generalize xs[i] = x at *
  generalize ys[i] = y at *
  have hxm : (xs.map zB)[i]? = some (zB x):=by rw [List.getElem?_map,hx]; rfl
  have hym : (ys.map zB)[i]? = some (zB y):=by rw [List.getElem?_map,hy]; rfl
  refine zAK i (zB x) ha rfl hxm ?_; refine zh (zB x) rfl ?_; refine zAK i (zB y) hb rfl hym ?_; refine zh (zB y) rfl ?_; refine zA9 (zB4 x y) ?_
  by_cases hne : x = y
  ·rw [decide_eq_true hne]
   refine zK ?_; refine zY (r:=i + 1) rfl tO ?_; refine zw (i + 1) rfl ⟨rfl,by omega,fun k hk=>?_⟩ tO
   by_cases e : k = i
   ·subst e; rw [hx,hy,hne]
   ·exact hok k tO
  ·rw [decide_eq_false hne]
   have e : ¬ xs = ys:=by
    intro e
    subst e
    rw [hx] at hy
    exact hne (Option.some.inj hy)
   rw [decide_eq_false e]
   refine zM ?_
   exact sRr
 ·simp only [decide_eq_false_iff_not,Int.ofNat_lt] at hlt
  have e : xs = ys:=by
   apply List.ext_getElem?
   intro k
   by_cases hk : k < xs.length
   ·exact hok k tO
   ·rw [List.getElem?_eq_none tO,List.getElem?_eq_none tO]
  rw [decide_eq_true e]
  exact sRr
end
end Go.AM
namespace Go.AM
theorem zN4 {ag : Bool} {es : List Sh} {x : AV} (h : Fits (.sl ag es) x) : ∃ q xs,x = .lst (some q) es.length xs ∧ (q = true → xs = []) ∧ xs.length ≤ maxLen ∧ (∀ y ∈ xs,y.cells.length = es.length ∧ formed ag y) ∧
  ∀ y ∈ xs,∀ (i : Nat) (s : Sh) (c : AV),es[i]? = some s → y.cells[i]? = some c → Fits s c:=by
 cases h with
 | sl ag es q xs hl hq h1 h2=>exact ⟨q,xs,rfl,hq,hl,h1,h2⟩
theorem zIp {k : IntKind} {x : AV} (h : Fits (.int k) x) : ∃ n,x = .int k n ∧ (Lit.int k n).wf = true:=by cases h with | int k n h=>exact ⟨n,rfl,h⟩
theorem zPH {x : AV} (h : Fits .str x) : ∃ s,x = .str s ∧ s.length ≤ maxLen:=by cases h with | str s h=>exact ⟨s,rfl,h⟩
theorem zPI {s : Sh} {x : AV} (h : Fits (.sl false [s]) x) : ∃ q xs,x = .lst (some q) 1 xs ∧ xs.length ≤ maxLen ∧ ∀ y ∈ xs,Fits s y:=by
 obtain ⟨q,xs,rfl,_,hl,h1,h2⟩:=zN4 h
 refine ⟨q,xs,rfl,hl,fun y hy=>?_⟩
 have hc : y.cells = [y]:=(h1 y hy).2
 exact h2 y hy 0 s y rfl (by rw [hc]; rfl)
def zQR : List Sh:=[.int .i64,.int .i64,.str]
theorem zPg {n : Int} (h : (Lit.int .i64 n).wf = true) : -9223372036854775808 ≤ n ∧ n ≤ 9223372036854775807:=by
 have h : IntKind.i64.min ≤ n ∧ n ≤ 9223372036854775807:=by simpa [Lit.wf] using h
 have e : IntKind.i64.min = -9223372036854775808:=rfl
 omega
def TabN (t : List Row) : Prop:=∀ r ∈ t,∀ v ∈ r,-9223372036854775808 ≤ v.num ∧ v.num ≤ 9223372036854775807
theorem zN5 {α : Type} {f : α → AV} {p : α → Prop} : ∀ {ys : List AV},(∀ y ∈ ys,∃ v,y = f v ∧ p v) → ∃ vs : List α,ys = vs.map f ∧ ∀ v ∈ vs,p v
 | [],_=>⟨[],rfl,fun v h=>by simp at h⟩
 | y :: ys,h=>by
  obtain ⟨v,rfl,hv⟩:=h y (by simp)
  obtain ⟨vs,rfl,hvs⟩:=zN5 (ys:=ys) fun z hz=>h z (List.mem_cons_of_mem _ hz)
  exact ⟨v :: vs,rfl,fun x hx=>by rcases List.mem_cons.1 hx with rfl | hx; exact hv; exact hvs x hx⟩
theorem zN6 {y : AV} (hl : y.cells.length = 3 ∧ formed true y) (h : ∀ (i : Nat) (s : Sh) (c : AV),zQR[i]? = some s → y.cells[i]? = some c → Fits s c) : ∃ v,y = zB v ∧ (-9223372036854775808 ≤ v.num ∧ v.num ≤ 9223372036854775807):=by
 obtain ⟨hl,cs,rfl⟩:=hl
 match cs,hl with
 | [a,b,c],_=>
  obtain ⟨n,rfl,_⟩:=zIp (h 0 _ a rfl rfl)
  obtain ⟨m,rfl,hm⟩:=zIp (h 1 _ b rfl rfl)
  obtain ⟨s,rfl,_⟩:=zPH (h 2 _ c rfl rfl)
  exact ⟨⟨n,m,s⟩,rfl,zPg hm⟩
theorem zN7 {x : AV} (h : Fits (.sl true zQR) x) : ∃ r,zDB x r ∧ ∀ v ∈ r,-9223372036854775808 ≤ v.num ∧ v.num ≤ 9223372036854775807:=by
 obtain ⟨q,xs,rfl,_,_,h1,h2⟩:=zN4 h
 obtain ⟨r,rfl,hr⟩:=zN5 fun y hy=>zN6 (h1 y hy) (h2 y hy)
 exact ⟨r,⟨_,_,rfl,.inl rfl⟩,hr⟩
theorem zLO : ∀ {xs : List AV},(∀ y ∈ xs,∃ r,zDB y r ∧ ∀ v ∈ r,-9223372036854775808 ≤ v.num ∧ v.num ≤ 9223372036854775807) → ∃ t : List Row,TabN t ∧ xs.length = t.length ∧ ∀ (i : Nat) (r : Row),t[i]? = some r → ∃ x,xs[i]? = some x ∧ zDB x r
 | [],_=>⟨[],fun r h=>by simp at h,rfl,fun i r h=>by simp at h⟩
 | y :: ys,h=>by
  obtain ⟨r,hr,hn⟩:=h y (by simp)
  obtain ⟨t,h0,h1,h2⟩:=zLO (xs:=ys) fun z hz=>h z (List.mem_cons_of_mem _ hz)
  refine ⟨r :: t,fun r' hr'=>?_,by simp [h1],fun i r' hi=>?_⟩
  ·rcases List.mem_cons.1 hr' with rfl | hr'
   ·exact hn
   ·exact h0 r' hr'
  ·cases i with
   | zero=>simp at hi; subst hi; exact ⟨y,rfl,hr⟩
   | succ i=>simp at hi; simpa using h2 i r' hi
theorem zN8 {x : AV} (h : Fits (.sl false [.sl true zQR]) x) : ∃ t,TabN t ∧ ∀ H,zAS H x t:=by
 obtain ⟨q,xs,rfl,_,h1⟩:=zPI h
 obtain ⟨t,h0,h2,h3⟩:=zLO fun y hy=>zN7 (h1 y hy)
 exact ⟨t,h0,fun H=>⟨xs,by simp [view],h2,h3⟩⟩
end Go.AM
