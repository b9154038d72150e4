/- Several texts of mine in one (Sst, Sr0, Srv, Hd4, Pck). Own work. -/
import Derived.Test.YtcnogafgcfidnaaGreatDoorGAddHd1
import Derived.Test.YtcnogafgcfidnaaGreatDoorGCmpTwo
import Derived.Test.YtcnogafgcfidnaaGreatDoorGHd2Stw
import Derived.Test.YtcnogafgcfidnaaGreatDoorGValStb
set_option linter.all false
namespace Go.AM
def zLH (ks : List Key) : List Int:=ks.map Key.col
section
variable {C : CSpec} {GT : Nat → Option AV}
structure SC where
 i : Nat
 v : AV
structure SortEnv (C : CSpec) : Prop where
 nil : ∀ v fv H,view H 1 v = some [] → C zAC [v,fv] H (.tup []) H
 srt : ∀ (G : Heap) (b n : Nat) (q : Option Bool) (g : FuncId) (caps : List AV) (cmp : Nat → Nat → Int),LtOK (zJk cmp) → b < G.length → n ≤ 1099511627776 → zQ7 C G b n g caps cmp →
  ∃ f,zA0 (fun i=>i) f 0 n ∧ zDC (zJk cmp) f 0 n ∧ C zAC [.sl q b 1 0 n,.fn g [] caps] (hpR G b n fun i=>i) (.tup []) (hpR G b n f)
theorem zOx {H : Heap} {k b : Nat} {v : AV} {xs : List AV} {x : ABlk} (h : view H k v = some xs) (hb : v.blk ≠ some b) : view (H.set b x) k v = some xs:=by
 unfold view at h ⊢
 split at h
 ·exact h
 ·rename_i b' _ _ _
  have hne : b ≠ b':=fun e=>hb (by rw [e]; rfl)
  split at h
  ·rename_i hk
   rw [if_pos hk]
   rw [List.getElem?_set_ne hne]
   exact h
  ·cases h
 ·cases h
theorem zAS.set {H : Heap} {tv : AV} {t : List Row} {b : Nat} {x : ABlk} (h : zAS H tv t) (hb : tv.blk ≠ some b) : zAS (H.set b x) tv t:=by
 obtain ⟨rows,h1,h2⟩:=h
 exact ⟨rows,zOx h1 hb,h2⟩
end
structure SortedOK (t : List Row) (ks : List Key) (l : List Nat) : Prop where
 len : l.length = t.length
 lt : ∀ (i : Nat) (x : Nat),l[i]? = some x → x < t.length
 once : ∀ (i : Nat) (x : Nat),l[i]? = some x → x ∉ l.take i
 bef : ∀ (i : Nat) (x y : Nat),l[i]? = some x → l[i + 1]? = some y → Bef (zBn t ks) x y
theorem zOy (t : List Row) (ks : List Key) : SortedOK t ks (zHL t ks):=by
 have hp : (zHL t ks).Perm (List.range t.length):=zCh (zBn t ks) t.length
 have hs : (zHL t ks).Pairwise (Bef (zBn t ks)):=zCx (zGC t ks) t.length
 refine ⟨zLA _ _,fun i x h=>?_,fun i x h hm=>?_,fun i x y h1 h2=>?_⟩
 ·exact List.mem_range.1 (hp.mem_iff.1 (List.mem_of_getElem? h))
 ·obtain ⟨j,hj⟩:=List.getElem?_of_mem hm
  have hji : j < i:=by
   have:=(zg hj).1
   rw [List.length_take] at this; omega
  rw [List.getElem?_take,if_pos hji] at hj
  obtain ⟨a1,a2⟩:=zg h
  obtain ⟨b1,b2⟩:=zg hj
  have:=List.pairwise_iff_getElem.1 hs j i b1 a1 hji
  refine Bef.ne (zGC t ks) this ?_
  rw [b2,a2]
 ·obtain ⟨a1,a2⟩:=zg h1
  obtain ⟨b1,b2⟩:=zg h2
  have:=List.pairwise_iff_getElem.1 hs i (i + 1) a1 b1 tO
  rw [a2,b2] at this
  exact this
end Go.AM
namespace Go.AM
def zFv (a b : Val) : Bool:=if a.kind = b.kind then (if a.kind = 2 then Op.bytesLess a.text b.text else decide (a.num < b.num)) else decide (a.kind < b.kind)
def zMb (a b : Val) : Int:=if zFv a b = true then -1 else if zFv b a = true then 1 else 0
theorem zGu {v : Val} (h : valOK v = true) : (v.kind = 2 → v.num = 0) ∧ (v.kind ≠ 2 → v.text = []):=by
 unfold valOK at h
 simp only [beq_iff_eq] at h
 split at h
 ·rename_i e; simp only [Bool.and_eq_true,beq_iff_eq] at h; exact ⟨fun x=>by omega,fun _=>h.2⟩
 ·split at h
  ·rename_i e; simp only [beq_iff_eq] at h; exact ⟨fun x=>by omega,fun _=>h⟩
  ·split at h
   ·rename_i e; simp only [Bool.and_eq_true,beq_iff_eq] at h; exact ⟨fun _=>h.1,fun x=>absurd e x⟩
   ·split at h
    ·rename_i e; simp only [Bool.and_eq_true,beq_iff_eq] at h; exact ⟨fun x=>by omega,fun _=>h.2⟩
    ·split at h
     ·rename_i e; simp only [Bool.and_eq_true,beq_iff_eq] at h; exact ⟨fun x=>by omega,fun _=>h.2⟩
     ·cases h
theorem zOz (a b : Int) : zK7 a b = if a < b then -1 else if a = b then 0 else 1:=by
 unfold zK7
 repeat' split
 all_goals omega
theorem zNe {a b : Val} (ha : valOK a = true) (hb : valOK b = true) : zMb a b = zEq a b:=by
 obtain ⟨a1,a2⟩:=zGu ha
 obtain ⟨b1,b2⟩:=zGu hb
 unfold zMb zEq zFv
 simp only [orI,zOz,zGB]
 by_cases hk : a.kind = b.kind
 ·simp only [hk,if_true,Int.lt_irrefl,if_false]
  by_cases h2 : b.kind = 2
  ·rw [a1 tO,b1 h2]
   simp only [h2,if_true]
   cases h : Op.bytesLess a.text b.text with
   | true=>simp
   | false=>
    by_cases e : a.text = b.text
    ·simp [e,zBV]
    ·simp [e,zB5 _ _ e h]
  ·rw [a2 tO,b2 h2]
   simp only [h2,if_false]
   by_cases h3 : a.num < b.num
   ·simp [h3]
   ·by_cases h4 : a.num = b.num
    ·simp [h4,Op.bytesLess]
    ·have : b.num < a.num:=by omega
     simp [h3,h4,this]
 ·simp only [hk,if_false,Ne.symm hk]
  by_cases h3 : a.kind < b.kind
  ·simp [h3]
  ·have : b.kind < a.kind:=by omega
   simp [h3,this]
theorem zH2 {lt : Nat → Nat → Bool} (x : Nat) : ∀ (l : List Nat) (k : Nat),k ≤ l.length → (∀ p y,p < k → l[p]? = some y → lt x y = false) → (∀ y,l[k]? = some y → lt x y = true) → zMa lt x l = l.take k ++ x :: l.drop k
 | [],k,hk,_,_=>by
  have : k = 0:=by simpa using hk
  subst this; rfl
 | y :: l,0,_,_,h=>by
  have:=h y rfl
  simp only [zMa,this,if_true,List.take_zero,List.nil_append,List.drop_zero]
 | y :: l,k + 1,hk,h,h'=>by
  have h0:=h 0 y tO rfl
  simp only [zMa,h0,Bool.false_eq_true,if_false,List.take_succ_cons,List.cons_append,List.drop_succ_cons]
  rw [zH2 x l k (by simpa using hk) (fun p z hp hz=>h (p + 1) z tO (by simpa using hz)) (fun z hz=>h' z (by simpa using hz))]
theorem zLI (z : Int) (h : -1 ≤ z ∧ z ≤ 1) : aUn .neg (zJ z) = some (zJ (-z)):=by
 simp only [aUn,zJ]
 rw [IntWalk.i64_in _ tO,Int.zero_sub]
section
variable {C : CSpec} {GT : Nat → Option AV}
theorem zO0 (a b : Val) (H : Heap) : EFun C GT zDy [zB a,zB b] H (.bool (zFv a b)) H:=by
 refine zK5 rfl ?_; refine zK5 rfl ?_
 have hO : Old H ((H ++ [ABlk.box (zB a).cells]) ++ [ABlk.box (zB b).cells]):=((Old.refl H).push _).push _
 have ha : ((H ++ [ABlk.box (zB a).cells]) ++ [ABlk.box (zB b).cells])[H.length]? = some (.box (zB a).cells):=zF zA
 have hb : ((H ++ [ABlk.box (zB a).cells]) ++ [ABlk.box (zB b).cells])[(H ++ [ABlk.box (zB a).cells]).length]? = some (.box (zB b).cells):=zA
 refine zD (zJ a.kind) ha rfl ?_; refine zD (zJ b.kind) hb rfl ?_; refine zH (fun h=>?_) (fun h=>?_)
 ·have h : a.kind ≠ b.kind:=by simpa using h
  refine zD (zJ a.kind) ha rfl ?_; refine zD (zJ b.kind) hb rfl ?_
  have e : zFv a b = decide (a.kind < b.kind):=by unfold zFv; rw [if_neg h]
  rw [e]
  exact z2 rfl rfl rfl rfl hO
 ·have h : a.kind = b.kind:=by simpa using h
  refine zD (zJ a.kind) ha rfl ?_; refine zH (fun h2=>?_) (fun h2=>?_)
  ·have h2 : a.kind = 2:=by simpa using h2
   refine zD (.str a.text) ha rfl ?_; refine zD (.str b.text) hb rfl ?_
   have e : zFv a b = Op.bytesLess a.text b.text:=by unfold zFv; rw [if_pos h,if_pos h2]
   rw [e]
   exact z2 rfl rfl rfl rfl hO
  ·have h2 : a.kind ≠ 2:=by simpa using h2
   refine zD (zJ a.num) ha rfl ?_; refine zD (zJ b.num) hb rfl ?_
   have e : zFv a b = decide (a.num < b.num):=by unfold zFv; rw [if_pos h,if_neg h2]
   rw [e]
   exact z2 rfl rfl rfl rfl hO
theorem zKQ (hL : ∀ a b H,C zAw [zB a,zB b] H (.bool (zFv a b)) H) (a b : Val) (H : Heap) : EFun C GT zCd [zB a,zB b] H (zJ (zMb a b)) H:=by
 refine zK5 rfl ?_; refine zK5 rfl ?_
 have hO : Old H ((H ++ [ABlk.box (zB a).cells]) ++ [ABlk.box (zB b).cells]):=((Old.refl H).push _).push _
 have ha : ((H ++ [ABlk.box (zB a).cells]) ++ [ABlk.box (zB b).cells])[H.length]? = some (.box (zB a).cells):=zF zA
 have hb : ((H ++ [ABlk.box (zB a).cells]) ++ [ABlk.box (zB b).cells])[(H ++ [ABlk.box (zB a).cells]).length]? = some (.box (zB b).cells):=zA
 refine zD (zB a) ha rfl ?_; refine zD (zB b) hb rfl ?_; refine zI (hL a b _) ?_; refine zD (zB b) hb rfl ?_; refine zD (zB a) ha rfl ?_; refine zI (hL b a _) ?_; refine zH (fun h=>?_) (fun h=>?_)
 ·have e : zMb a b = -1:=by unfold zMb; rw [if_pos h]
  rw [e]
  exact z2 rfl rfl rfl rfl hO
 ·refine zH (fun h2=>?_) (fun h2=>?_)
  ·have e : zMb a b = 1:=by unfold zMb; rw [if_neg (by rw [h]; simp),if_pos h2]
   rw [e]
   exact z2 rfl rfl rfl rfl hO
  ·have e : zMb a b = 0:=by unfold zMb; rw [if_neg (by rw [h]; simp),if_neg (by rw [h2]; simp)]
   rw [e]
   exact z2 rfl rfl rfl rfl hO
theorem zNf (hV : ∀ a b H,C z6 [zB a,zB b] H (zJ (zMb a b)) H) (xa xb kv : AV) (a b : Row) (ks : List Key) (H : Heap) (ha : zDB xa a) (hb : zDB xb b) (hk : zAv kv 2 (ks.map kyV))
  (hia : ∀ k ∈ ks,zIe a k) (hib : ∀ k ∈ ks,zIe b k) (hva : ∀ v ∈ a,valOK v = true) (hvb : ∀ v ∈ b,valOK v = true) (hl : ks.length ≤ 1000000000000) : EFun C GT zB1 [xa,xb,kv] H (.bool (decide (zHK a b ks < 0))) H:=by
 refine zAV (σ:=Nat) (fun i=>[(7,nV i),(2,kv),(1,xb),(0,xa)]) (fun i H1=>H1 = H ∧ i ≤ ks.length ∧ zHK a b (ks.drop i) = zHK a b ks) (fun i=>ks.length - i) 0 rfl ⟨rfl,Nat.zero_le _,rfl⟩ (fun i H1 ⟨e1,hi,hcmp⟩=>?_)
 subst e1
 refine zu ks.length hk (by simp) ?_; refine zH (fun hlt=>?_) (fun hlt=>?_)
 ·simp only [decide_eq_true_eq,Int.ofNat_lt] at hlt
  have hke : ks[i]? = some ks[i]:=List.getElem?_eq_getElem hlt
  have hkm : (ks.map kyV)[i]? = some (kyV ks[i]):=by rw [List.getElem?_map,hke]; rfl
  have hmem : ks[i] ∈ ks:=List.mem_of_getElem? hke
  obtain ⟨c0,ca⟩:=hia _ hmem
  obtain ⟨_,cb⟩:=hib _ hmem
  have hxa : a[ks[i].col.toNat]? = some (a.getD ks[i].col.toNat default):=by
   rw [List.getD_eq_getElem?_getD,List.getElem?_eq_getElem tO]; rfl
  have hxb : b[ks[i].col.toNat]? = some (b.getD ks[i].col.toNat default):=by
   rw [List.getD_eq_getElem?_getD,List.getElem?_eq_getElem tO]; rfl
  have hdrop : ks.drop i = ks[i] :: ks.drop (i + 1):=List.drop_eq_getElem_cons hlt
  rw [hdrop,zHK] at hcmp
  have ecv:=zNe (hva _ (List.mem_of_getElem? hxa)) (hvb _ (List.mem_of_getElem? hxb))
  have hrng:=zHz (a.getD ks[i].col.toNat default) (b.getD ks[i].col.toNat default)
  refine zAK i (kyV ks[i]) hk rfl hkm ?_; refine zh (zJ ks[i].col) rfl ?_; refine zAK ks[i].col.toNat (zB (a.getD ks[i].col.toNat default)) ha (Int.toNat_of_nonneg c0).symm (ha.get [] hxa).2 ?_; refine zh (zB (a.getD ks[i].col.toNat default)) rfl ?_; refine zAK i (kyV ks[i]) hk rfl hkm ?_; refine zh (zJ ks[i].col) rfl ?_; refine zAK ks[i].col.toNat (zB (b.getD ks[i].col.toNat default)) hb (Int.toNat_of_nonneg c0).symm (hb.get [] hxb).2 ?_
  refine zh (zB (b.getD ks[i].col.toNat default)) rfl ?_
  have hcall:=hV (a.getD ks[i].col.toNat default) (b.getD ks[i].col.toNat default) H1
  rw [ecv] at hcall
  refine zI hcall ?_; refine zAK i (kyV ks[i]) hk rfl hkm ?_; refine zh (.bool ks[i].down) rfl ?_; refine zH (fun hdn=>?_) (fun hdn=>?_)
  ·have ek : zId a b ks[i] = - zEq (a.getD ks[i].col.toNat default) (b.getD ks[i].col.toNat default):=by unfold zId; rw [if_pos hdn]
   refine zA9 (zLI _ hrng) ?_; refine zH (fun hne=>?_) (fun hne=>?_)
   ·have e : zHK a b ks = - zEq (a.getD ks[i].col.toNat default) (b.getD ks[i].col.toNat default):=by
     rw [← hcmp,ek,if_pos hne]
    rw [e]
    exact sRr
   ·refine zY (r:=i + 1) rfl tO ?_; refine zw (i + 1) rfl ⟨rfl,by omega, ?_⟩ (by show _ < _; omega)
    rw [← hcmp,ek,if_neg (by rw [hne]; simp)]
  ·have ek : zId a b ks[i] = zEq (a.getD ks[i].col.toNat default) (b.getD ks[i].col.toNat default):=by unfold zId; rw [if_neg (by rw [hdn]; simp)]
   refine zH (fun hne=>?_) (fun hne=>?_)
   ·have e : zHK a b ks = zEq (a.getD ks[i].col.toNat default) (b.getD ks[i].col.toNat default):=by
     rw [← hcmp,ek,if_pos hne]
    rw [e]
    exact sRr
   ·refine zY (r:=i + 1) rfl tO ?_; refine zw (i + 1) rfl ⟨rfl,by omega, ?_⟩ (by show _ < _; omega)
    rw [← hcmp,ek,if_neg (by rw [hne]; simp)]
 ·simp only [decide_eq_false_iff_not,Int.ofNat_lt] at hlt
  have ei : i = ks.length:=by omega
  subst ei
  rw [List.drop_length] at hcmp
  have e : decide (zHK a b ks < 0) = false:=by rw [← hcmp]; rfl
  rw [e]
  exact sRr
theorem zO1 {t : List Row} {ks : List Key} {x y : Nat} (hx : x < t.length) (hy : y < t.length) : zBn t ks x y = decide (zHK t[x] t[y] ks < 0):=by
 have hxe : t[x]? = some t[x]:=List.getElem?_eq_getElem hx
 have hye : t[y]? = some t[y]:=List.getElem?_eq_getElem hy
 show decide (zP5 t ks x y < 0) = _
 unfold zP5
 simp [List.getD_eq_getElem?_getD,hxe,hye]
theorem zO2 {t : List Row} (h : zk t = 0) : ∀ (i : Nat) (r : Row),t[i]? = some r → ∀ v ∈ r,valOK v = true:=by
 intro i r hr v hv
 unfold zk at h
 split at h
 ·omega
 split at h
 ·omega
 split at h
 ·omega
 split at h
 ·omega
 rename_i h1
 simp only [List.any_eq_true,Bool.not_eq_true',not_exists,not_and,Bool.not_eq_false] at h1
 exact h1 r (List.mem_of_getElem? hr) v hv
structure SV where
 i : Nat
 v : AV
theorem zNg (n : Nat) : zOm (zPZ n) n:=by
 cases n with
 | zero=>exact .inl ⟨rfl,rfl⟩
 | succ n=>exact .inr rfl
end
end Go.AM
namespace Go.AM
def zNh (H : Heap) (kv : AV) (ks : List Key) : Prop:=zAv kv 2 (ks.map kyV) ∨ ∃ b,kv = .sl (some true) b 2 0 ks.length ∧ H[b]? = some (.row 2 (ks.map kyV))
theorem zNh.old {H H' : Heap} {kv : AV} {ks : List Key} (h : zNh H kv ks) (hO : Old H H') : zNh H' kv ks:=h.imp id fun ⟨b,e,hb⟩=>⟨b,e,zBx hO hb⟩
section
variable {C : CSpec} {GT : Nat → Option AV}
theorem zL9 {q : Option Bool} (hV : ∀ a b H,C z6 [zB a,zB b] H (zJ (zMb a b)) H) (xa xb : AV) (kb : Nat) (a b : Row) (ks : List Key) (H : Heap) (ha : zDB xa a) (hb : zDB xb b) (hk : H[kb]? = some (.row 2 (ks.map kyV)))
  (hia : ∀ k ∈ ks,zIe a k) (hib : ∀ k ∈ ks,zIe b k) (hva : ∀ v ∈ a,valOK v = true) (hvb : ∀ v ∈ b,valOK v = true) (hl : ks.length ≤ 1000000000000) : EFun C GT zB1 [xa,xb,.sl q kb 2 0 ks.length] H (.bool (decide (zHK a b ks < 0))) H:=by
 refine zAV (σ:=Nat) (fun i=>[(7,nV i),(2,.sl q kb 2 0 ks.length),(1,xb),(0,xa)]) (fun i H1=>H1 = H ∧ i ≤ ks.length ∧ zHK a b (ks.drop i) = zHK a b ks) (fun i=>ks.length - i) 0 rfl ⟨rfl,Nat.zero_le _,rfl⟩ (fun i H1 ⟨e1,hi,hcmp⟩=>?_)
 subst e1
 refine zCD ?_; refine zH (fun hlt=>?_) (fun hlt=>?_)
 ·simp only [decide_eq_true_eq,Int.ofNat_lt] at hlt
  have hke : ks[i]? = some ks[i]:=List.getElem?_eq_getElem hlt
  have hkm : (ks.map kyV)[i]? = some (kyV ks[i]):=by rw [List.getElem?_map,hke]; rfl
  have hmem : ks[i] ∈ ks:=List.mem_of_getElem? hke
  obtain ⟨c0,ca⟩:=hia _ hmem
  obtain ⟨_,cb⟩:=hib _ hmem
  have hxa : a[ks[i].col.toNat]? = some (a.getD ks[i].col.toNat default):=by
   rw [List.getD_eq_getElem?_getD,List.getElem?_eq_getElem tO]; rfl
  have hxb : b[ks[i].col.toNat]? = some (b.getD ks[i].col.toNat default):=by
   rw [List.getD_eq_getElem?_getD,List.getElem?_eq_getElem tO]; rfl
  have hdrop : ks.drop i = ks[i] :: ks.drop (i + 1):=List.drop_eq_getElem_cons hlt
  rw [hdrop,zHK] at hcmp
  have ecv:=zNe (hva _ (List.mem_of_getElem? hxa)) (hvb _ (List.mem_of_getElem? hxb))
  have hrng:=zHz (a.getD ks[i].col.toNat default) (b.getD ks[i].col.toNat default)
  refine sAt ⟨by omega,by omega⟩ ?_; refine zAA i (kyV ks[i]) (zJ ks[i].col) tO hk hkm rfl ?_; refine zAK ks[i].col.toNat (zB (a.getD ks[i].col.toNat default)) ha (Int.toNat_of_nonneg c0).symm (ha.get [] hxa).2 ?_; refine zh (zB (a.getD ks[i].col.toNat default)) rfl ?_; refine sAt ⟨by omega,by omega⟩ ?_; refine zAA i (kyV ks[i]) (zJ ks[i].col) tO hk hkm rfl ?_; refine zAK ks[i].col.toNat (zB (b.getD ks[i].col.toNat default)) hb (Int.toNat_of_nonneg c0).symm (hb.get [] hxb).2 ?_
  refine zh (zB (b.getD ks[i].col.toNat default)) rfl ?_
  have hcall:=hV (a.getD ks[i].col.toNat default) (b.getD ks[i].col.toNat default) H1
  rw [ecv] at hcall
  refine zI hcall ?_; refine sAt ⟨by omega,by omega⟩ ?_; refine zAA i (kyV ks[i]) (.bool ks[i].down) tO hk hkm rfl ?_; refine zH (fun hdn=>?_) (fun hdn=>?_)
  ·have ek : zId a b ks[i] = - zEq (a.getD ks[i].col.toNat default) (b.getD ks[i].col.toNat default):=by unfold zId; rw [if_pos hdn]
   refine zA9 (zLI _ hrng) ?_; refine zH (fun hne=>?_) (fun hne=>?_)
   ·have e : zHK a b ks = - zEq (a.getD ks[i].col.toNat default) (b.getD ks[i].col.toNat default):=by
     rw [← hcmp,ek,if_pos hne]
    rw [e]
    exact sRr
   ·refine zY (r:=i + 1) rfl tO ?_; refine zw (i + 1) rfl ⟨rfl,by omega, ?_⟩ (by show _ < _; omega)
    rw [← hcmp,ek,if_neg (by rw [hne]; simp)]
  ·have ek : zId a b ks[i] = zEq (a.getD ks[i].col.toNat default) (b.getD ks[i].col.toNat default):=by unfold zId; rw [if_neg (by rw [hdn]; simp)]
   refine zH (fun hne=>?_) (fun hne=>?_)
   ·have e : zHK a b ks = zEq (a.getD ks[i].col.toNat default) (b.getD ks[i].col.toNat default):=by
     rw [← hcmp,ek,if_pos hne]
    rw [e]
    exact sRr
   ·refine zY (r:=i + 1) rfl tO ?_; refine zw (i + 1) rfl ⟨rfl,by omega, ?_⟩ (by show _ < _; omega)
    rw [← hcmp,ek,if_neg (by rw [hne]; simp)]
 ·simp only [decide_eq_false_iff_not,Int.ofNat_lt] at hlt
  have ei : i = ks.length:=by omega
  subst ei
  rw [List.drop_length] at hcmp
  have e : decide (zHK a b ks < 0) = false:=by rw [← hcmp]; rfl
  rw [e]
  exact sRr
theorem zNi {KP : Heap → AV → List Key → Prop} (hKP : ∀ H H' kv ks,Old H H' → KP H kv ks → KP H' kv ks) (hA : ∀ xa xb kv (a b : Row) ks H,zDB xa a → zDB xb b → KP H kv ks → (∀ k ∈ ks,zIe a k) → (∀ k ∈ ks,zIe b k) → (∀ v ∈ a,valOK v = true) → (∀ v ∈ b,valOK v = true) → ks.length ≤ 1000000000000 → C zBE [xa,xb,kv] H (.bool (decide (zHK a b ks < 0))) H)
  (tv kv : AV) (t : List Row) (ks : List Key) (H : Heap) (ht : zAS H tv t) (hk : KP H kv ks) (he : zX t (zLH ks) = 0) : EFun C GT zDw [tv,kv] H (zC3 1 ((zHL t ks).map nV)) H:=by
 obtain ⟨h60,h12,hwide,hin⟩:=zK8 he
 have hk12 : ks.length ≤ 12:=by unfold zLH at h12; rw [List.length_map] at h12; exact h12
 have hkin : ∀ (j : Nat) (r : Row),t[j]? = some r → ∀ k ∈ ks,zIe r k:=fun j r hj k hk=>hin j r hj k.col (List.mem_map.2 ⟨k,hk,rfl⟩)
 have ht0 : zk t = 0:=by
  unfold zX at he
  split at he
  ·omega
  ·omega
 have hvals:=zO2 ht0
 obtain ⟨rows,hv,hl,hr⟩:=ht
 have hord:=zGC t ks
 refine zAV (fun s : SV=>[(6,nV s.i),(5,s.v),(1,kv),(0,tv)]) (fun s H'=>Old H H' ∧ s.i ≤ t.length ∧ Owns H H' s.v 1 ((zL4 (zBn t ks) s.i).map nV)) (fun s=>t.length - s.i) ⟨0,.lst (some true) 0 []⟩ rfl
  ⟨Old.refl _,Nat.zero_le _,Owns.nil _ _ _⟩ (fun ⟨i,ov⟩ H1 ⟨hO,hi,hown⟩=>?_)
 simp only at hi hown
 dsimp only
 refine zBN t.length (zAI hO hv) hl ?_; refine zH (fun hlt=>?_) (fun hlt=>?_)
 ·simp only [decide_eq_true_eq,Int.ofNat_lt] at hlt
  have hsl:=zLA (zBn t ks) i
  have hsp:=zCh (zBn t ks) i
  have hss:=zCx hord i
  have hlt' : ∀ (p y : Nat),(zL4 (zBn t ks) i)[p]? = some y → y < i:=fun p y hy=>List.mem_range.1 (hsp.mem_iff.1 (List.mem_of_getElem? hy))
  have hnext : zL4 (zBn t ks) (i + 1) = zMa (zBn t ks) i (zL4 (zBn t ks) i):=rfl
  generalize zL4 (zBn t ks) i = L at hown hsl hss hlt' hnext
  have hti : t[i]? = some t[i]:=List.getElem?_eq_getElem hlt
  obtain ⟨xi,hxi,hri⟩:=hr i _ hti
  refine zBN i hown.view (by rw [List.length_map,hsl]) ?_; refine zAV (σ:=Nat) (fun k=>[(7,nV k),(1,kv),(0,tv),(6,nV i),(5,ov)]) (fun k H'=>H' = H1 ∧ k ≤ i ∧ ∀ y,L[k]? = some y → zBn t ks i y = true) (fun k=>k) i rfl ⟨rfl,Nat.le_refl _,fun y hy=>by
   have:=(zg hy).1; omega⟩ (fun k H2 ⟨e2,hki,hfirst⟩=>?_)
  subst e2
  have out : ∀ P : Prop,(0 < k → ∀ y,L[k - 1]? = some y → zBn t ks i y = false) → (zMa (zBn t ks) i L = L.take k ++ i :: L.drop k → P) → P:=fun P h hP=>by
   refine hP (zH2 i L k tO (fun p y hp hy=>?_) hfirst)
   obtain ⟨z,hz⟩ : ∃ z,L[k - 1]? = some z:=⟨L[k - 1]'tO,List.getElem?_eq_getElem tO⟩
   have h1:=h tO z hz
   by_cases ep : p = k - 1
   ·subst ep; rw [hz] at hy; cases hy; exact h1
   ·obtain ⟨p1,p2⟩:=zg hy
    obtain ⟨q1,q2⟩:=zg hz
    have hb:=List.pairwise_iff_getElem.1 hss p (k - 1) p1 q1 tO
    rw [p2,q2] at hb
    have hle : zBn t ks z y = false:=by
     rcases hb with hb | hb
     ·exact hord.asym _ _ hb
     ·exact hb.1
    exact hord.le y z i hle h1
  refine zH (fun hgt=>?_) (fun hgt=>?_)
  ·simp only [decide_eq_true_eq,gt_iff_lt] at hgt
   obtain ⟨y,hy⟩ : ∃ y,L[k - 1]? = some y:=⟨L[k - 1]'tO,List.getElem?_eq_getElem tO⟩
   have hyi:=hlt' (k - 1) y hy
   have hym : (L.map nV)[k - 1]? = some (nV y):=by rw [List.getElem?_map,hy]; rfl
   have hyt : y < t.length:=by omega
   have hye : t[y]? = some t[y]:=List.getElem?_eq_getElem hyt
   obtain ⟨xy,hxy,hry⟩:=hr y _ hye
   refine zBZ i xi (zAI hO hv) rfl hxi (fun p hp=>?_)
   refine zAB xi hp (by rw [hri.cells]; rfl) ?_; refine zY (r:=k - 1) tO tO ?_; refine zBZ (k - 1) (nV y) hown.view rfl hym (fun p2 hp2=>?_)
   refine zAB (nV y) hp2 rfl ?_; refine zBZ y xy (zAI hO hv) rfl hxy (fun p3 hp3=>?_)
   refine zAB xy hp3 (by rw [hry.cells]; rfl) ?_; refine zI (hA xi xy kv t[i] t[y] ks _ hri hry (hKP _ _ _ _ hO hk) (hkin _ _ hti) (hkin _ _ hye) (hvals _ _ hti) (hvals _ _ hye) tO) ?_
   rw [← zO1 hlt hyt]
   refine zM ?_; refine zH (fun hc=>?_) (fun hc=>?_)
   ·refine zY (r:=k - 1) tO tO ?_; refine zw (k - 1) rfl ⟨rfl,by omega,fun z hz=>?_⟩ (by show _ < _; omega)
    rw [hy] at hz; cases hz; exact hc
   ·refine out _ (fun _ z hz=>by rw [hy] at hz; cases hz; exact hc) (fun hins=>?_)
    obtain ⟨s1,a1,b1,w1⟩:=zLF hown (k:=k) (by rw [List.length_map]; omega)
    obtain ⟨s2,a2,b2,w2⟩:=zLG hown (k:=k) (by rw [List.length_map]; omega)
    refine zA9 a1 ?_; refine zDj (H0:=H) (zEu.nil _ _ _) hO (w1 _ fun _ _ _ h=>h) ?_ ?_ (fun v1 H3 ho3 hO3 hb3 hf3=>?_)
    ·simp only [List.length_nil,List.length_take,List.length_map]; omega
    ·simp only [List.length_nil,List.length_take,List.length_map]; omega
    rw [List.nil_append] at ho3
    have hown3 : Owns H H3 ov 1 (L.map nV):=hown.keep fun b x hb hx=>hf3 b x (zIg b) hx
    have hlt3 : ∀ b,ov.blk = some b → b < H2.length:=fun b hb=>(hown.lt hb).2
    refine zAu (vs':=[nV i]) rfl rfl ?_; refine zDj (H0:=H) (ho3.push _) (hO3.push _) zAn ?_ ?_ (fun v2 H4 ho4 hO4 hb4 hf4=>?_)
    ·simp only [List.length_take,List.length_map,List.length_cons,List.length_nil]; omega
    ·simp only [List.length_take,List.length_map,List.length_cons,List.length_nil]; omega
    have hne3 : ∀ b,ov.blk = some b → v1.blk ≠ some b:=fun b hb e=>by
     rw [hb3] at e; simp only [Option.some.injEq] at e; have:=hlt3 b hb; omega
    refine zA9 a2 ?_; refine zDj (H0:=H) ho4 hO4 (w2 _ fun b x hb hx=>hf4 b x (hne3 b hb) (zF (hf3 b x (zIg b) hx))) ?_ ?_ (fun v3 H5 ho5 hO5 hb5 hf5=>?_)
    ·simp only [List.length_append,List.length_drop,List.length_take,List.length_map,List.length_cons,List.length_nil]; omega
    ·simp only [List.length_append,List.length_drop,List.length_take,List.length_map,List.length_cons,List.length_nil]; omega
    refine zY (r:=i + 1) rfl tO ?_; refine zw (SV.mk (i + 1) v3) rfl ⟨hO5,by simp only; omega, ?_⟩ (by simp only; omega)
    have e5 : (L.map nV).take k ++ [nV i] ++ (L.map nV).drop k = (zL4 (zBn t ks) (i + 1)).map nV:=by
     rw [hnext,hins]; simp only [List.map_append,List.map_take,List.map_drop,List.map_cons,List.append_assoc,List.singleton_append]
    simp only [← e5]
    exact ho5.toOwns (by simp)
  ·simp only [decide_eq_false_iff_not,gt_iff_lt] at hgt
   refine out _ (fun h=>absurd h tO) (fun hins=>?_)
   refine zK ?_; refine zK ?_
   obtain ⟨s1,a1,b1,w1⟩:=zLF hown (k:=k) (by rw [List.length_map]; omega)
   obtain ⟨s2,a2,b2,w2⟩:=zLG hown (k:=k) (by rw [List.length_map]; omega)
   refine zA9 a1 ?_; refine zDj (H0:=H) (zEu.nil _ _ _) hO (w1 _ fun _ _ _ h=>h) ?_ ?_ (fun v1 H3 ho3 hO3 hb3 hf3=>?_)
   ·simp only [List.length_nil,List.length_take,List.length_map]; omega
   ·simp only [List.length_nil,List.length_take,List.length_map]; omega
   rw [List.nil_append] at ho3
   have hown3 : Owns H H3 ov 1 (L.map nV):=hown.keep fun b x hb hx=>hf3 b x (zIg b) hx
   have hlt3 : ∀ b,ov.blk = some b → b < H2.length:=fun b hb=>(hown.lt hb).2
   refine zAu (vs':=[nV i]) rfl rfl ?_; refine zDj (H0:=H) (ho3.push _) (hO3.push _) zAn ?_ ?_ (fun v2 H4 ho4 hO4 hb4 hf4=>?_)
   ·simp only [List.length_take,List.length_map,List.length_cons,List.length_nil]; omega
   ·simp only [List.length_take,List.length_map,List.length_cons,List.length_nil]; omega
   have hne3 : ∀ b,ov.blk = some b → v1.blk ≠ some b:=fun b hb e=>by
    rw [hb3] at e; simp only [Option.some.injEq] at e; have:=hlt3 b hb; omega
   refine zA9 a2 ?_; refine zDj (H0:=H) ho4 hO4 (w2 _ fun b x hb hx=>hf4 b x (hne3 b hb) (zF (hf3 b x (zIg b) hx))) ?_ ?_ (fun v3 H5 ho5 hO5 hb5 hf5=>?_)
   ·simp only [List.length_append,List.length_drop,List.length_take,List.length_map,List.length_cons,List.length_nil]; omega
   ·simp only [List.length_append,List.length_drop,List.length_take,List.length_map,List.length_cons,List.length_nil]; omega
   refine zY (r:=i + 1) rfl tO ?_; refine zw (SV.mk (i + 1) v3) rfl ⟨hO5,by simp only; omega, ?_⟩ (by simp only; omega)
   have e5 : (L.map nV).take k ++ [nV i] ++ (L.map nV).drop k = (zL4 (zBn t ks) (i + 1)).map nV:=by
    rw [hnext,hins]; simp only [List.map_append,List.map_take,List.map_drop,List.map_cons,List.append_assoc,List.singleton_append]
   simp only [← e5]
   exact ho5.toOwns (by simp)
 ·simp only [decide_eq_false_iff_not,Int.ofNat_lt] at hlt
  have ei : i = t.length:=by omega
  subst ei
  obtain ⟨H',hf,hO',_⟩:=hown.frz hO
  exact zKM (v0:=ov) rfl rfl hf (zDf _ _ _) hO'
end
end Go.AM
set_option maxRecDepth 20000
namespace Go.AM
def zKR (H : Heap) (kv : AV) (ks : List Key) : Prop:=zAv kv 2 (ks.map kyV) ∨ ∃ q b,kv = .sl q b 2 0 ks.length ∧ H[b]? = some (.row 2 (ks.map kyV))
theorem zKR.old {H H' : Heap} {kv : AV} {ks : List Key} (h : zKR H kv ks) (hO : Old H H') : zKR H' kv ks:=h.imp id fun ⟨q,b,e,hb⟩=>⟨q,b,e,zBx hO hb⟩
theorem zH3 {t : List Row} {cols l : List Int} (h : zX t cols = 0) (hl : l.length ≤ 12) (hs : ∀ c ∈ l,c ∈ cols) : zX t l = 0:=by
 unfold zX at h ⊢
 split at h
 ·omega
 rename_i h1
 rw [if_neg h1,if_neg tO]
 split at h
 ·omega
 split at h
 ·omega
 rename_i h3
 rw [if_neg]
 intro k
 refine h3 ?_
 rw [List.any_eq_true] at k ⊢
 obtain ⟨c,hc,hk⟩:=k
 exact ⟨c,hs c hc,hk⟩
section
variable {C : CSpec} {GT : Nat → Option AV}
set_option maxHeartbeats 4000000 in
theorem zNj (hS : ∀ tv kv (t : List Row) ks H,zAS H tv t → zKR H kv ks → zX t (zLH ks) = 0 → C zBR [tv,kv] H (zC3 1 ((zHL t ks).map nV)) H)
  (tv : AV) (t : List Row) (c : Nat) (H : Heap) (ht : zAS H tv t) (he : zX t [(c : Int)] = 0) : EFun C GT zDQ [tv,zJ (c : Int)] H (zC3 3 ((zp t c).map zB)) H:=by
 have h1:=hS tv (.sl (some false) H.length 2 0 1) t (zCg [(c : Int)]) (H ++ [.row 2 [kyV ⟨(c : Int),false⟩]]) (ht.old ((Old.refl H).push _)) (.inr ⟨_,_,rfl,zA⟩) he
 clear hS
 obtain ⟨h60,_,_,hcol⟩:=zK8 he
 have inc : ∀ (i : Nat) (r : Row),t[i]? = some r → c < r.length:=fun i r hr=>by have:=hcol i r hr (c : Int) (by simp); omega
 have hok:=zOy t (zCg [(c : Int)])
 have hsc:=zL7 t (c : Int)
 obtain ⟨L,hL⟩ : ∃ L,zHL t (zCg [(c : Int)]) = L:=⟨_,rfl⟩
 rw [hL] at h1 hok hsc
 obtain ⟨V,hV⟩ : ∃ V,zAq (zJl t (c : Int)) = V:=⟨_,rfl⟩
 have hres : zp t c = zE V:=by unfold zp; rw [hV]
 rw [hV] at hsc
 rw [hres]
 have hVl : V.length = L.length:=by rw [← hsc,List.length_map]
 have hLl : L.length = t.length:=hok.len
 have hLx : ∀ i x,L[i]? = some x → x < t.length:=hok.lt
 have hVi : ∀ i x,L[i]? = some x → V[i]? = some (zb t (c : Int) x):=fun i x hx=>by rw [← hsc,List.getElem?_map,hx]; rfl
 clear hok hsc hres
 obtain ⟨rows,hrv,hrl,hrg⟩:=ht
 obtain ⟨lv,hlv⟩ : ∃ lv,zC3 1 (L.map nV) = lv:=⟨_,rfl⟩
 have hlO : zAv lv 1 (L.map nV):=hlv ▸ zEE _ _
 have hlm : (L.map nV).length = L.length:=List.length_map _
 rw [hlv] at h1
 refine zR ?_; refine zA9 (v:=[zJ ↑c,AV.bool false]) rfl ?_; refine zAu (vs':=[kyV ⟨(c : Int),false⟩]) rfl rfl ?_; refine zI h1 ?_; refine zAV (fun x : Nat × AV=>[(7,zBf x.1),(5,x.2),(1,zJ (c : Int)),(6,lv),(0,tv)]) (fun x H'=>Old H H' ∧ x.1 ≤ L.length ∧ Owns H H' x.2 3 ((zE (V.take x.1)).map zB)) (fun x=>L.length - x.1) (0,.lst (some true) 0 []) rfl ⟨(Old.refl H).push _,by simp,.inl ⟨rfl,by simp [zE]⟩⟩ (fun x H1 hi=>?_)
 obtain ⟨i,out⟩:=x
 obtain ⟨hO,hi,ho⟩:=hi
 dsimp only at hi ho ⊢
 refine zu L.length hlO hlm ?_
 by_cases hlt : i < L.length
 case neg=>
  have hil : V.take i = V:=List.take_of_length_le tO
  rw [hil] at ho
  obtain ⟨H5,hf5,hO5,_⟩:=ho.frz hO
  refine zGg tF ?_
  exact zKM rfl rfl hf5 (zDf _ _ _) hO5
 obtain ⟨x,hx⟩ : ∃ x,L[i]? = some x:=⟨_,List.getElem?_eq_getElem hlt⟩
 have hxm : (L.map nV)[i]? = some (nV x):=by rw [List.getElem?_map,hx]; rfl
 obtain ⟨row,hrow⟩ : ∃ row,t[x]? = some row:=⟨_,List.getElem?_eq_getElem (hLx i x hx)⟩
 obtain ⟨xr,hxr,hxR⟩:=hrg x row hrow
 have hpt : part xr.cells 0 1 false = some xr:=by obtain ⟨q,k,rfl,_⟩:=hxR; rfl
 have cc:=zBo hrow (inc x row hrow)
 have hvi:=hVi i x hx
 obtain ⟨v,hv⟩ : ∃ v,zb t (c : Int) x = v:=⟨_,rfl⟩
 rw [hv] at cc hvi
 have mc : (row.map zB)[c]? = some (zB v):=by rw [List.getElem?_map,cc]; rfl
 have hv1:=zAI hO hrv
 have htk : V.take (i + 1) = V.take i ++ [v]:=by rw [List.take_succ,hvi]; rfl
 have hcl:=zFf (V.take i)
 have hcl2 : (zE (V.take i)).length ≤ 60:=by rw [List.length_take] at hcl; omega
 clear hVi
 refine zGz tT ?_
 by_cases h0 : i = 0
 ·subst h0
  rcases ho with ⟨rfl,hnil⟩ | ⟨b,rfl,hb0,hb,hne⟩
  case inr=>exact absurd rfl hne
  refine zAK 0 (nV x) hlO rfl hxm ?_; refine zh (nV x) rfl ?_; refine zBZ x xr hv1 rfl hxr (fun p hp=>?_)
  refine zAB xr hp hpt ?_; refine zAK c (zB v) hxR rfl mc ?_; refine zh (zB v) rfl ?_; refine zS (v:=zB v) (AV.cells (zB v)) zA rfl rfl rfl rfl ?_; refine zu 0 (⟨_,_,rfl,.inr rfl⟩ : zAv (.lst (some true) 0 []) 3 []) rfl ?_; refine zM ?_; refine zM ?_; refine zM ?_; refine zD (zB v) (zN zA) rfl ?_; refine zAu (vs':=[zB v]) rfl rfl ?_; refine zCp (H0:=H) (Owns.nil H _ 3) ((hO.pushSet _ _).push _) zAn tO (by simp) (by simp) (fun v2 H4 ho4 hO4 _ hfr=>?_)
  refine zY (r:=0 + 1) rfl tO ?_; refine zw (0 + 1,v2) rfl ⟨hO4,by simp only; omega, ?_⟩ (by simp only; omega)
  simp only
  rw [htk,List.take_zero]
  exact ho4
 ·obtain ⟨u,hu⟩ : ∃ u,V[i - 1]? = some u:=⟨_,List.getElem?_eq_getElem tO⟩
  have hti : V.take i = V.take (i - 1) ++ [u]:=by
   conv=>lhs; rw [show i = i - 1 + 1 by omega]
   rw [List.take_succ,hu]; rfl
  have hlast : (zE (V.take i)).getLast? = some u:=by rw [hti]; exact zEs _ _
  have hstep : zE (V.take (i + 1)) = if u = v then zE (V.take i) else zE (V.take i) ++ [v]:=by
   rw [htk,hti,List.append_assoc]
   exact zCy (V.take (i - 1)) u v
  obtain ⟨W,hW⟩ : ∃ W,zE (V.take i) = W:=⟨_,rfl⟩
  rw [hW] at ho hcl2 hlast hstep
  clear hcl
  have hWn : W ≠ []:=fun e=>by rw [e] at hlast; simp at hlast
  have hWp : 0 < W.length:=List.length_pos_iff.2 hWn
  rcases ho with ⟨rfl,hnil⟩ | ⟨b,rfl,hb0,hb,hne⟩
  case inl=>exact absurd (List.map_eq_nil_iff.1 hnil) hWn
  have hum : (W.map zB)[W.length - 1]? = some (zB u):=by
   rw [List.getElem?_map,← List.getLast?_eq_getElem?,hlast]; rfl
  have ho : Owns H H1 (.sl (some true) b 3 0 (W.map zB).length) 3 (W.map zB):=.inr ⟨b,rfl,hb0,hb,hne⟩
  have hbS : ((H1 ++ [ABlk.box [.int .i64 0,.int .i64 0,.str []]]).set H1.length (.box (zB v).cells))[b]? = some (.row 3 (W.map zB)):=zBx ((Old.refl H1).pushSet _ _) hb
  have ev:=zB4 u v
  have hml : (W.map zB).length = W.length:=List.length_map _
  rw [hml] at ho ⊢
  refine zAK i (nV x) hlO rfl hxm ?_; refine zh (nV x) rfl ?_; refine zBZ x xr hv1 rfl hxr (fun p hp=>?_)
  refine zAB xr hp hpt ?_; refine zAK c (zB v) hxR rfl mc ?_; refine zh (zB v) rfl ?_; refine zS (v:=zB v) (AV.cells (zB v)) zA rfl rfl rfl rfl ?_; refine zCD ?_; refine zGg (tF) ?_; refine zCD ?_; refine zY (r:=W.length - 1) tO tO ?_; refine sAt ⟨by omega,by omega⟩ ?_; refine zAA (W.length - 1) (zB u) (zB u) tO hbS hum rfl ?_; refine zD (zB v) (zN zA) rfl ?_; refine zA9 ev ?_; refine zK ?_
  by_cases e : u = v
  ·rw [decide_eq_true e]
   rw [if_pos e] at hstep
   refine zK ?_; refine zY (r:=i + 1) rfl tO ?_; refine zw (i + 1,_) rfl ⟨hO.pushSet _ _,by simp only; omega, ?_⟩ (by simp only; omega)
   simp only
   rw [hstep]
   exact ho.pushSet _ _
  ·rw [decide_eq_false e]
   rw [if_neg e] at hstep
   refine zM ?_; refine zD (zB v) (zN zA) rfl ?_; refine zAu (vs':=[zB v]) rfl rfl ?_; refine zCp (H0:=H) ((ho.pushSet _ _).push _) ((hO.pushSet _ _).push _) zAn tO (by simp only [List.length_map,List.length_cons,List.length_nil]; omega) (by simp) (fun v2 H4 ho4 hO4 _ hfr=>?_)
   refine zY (r:=i + 1) rfl tO ?_; refine zw (i + 1,v2) rfl ⟨hO4,by simp only; omega, ?_⟩ (by simp only; omega)
   simp only
   rw [hstep,List.map_append]
   exact ho4
end
end Go.AM
namespace Go.AM
structure Want where
 col : Int
 op : Int
 val : Val
 deriving DecidableEq,Inhabited
section
variable {C : CSpec} {GT : Nat → Option AV}
end
end Go.AM
