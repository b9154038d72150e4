/- Several texts of mine in one (Add, Gca, Slt, Sso, Hd1). Own work. -/
import Derived.Test.YtcnogafgcfidnaaGreatDoorGCmpTwo
import Derived.Test.YtcnogafgcfidnaaGreatDoorGValStb
set_option linter.all false
namespace Go.AM
def nmV (n : Int) : Val:=⟨1,n,[]⟩
def zPb (n : Int) : Val:=⟨4,n,[]⟩
def w64 (n : Int) : Int:=IntKind.wrap .i64 n
def zCR (a b : Int) : Val:=if (decide (w64 (a + b) ≥ a) == decide (b ≥ 0)) = true then nmV (w64 (a + b)) else zPb 5
def zG0 (a b : Val) : Val:=if a.kind = 4 then a else if b.kind = 4 then b else zCR a.num b.num
def zFu (v : Val) : Prop:=v.kind = 1 ∨ v.kind = 4
section
variable {C : CSpec} {GT : Nat → Option AV}
theorem zOs (n : Int) (H : Heap) : EFun C GT zEk [zJ n] H (zB (zPb n)) H:=by
 refine zA9 (v:=[AV.int IntKind.i64 4,zJ n,AV.str []]) rfl ?_; refine zS (v:=AV.agg [AV.int IntKind.i64 4,zJ n,AV.str []]) (AV.cells (AV.agg [AV.int IntKind.i64 4,zJ n,AV.str []])) zA rfl rfl rfl rfl ?_
 exact zZ (o:=0) rfl rfl (zn (zN zA)) rfl rfl rfl (((Old.refl _).push _).set (by first | assumption | exact Nat.le_refl _ | simp | omega) _)
theorem zP8 (n : Int) (H : Heap) : EFun C GT zGp [zJ n] H (zB (nmV n)) H:=by
 refine zA9 (v:=[AV.int IntKind.i64 1,zJ n,AV.str []]) rfl ?_; refine zS (v:=AV.agg [AV.int IntKind.i64 1,zJ n,AV.str []]) (AV.cells (AV.agg [AV.int IntKind.i64 1,zJ n,AV.str []])) zA rfl rfl rfl rfl ?_
 exact zZ (o:=0) rfl rfl (zn (zN zA)) rfl rfl rfl (((Old.refl _).push _).set (by first | assumption | exact Nat.le_refl _ | simp | omega) _)
theorem zJi (v : Val) (hk : zFu v) (H : Heap) : EFun C GT zDz [zB v] H (zB v) H:=by
 refine zR ?_; refine zK5 (x:=zB v) rfl ?_; refine zD (AV.int IntKind.i64 v.kind) (zF zA) rfl ?_
 by_cases h1 : (v.kind == 1) = true
 ·refine zH (fun _=>?_) (fun h=>absurd h1 (by rw [h]; simp))
  refine zM ?_; refine zD (zB v) (zF zA) rfl ?_; refine zS (v:=zB v) (AV.cells (zB v)) zA rfl rfl rfl rfl ?_
  exact zZ (o:=0) rfl rfl (zn (zN zA)) rfl rfl rfl ((((Old.refl _).push _).push _).set (by first | assumption | exact Nat.le_refl _ | simp | omega) _)
 ·refine zH (fun h=>absurd h h1) (fun _=>?_)
  have h4 : (v.kind == 4) = true:=by rcases hk with h | h <;> simp_all
  refine zH (fun _=>?_) (fun h=>absurd h4 (by rw [h]; simp))
  refine zD (zB v) (zF zA) rfl ?_; refine zS (v:=zB v) (AV.cells (zB v)) zA rfl rfl rfl rfl ?_
  exact zZ (o:=0) rfl rfl (zn (zN zA)) rfl rfl rfl ((((Old.refl _).push _).push _).set (by first | assumption | exact Nat.le_refl _ | simp | omega) _)
theorem zIf (hN : ∀ n H,C zt [zJ n] H (zB (nmV n)) H) (hW : ∀ n H,C zAE [zJ n] H (zB (zPb n)) H) (a b : Int) (H : Heap) : EFun C GT zD0 [zJ 8,zJ a,zJ b] H (zB (zCR a b)) H:=by
 have e1 : (decide (w64 (a + b) ≥ a) == decide (b ≥ 0)) = true → zCR a b = nmV (w64 (a + b)):=fun h=>if_pos h
 have e2 : (decide (w64 (a + b) ≥ a) == decide (b ≥ 0)) = false → zCR a b = zPb 5:=fun h=>if_neg (by rw [h]; simp)
 refine zR ?_; refine zM ?_; refine zM4 (r:=w64 (a + b)) rfl ?_; refine zH (fun h=>?_) (fun h=>?_)
 ·rw [e1 h]
  refine zI (hN _ _) ?_; refine zS (v:=zB (nmV (w64 (a + b)))) (AV.cells (zB (nmV (w64 (a + b))))) zA rfl rfl rfl rfl ?_
  exact zZ (o:=0) rfl rfl (zn (zN zA)) rfl rfl rfl (((Old.refl _).push _).set (by first | assumption | exact Nat.le_refl _ | simp | omega) _)
 ·rw [e2 h]
  refine zI (hW _ _) ?_; refine zS (v:=zB (zPb 5)) (AV.cells (zB (zPb 5))) zA rfl rfl rfl rfl ?_
  exact zZ (o:=0) rfl rfl (zn (zN zA)) rfl rfl rfl (((Old.refl _).push _).set (by first | assumption | exact Nat.le_refl _ | simp | omega) _)
theorem zL6 (hB : ∀ v H,C zBG [zB v] H (.bool (v.kind == 4)) H) (hN : ∀ v,zFu v → ∀ H,C zAx [zB v] H (zB v) H)
  (hR : ∀ a b H,C zBT [zJ 8,zJ a,zJ b] H (zB (zCR a b)) H) (a b : Val) (ka : zFu a) (kb : zFu b) (H : Heap) : EFun C GT zGq [zJ 8,zB a,zB b] H (zB (zG0 a b)) H:=by
 have e1 : (a.kind == 4) = true → zG0 a b = a:=fun h=>if_pos (eq_of_beq h)
 have e2 : (a.kind == 4) = false → (b.kind == 4) = true → zG0 a b = b:=fun h h'=>(if_neg (ne_of_beq_false h)).trans (if_pos (eq_of_beq h'))
 have e3 : (a.kind == 4) = false → (b.kind == 4) = false → zG0 a b = zCR a.num b.num:=fun h h'=>(if_neg (ne_of_beq_false h)).trans (if_neg (ne_of_beq_false h'))
 refine zR ?_; refine zK5 (x:=zB a) rfl ?_; refine zK5 (x:=zB b) rfl ?_; refine zK ?_; refine zK ?_; refine zK ?_; refine zM ?_; refine zD (zB a) (zF (zF zA)) rfl ?_; refine zI (hN a ka _) ?_; refine zD (zB b) (zF zA) rfl ?_; refine zI (hN b kb _) ?_; refine zS (v:=zB a) (AV.cells (zB a)) (zF (zF zA)) rfl rfl rfl rfl ?_; refine zS (v:=zB b) (AV.cells (zB b)) (zG (by first | assumption | simp | omega) (zF zA)) rfl rfl rfl rfl ?_
 refine zD (zB a) (zG (by first | assumption | simp | omega) (zN (zF (zF zA)))) rfl ?_; refine zI (hB _ _) ?_; refine zH (fun h=>?_) (fun h=>?_)
 ·rw [e1 h]
  refine zD (zB a) (zG (by first | assumption | simp | omega) (zN (zF (zF zA)))) rfl ?_; refine zS (v:=zB a) (AV.cells (zB a)) (zG (by first | assumption | simp | omega) (zG (by first | assumption | simp | omega) zA)) rfl rfl rfl rfl ?_
  exact zZ (o:=0) rfl rfl (zn (zN (zG (by first | assumption | simp | omega) (zG (by first | assumption | simp | omega) zA)))) rfl rfl rfl (((((((Old.refl _).push _).push _).push _).set (by first | assumption | exact Nat.le_refl _ | simp | omega) _).set (by first | assumption | exact Nat.le_refl _ | simp | omega) _).set (by first | assumption | exact Nat.le_refl _ | simp | omega) _)
 refine zD (zB b) (zN (zG (by first | assumption | simp | omega) (zF zA))) rfl ?_; refine zI (hB _ _) ?_; refine zH (fun h'=>?_) (fun h'=>?_)
 ·rw [e2 h h']
  refine zD (zB b) (zN (zG (by first | assumption | simp | omega) (zF zA))) rfl ?_; refine zS (v:=zB b) (AV.cells (zB b)) (zG (by first | assumption | simp | omega) (zG (by first | assumption | simp | omega) zA)) rfl rfl rfl rfl ?_
  exact zZ (o:=0) rfl rfl (zn (zN (zG (by first | assumption | simp | omega) (zG (by first | assumption | simp | omega) zA)))) rfl rfl rfl (((((((Old.refl _).push _).push _).push _).set (by first | assumption | exact Nat.le_refl _ | simp | omega) _).set (by first | assumption | exact Nat.le_refl _ | simp | omega) _).set (by first | assumption | exact Nat.le_refl _ | simp | omega) _)
 rw [e3 h h']
 refine zM ?_; refine zD (AV.int IntKind.i64 a.num) (zG (by first | assumption | simp | omega) (zN (zF (zF zA)))) rfl ?_; refine zD (AV.int IntKind.i64 b.num) (zN (zG (by first | assumption | simp | omega) (zF zA))) rfl ?_; refine zI (hR _ _ _) ?_; refine zS (v:=zB (zCR a.num b.num)) (AV.cells (zB (zCR a.num b.num))) (zG (by first | assumption | simp | omega) (zG (by first | assumption | simp | omega) zA)) rfl rfl rfl rfl ?_
 exact zZ (o:=0) rfl rfl (zn (zN (zG (by first | assumption | simp | omega) (zG (by first | assumption | simp | omega) zA)))) rfl rfl rfl (((((((Old.refl _).push _).push _).push _).set (by first | assumption | exact Nat.le_refl _ | simp | omega) _).set (by first | assumption | exact Nat.le_refl _ | simp | omega) _).set (by first | assumption | exact Nat.le_refl _ | simp | omega) _)
theorem zOt (a b : Int) : zFu (zCR a b):=by unfold zCR; split; exact .inl rfl; exact .inr rfl
theorem zP9 {a b : Val} (ha : zFu a) (hb : zFu b) : zFu (zG0 a b):=by
 unfold zG0; split; exact ha; split; exact hb; exact zOt _ _
def zDZ (ns : List Int) : Val:=ns.foldl (fun s n=>zG0 s (nmV n)) (nmV 0)
theorem zJj (ns : List Int) (n : Int) : zDZ (ns ++ [n]) = zG0 (zDZ ns) (nmV n):=by unfold zDZ; rw [List.foldl_append]; rfl
theorem zNa (ns : List Int) : zFu (zDZ ns):=by
 unfold zDZ
 suffices H : ∀ (ns : List Int) (s : Val),zFu s → zFu (ns.foldl (fun s n=>zG0 s (nmV n)) s) from H ns _ (.inl rfl)
 intro ns
 induction ns with
 | nil=>intro s h; exact h
 | cons n ns ih=>intro s h; exact ih _ (zP9 h (.inl rfl))
def zEJ (l : List Val) : Val:=match l.find? (fun v=>v.kind == 4) with
 | some v=>v
 | none=>zDZ ((l.filter fun v=>v.kind == 1).map (·.num))
structure SSm where
 i : Nat
theorem zQA (hN : ∀ n H,C zt [zJ n] H (zB (nmV n)) H) (hT : ∀ a b,zFu a → zFu b → ∀ H,C zCq [zJ 8,zB a,zB b] H (zB (zG0 a b)) H)
  (nv : AV) (ns : List Int) (H : Heap) (hn : view H 1 nv = some (ns.map zJ)) (hl : ns.length ≤ 1000000000000) : EFun C GT zHx [nv] H (zB (zDZ ns)) H:=by
 refine zR ?_; refine zI (hN _ _) ?_; refine zS (v:=zB (nmV 0)) (AV.cells (zB (nmV 0))) zA rfl rfl rfl rfl ?_; refine zBN ns.length hn (by simp) ?_
 have hne : H.length ≠ (H ++ [ABlk.box [.int .i64 0,.int .i64 0,.str []]]).length:=by simp
 have hle : H.length ≤ (H ++ [ABlk.box [.int .i64 0,.int .i64 0,.str []]]).length:=by simp
 refine zAV (fun i : Nat=>[(9,.int .i64 i),(3,.ref (H ++ [ABlk.box [.int .i64 0,.int .i64 0,.str []]]).length 0 0 0),(7,nv),(2,.ref H.length 0 0 0),(8,.int .i64 ns.length)])
  (fun i H'=>Old H H' ∧ i ≤ ns.length ∧ H'[H.length]? = some (.box [.int .i64 0,.int .i64 0,.str []]) ∧ H'[(H ++ [ABlk.box [.int .i64 0,.int .i64 0,.str []]]).length]? = some (.box (zB (zDZ (ns.take i))).cells)) (fun i=>ns.length - i) 0 rfl
  ⟨(((Old.refl H).push _).push _).set hle _,Nat.zero_le _,zG hne.symm (zF zA),zN zA⟩ (fun i H1 ⟨hO,hi,h2,h3⟩=>?_)
 dsimp only
 refine zH (fun hlt=>?_) (fun hlt=>?_)
 ·have hlt : i < ns.length:=by have:=of_decide_eq_true hlt; omega
  have hni : ns[i]? = some ns[i]:=List.getElem?_eq_getElem hlt
  have e : zDZ (ns.take (i + 1)) = zG0 (zDZ (ns.take i)) (nmV ns[i]):=by rw [List.take_succ_eq_append_getElem hlt,zJj]
  refine zBZ i (zJ ns[i]) (zAI hO hn) rfl (by rw [List.getElem?_map,hni]; rfl) (fun p hp=>?_)
  refine zAB (zJ ns[i]) hp rfl ?_; refine zD (zB (zDZ (ns.take i))) h3 rfl ?_; refine zI (hN ns[i] _) ?_; refine zI (hT _ _ (zNa _) (.inl rfl) _) ?_; refine zDL h3 rfl rfl (Nat.le_of_ble_eq_true rfl) ?_; refine zY (r:=i + 1) rfl tO ?_
  exact zw (i + 1) rfl ⟨hO.set hle _,by omega,zG hne.symm h2,by rw [e]; exact zN h3⟩ tO
 ·have hge : i = ns.length:=by have:=of_decide_eq_false hlt; omega
  subst hge
  rw [List.take_length] at h3
  refine zD (zB (zDZ ns)) h3 rfl ?_; refine zS (v:=zB (zDZ ns)) (AV.cells (zB (zDZ ns))) h2 rfl rfl rfl rfl ?_
  exact zZ (o:=0) rfl rfl (zn (zN h2)) rfl rfl rfl (hO.set (by first | assumption | exact Nat.le_refl _ | simp | omega) _)
structure SPs where
 i : Nat
 v : AV
theorem zQ5 (hS : ∀ nv ns H,view H 1 nv = some (ns.map zJ) → ns.length ≤ 1000000000000 → C zDh [nv] H (zB (zDZ ns)) H) (lv : AV) (l : List Val) (H : Heap) (hv : view H 3 lv = some (l.map zB)) (hl : l.length ≤ 1000) :
  EFun C GT zHw [lv] H (zB (zEJ l)) H:=by
 refine zR ?_; refine zBN l.length hv (by simp) ?_; refine zAV (fun s : SPs=>[(2,.ref H.length 0 0 0),(8,.int .i64 s.i),(3,s.v),(6,lv),(7,.int .i64 l.length)])
  (fun s H'=>Old (H ++ [ABlk.box [.int .i64 0,.int .i64 0,.str []]]) H' ∧ s.i ≤ l.length ∧ Owns (H ++ [ABlk.box [.int .i64 0,.int .i64 0,.str []]]) H' s.v 1 ((((l.take s.i).filter fun v=>v.kind == 1).map (·.num)).map zJ) ∧ ∀ v ∈ l.take s.i,(v.kind == 4) = false) (fun s=>l.length - s.i) ⟨0,.lst (some true) 0 []⟩ rfl
  ⟨Old.refl _,Nat.zero_le _,Owns.nil _ _ _,fun v h=>by simp at h⟩ (fun ⟨i,v⟩ H1 ⟨hOz,hi,hown,hnb⟩=>?_)
 simp only at hi hown hnb
 have hO : Old H H1:=((Old.refl H).push _).trans hOz
 have h2 : H1[H.length]? = some (.box [.int .i64 0,.int .i64 0,.str []]):=zBx hOz zA
 have hlen : H.length < H1.length:=by have:=hOz.1; simp at this; omega
 dsimp only
 refine zH (fun hlt=>?_) (fun hlt=>?_)
 ·have hlt : i < l.length:=by have:=of_decide_eq_true hlt; omega
  have hli : l[i]? = some l[i]:=List.getElem?_eq_getElem hlt
  obtain ⟨x,hx⟩ : ∃ x,l[i] = x:=⟨_,rfl⟩
  rw [hx] at hli
  have htk : l.take (i + 1) = l.take i ++ [x]:=by rw [List.take_succ_eq_append_getElem hlt,hx]
  refine zBZ i (zB x) (zAI hO hv) rfl (by rw [List.getElem?_map,hli]; rfl) (fun p hp=>?_)
  refine zAB (zB x) hp rfl ?_
  have hlt2 : H1.length ≠ H.length:=by omega
  refine zS (v:=zB x) (AV.cells (zB x)) zA rfl rfl rfl rfl ?_; refine zD (AV.int IntKind.i64 x.kind) (zN zA) rfl ?_; refine zH (fun hb=>?_) (fun hb=>?_)
  ·have e : zEJ l = x:=by
    unfold zEJ
    have : l.find? (fun v=>v.kind == 4) = some x:=by
     rw [← List.take_append_drop i l,List.find?_append,List.find?_eq_none.2 (fun v hv=>by rw [hnb v hv]; simp),zGf hli]
     simp [hb]
    rw [this]
   rw [e]
   refine zD (zB x) (zN zA) rfl ?_; refine zS (v:=zB x) (AV.cells (zB x)) (zG (by first | assumption | simp | omega) (zF h2)) rfl rfl rfl rfl ?_
   exact zZ (o:=0) rfl rfl (zn (zN (zG (by first | assumption | simp | omega) (zF h2)))) rfl rfl rfl (((hO.push _).set (by first | assumption | exact Nat.le_refl _ | simp | omega) _).set (by first | assumption | exact Nat.le_refl _ | simp | omega) _)
  ·have hnb2 : ∀ v ∈ l.take (i + 1),(v.kind == 4) = false:=fun v hv=>by
    rw [htk] at hv
    rcases List.mem_append.1 hv with hv | hv
    ·exact hnb v hv
    ·rw [List.mem_singleton.1 hv]; exact hb
   refine zH (fun hb1=>?_) (fun hb1=>?_)
   ·have e : (((l.take (i + 1)).filter fun v=>v.kind == 1).map (·.num)).map zJ = (((l.take i).filter fun v=>v.kind == 1).map (·.num)).map zJ ++ [zJ x.num]:=by
     rw [htk]; simp [hb1]
    refine zD (AV.int IntKind.i64 x.num) (zN zA) rfl ?_; refine zAu (vs':=[AV.int IntKind.i64 x.num]) rfl rfl ?_; refine zCp (H0:=H ++ [ABlk.box [.int .i64 0,.int .i64 0,.str []]]) ((hown.pushSet _ _).push _) ((hOz.pushSet _ _).push _) zAn tO ?_ (by simp) (fun v' H' ho' hO' hblk hfr=>?_)
    ·have:=List.length_filter_le (fun v : Val=>v.kind == 1) (l.take i)
     simp only [List.length_map,List.length_cons,List.length_nil] at this ⊢
     rw [List.length_take] at this; omega
    refine zY (r:=i + 1) rfl tO ?_
    exact zw (SPs.mk (i + 1) v') rfl ⟨hO',by simp only; omega,by simp only [e]; exact ho',hnb2⟩ (by simp only; omega)
   ·have e : (((l.take (i + 1)).filter fun v=>v.kind == 1).map (·.num)).map zJ = (((l.take i).filter fun v=>v.kind == 1).map (·.num)).map zJ:=by
     rw [htk]; simp [hb1]
    refine zY (r:=i + 1) rfl tO ?_
    exact zw (SPs.mk (i + 1) v) rfl ⟨hOz.pushSet _ _,by simp only; omega,by simp only [e]; exact hown.pushSet _ _,hnb2⟩ (by simp only; omega)
 ·have hge : i = l.length:=by have:=of_decide_eq_false hlt; omega
  subst hge
  rw [List.take_length] at hown hnb
  have e : zEJ l = zDZ ((l.filter fun v=>v.kind == 1).map (·.num)):=by
   unfold zEJ
   rw [List.find?_eq_none.2 (fun v hv=>by rw [hnb v hv]; simp)]
  have hs:=hS v _ H1 hown.view (by rw [List.length_map]; exact Nat.le_trans (List.length_filter_le _ _) tO)
  obtain ⟨w,hw⟩ : ∃ w,zDZ ((l.filter fun v=>v.kind == 1).map (·.num)) = w:=⟨_,rfl⟩
  rw [hw] at hs e
  rw [e]
  refine zI hs ?_; refine zS (v:=zB w) (AV.cells (zB w)) h2 rfl rfl rfl rfl ?_
  exact zZ (o:=0) rfl rfl (zn (zN h2)) rfl rfl rfl (hO.set (by first | assumption | exact Nat.le_refl _ | simp | omega) _)
end
end Go.AM
namespace Go.AM
section
variable {C : CSpec} {GT : Nat → Option AV}
def zb (t : List Row) (c : Int) (i : Nat) : Val:=(t.getD i []).getD c.toNat default
end
end Go.AM
set_option maxRecDepth 20000
namespace Go.AM
section
variable {C : CSpec} {GT : Nat → Option AV}
def zJk (cmp : Nat → Nat → Int) (x y : Nat) : Bool:=decide (cmp x y < 0)
end
end Go.AM
namespace Go.AM
section
variable {C : CSpec} {GT : Nat → Option AV}
def zBn (t : List Row) (ks : List Key) : Nat → Nat → Bool:=zJk (zP5 t ks)
theorem zGC (t : List Row) (ks : List Key) : LtOK (zBn t ks):=zP4 (zP6 t ks)
def zHL (t : List Row) (ks : List Key) : List Nat:=zL4 (zBn t ks) t.length
end
end Go.AM
namespace Go.AM
def zJl (t : List Row) (c : Int) : List Val:=(List.range t.length).map (zb t c)
def zp (t : List Row) (c : Int) : List Val:=zE (zAq (zJl t c))
def zOu (t : List Row) (by_ over : Int) (x y : Val) (n : Nat) : List Nat:=(List.range n).filter fun r=>decide (zb t by_ r = x) && decide (zb t over r = y)
def zJy (t : List Row) (by_ over col : Int) (x y : Val) (n : Nat) : List Val:=(zOu t by_ over x y n).map (zb t col)
def zHM (t : List Row) (by_ over col : Int) (x : Val) (l : List Val) : List Val:=l.map fun y=>zEJ (zJy t by_ over col x y t.length)
def zEt (t : List Row) (by_ over col : Int) (a b : List Val) : List (List Val):=a.map fun x=>zHM t by_ over col x b
theorem zJm (t : List Row) (by_ over col : Int) (x y : Val) (n : Nat) : zJy t by_ over col x y (n + 1) = if zb t by_ n = x ∧ zb t over n = y then zJy t by_ over col x y n ++ [zb t col n] else zJy t by_ over col x y n:=by
 unfold zJy zOu
 rw [List.range_succ,List.filter_append,List.map_append]
 by_cases e1 : zb t by_ n = x <;> by_cases e2 : zb t over n = y <;> simp [e1,e2]
theorem zLD (t : List Row) (by_ over col : Int) (x y : Val) (n : Nat) : (zJy t by_ over col x y n).length ≤ n:=by
 unfold zJy zOu
 rw [List.length_map]
 have:=List.length_filter_le (fun r=>decide (zb t by_ r = x) && decide (zb t over r = y)) (List.range n)
 rwa [List.length_range] at this
theorem zDi (t : List Row) (c : Int) : (zp t c).length ≤ t.length:=by
 unfold zp
 have h1:=zFf (zAq (zJl t c))
 rw [(zBO (zJl t c)).length_eq] at h1
 have h2 : (zJl t c).length = t.length:=by unfold zJl; simp
 omega
theorem zH1 (t : List Row) (c : Int) (x y : Nat) : zBn t (zCg [c]) x y = decide (zEq (zb t c x) (zb t c y) < 0):=by
 have e : zP5 t (zCg [c]) x y = zEq (zb t c x) (zb t c y):=by
  unfold zP5 zCg zb
  show (if (zId (t.getD x []) (t.getD y []) ⟨c,false⟩ != 0) = true then zId (t.getD x []) (t.getD y []) ⟨c,false⟩ else 0) = _
  have : zId (t.getD x []) (t.getD y []) ⟨c,false⟩ = zEq ((t.getD x []).getD c.toNat default) ((t.getD y []).getD c.toNat default):=by unfold zId; rw [if_neg (by simp)]
  rw [this]
  split
  ·rfl
  ·rename_i h; simp only [bne_iff_ne,ne_eq,Decidable.not_not] at h; exact h.symm
 unfold zBn
 show decide (zP5 t (zCg [c]) x y < 0) = _
 rw [e]
theorem zL7 (t : List Row) (c : Int) : (zHL t (zCg [c])).map (zb t c) = zAq (zJl t c):=by
 have hp : (zHL t (zCg [c])).Perm (List.range t.length):=zCh (zBn t (zCg [c])) t.length
 have hs : (zHL t (zCg [c])).Pairwise (Bef (zBn t (zCg [c]))):=zCx (zGC t (zCg [c])) t.length
 refine zLB (hp.map _) ?_
 rw [List.pairwise_map]
 refine hs.imp fun {x y} h=>?_
 unfold leW
 rw [decide_eq_true_eq]
 rcases h with h | ⟨h,_⟩
 ·rw [zH1,decide_eq_true_eq] at h; omega
 ·rw [zH1,decide_eq_false_iff_not] at h
  have:=zAi.anti (zb t c x) (zb t c y)
  omega
end Go.AM
