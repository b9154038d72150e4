/- Several texts of mine in one (Fp1, Bu1, Bu0, Bun, Cw1). Own work. -/
import Derived.Test.YtmiknjjfgndddaaDoorGAm29Fp0
import Derived.Test.YtmiknjjfgndddaaDoorGErrAm27
import Derived.Test.YtmiknjjfgndddaaDoorGAm22Fc
set_option linter.all false
set_option maxRecDepth 20000
namespace Go.AM
structure Agree (s : Bs) (q r : Ps) (K : Nat) : Prop where
 one : ∀ a d,a ≤ s.length → 4 * (s.length - a) + 1 ≤ K → q.one a d = r.one a d
 loose : ∀ l a d,a ≤ s.length → 4 * (s.length - a) + 2 ≤ K → q.loose l a d = r.loose l a d
 ll : ∀ l n a d,a ≤ s.length → 4 * (s.length - a) + 1 ≤ K → q.ll l n a d = r.ll l n a d
 args : ∀ nm ks a d,a ≤ s.length → 4 * (s.length - a) + 3 ≤ K → q.args nm ks a d = r.args nm ks a d
def fuelP (s : Bs) : Nat:=4 * s.length + 3
def P (s : Bs) : Ps:=ps s (fuelP s + 1)
end Go.AM
set_option maxRecDepth 20000
namespace Go.AM
def zEf (H0 H : Heap) (v : AV) (u : Bs) : Prop:=(v = .lst (some true) 0 [] ∧ u = []) ∨ ∃ d,v = .sl (some true) d 1 0 u.length ∧ H0.length ≤ d ∧ H[d]? = some (.row 1 (u.map zG)) ∧ H[d + 1]? = some (.ty d zq) ∧ u ≠ []
def BAt (H0 H : Heap) (b : Nat) (u : Bs) : Prop:=H0.length ≤ b ∧ H[b + 1]? = some (.shp b zA 2) ∧ ∃ a v,H[b]? = some (.box [a,v]) ∧ zEf H0 H v u ∧ (a = .ref b 0 0 0 ∨ a = .nilp)
def BFz (H0 H : Heap) (b : Nat) (u : Bs) : Prop:=H0.length ≤ b ∧ H[b + 1]? = some (.shp b zA 2) ∧ ∃ (a : AV) (d h : Nat),H[b]? = some (.box [a,.sl (some true) d 1 0 u.length]) ∧ H[d]? = some (.frz 1 (u.map zG)) ∧ H[h]? = some (.hd d zq u.length) ∧ u ≠ []
def KpB (b : Nat) (H H' : Heap) : Prop:=H.length ≤ H'.length ∧ ∀ c x,c ≠ b → (∀ xs,x ≠ .row 1 xs) → H[c]? = some x → H'[c]? = some x
def BTo (H0 H H' : Heap) (b : Nat) (u : Bs) : Prop:=BAt H0 H' b u ∧ Old H0 H' ∧ KpB b H H'
theorem KpB.refl (b : Nat) (H : Heap) : KpB b H H:=⟨Nat.le_refl _,fun _ _ _ _ h=>h⟩
theorem KpB.trans {b : Nat} {H H1 H2 : Heap} (h : KpB b H H1) (k : KpB b H1 H2) : KpB b H H2:=⟨Nat.le_trans h.1 k.1,fun c x hc hx h'=>k.2 c x hc hx (h.2 c x hc hx h')⟩
theorem KpB.push {b : Nat} {H H1 : Heap} (h : KpB b H H1) (x : ABlk) : KpB b H (H1 ++ [x]):=⟨by rw [List.length_append]; have:=h.1; omega,fun c y hc hy h'=>zM (h.2 c y hc hy h')⟩
theorem KpB.setB {b : Nat} {H H1 : Heap} (h : KpB b H H1) (y : ABlk) : KpB b H (H1.set b y):=⟨by rw [List.length_set]; exact h.1,fun d x hd hx h'=>zV (fun e=>hd e.symm) (h.2 d x hd hx h')⟩
theorem BTo.trans {H0 H H1 H2 : Heap} {b : Nat} {u u' : Bs} (h : BTo H0 H H1 b u) (k : BTo H0 H1 H2 b u') : BTo H0 H H2 b u':=⟨k.1,k.2.1,h.2.2.trans k.2.2⟩
theorem zEf.keep {H0 H H' : Heap} {v : AV} {u : Bs} (h : zEf H0 H v u) (k : ∀ (c : Nat) (x : ABlk),(x = ABlk.row 1 (u.map zG) ∨ ∃ d,x = ABlk.ty d zq) → H[c]? = some x → H'[c]? = some x) : zEf H0 H' v u:=by
 rcases h with h | ⟨d,h1,h2,h3,h4,h5⟩
 ·exact .inl h
 ·exact .inr ⟨d,h1,h2,k _ _ (.inl rfl) h3,k _ _ (.inr ⟨d,rfl⟩) h4,h5⟩
theorem zEf.push {H0 H : Heap} {v : AV} {u : Bs} (h : zEf H0 H v u) (x : ABlk) : zEf H0 (H ++ [x]) v u:=h.keep fun _ _ _ h=>zM h
theorem zEf.setBox {H0 H : Heap} {v : AV} {u : Bs} (h : zEf H0 H v u) {c : Nat} {cs : List AV} (hc : H[c]? = some (.box cs)) (x : ABlk) : zEf H0 (H.set c x) v u:=h.keep fun e y hy h=>zV (fun he=>by
 rw [he,h] at hc
 rcases hy with rfl | ⟨d,rfl⟩ <;> cases hc) h
theorem zEf.one {H0 H : Heap} {v : AV} {u : Bs} (h : zEf H0 H v u) : v.cells = [v] ∧ v.one = true:=by
 rcases h with ⟨rfl,_⟩ | ⟨d,rfl,_⟩ <;> exact ⟨rfl,rfl⟩
theorem zEf.row {H0 H : Heap} {v : AV} {u : Bs} (h : zEf H0 H v u) {b : Nat} (hb : v.blk = some b) : ∃ ys,H[b]? = some (.row 1 ys):=by
 rcases h with ⟨rfl,_⟩ | ⟨d,rfl,_,h,_⟩
 ·cases hb
 ·simp only [AV.blk,Option.some.injEq] at hb
  subst hb
  exact ⟨_,h⟩
theorem BAt.push {H0 H : Heap} {b : Nat} {u : Bs} (h : BAt H0 H b u) (x : ABlk) : BAt H0 (H ++ [x]) b u:=by
 obtain ⟨h0,hs,a,v,hb,hw,ha⟩:=h
 exact ⟨h0,zM hs,a,v,zM hb,hw.push _,ha⟩
theorem BFz.keep {H0 H H' : Heap} {b : Nat} {u : Bs} (h : BFz H0 H b u) (hb : ∀ x,H[b]? = some x → H'[b]? = some x) (k : ∀ (c : Nat) (x : ABlk),(∀ cs,x ≠ ABlk.box cs) → H[c]? = some x → H'[c]? = some x) : BFz H0 H' b u:=by
 obtain ⟨h0,hs,a,d,e,h1,h2,h3,h4⟩:=h
 exact ⟨h0,k _ _ (fun _ e=>by cases e) hs,a,d,e,hb _ h1,k _ _ (fun _ e=>by cases e) h2,k _ _ (fun _ e=>by cases e) h3,h4⟩
section
variable {C : CSpec} {GT : Nat → Option AV}
abbrev bR (b : Nat) : AV:=.ref b 0 0 0
def zIi : AF:={ ze with keep:=true }
def zIj : AF:={ zZ with keep:=true }
def appV (t : Nat) (s : Bool) (x : AV) (ys : List AV) (H : Heap) : Option (AV × Heap):=match x with
 | .lst (some true) _ _=>if s = true ∧ ys.isEmpty = true then some (x,H) else if ys.isEmpty = false ∧ ys.length ≤ 140737488355328 then some (.sl (some true) H.length 1 0 ys.length,H ++ [.row 1 ys] ++ [.ty H.length t]) else none
 | .sl q b k' off len=>if s = true ∧ ys.isEmpty = true then some (x,H) else match H[b]?,H[b + 1]? with
  | some (.row k'' xs),some (.ty b' t')=>if ys.isEmpty = false ∧ k' = 1 ∧ k'' = 1 ∧ b' = b ∧ t' = t ∧ off = 0 ∧ len ≤ xs.length ∧ len + ys.length ≤ 140737488355328 then
    some (.sl q H.length 1 0 (len + ys.length),H.set b .dead ++ [.row 1 (xs.take len ++ ys)] ++ [.ty H.length t]) else none
  | _,_=>none
 | _=>none
def zIk (s : Bool) (y : AV) (H : Heap) : Option (List AV):=match s with
 | true=>(match y with
  | .str z=>some (z.map zG)
  | _=>none)
 | false=>view H 1 y
theorem zFT (y : AV) (H : Heap) : zIk false y H = view H 1 y:=rfl
theorem zBL {t : Nat} {s : Bool} {x y : AV} {H : Heap} {ys : List AV} (hy : zIk s y H = some ys) : astep (.appT t s) [x,y] H = appV t s x ys H:=by
 cases s with
 | false=>
  have hy : view H 1 y = some ys:=hy
  simp only [astep,Bool.false_eq_true,if_false,hy]
  rfl
 | true=>
  cases y with
  | str z=>
   have hy : some (z.map zG) = some ys:=hy
   cases hy
   rfl
  | _=>cases hy
theorem zKr {H0 H : Heap} {v y : AV} {u t : Bs} {sb : Bool} {K : AV → Heap → Prop} (ho : zEf H0 H v u) (hH : Old H0 H) (hy : zIk sb y H = some (t.map zG)) (hl : u.length + t.length ≤ 140737488355328) (ht : sb = true ∨ t ≠ [])
  (q : ∀ v' H',zEf H0 H' v' (u ++ t) → Old H0 H' → H.length ≤ H'.length → (∀ c x,v.blk ≠ some c → H[c]? = some x → H'[c]? = some x) → K v' H') : actP (.appT zq sb) [v,y] H K:=by
 have hlt : (t.map zG).length = t.length:=List.length_map _
 have hie : (t.map zG).isEmpty = t.isEmpty:=by cases t <;> rfl
 by_cases he : t = []
 ·subst he
  have hs : sb = true:=ht.resolve_right fun h=>h rfl
  refine zH7 (v:=v) (H':=H) ?_ (q v H (by simpa using ho) hH (Nat.le_refl _) fun c y _ h=>h)
  rcases ho with ⟨rfl,rfl⟩ | ⟨d,rfl,_⟩
  ·rw [zBL hy]; exact if_pos ⟨hs,rfl⟩
  ·rw [zBL hy]; exact if_pos ⟨hs,rfl⟩
 have hne : t.isEmpty = false:=by simpa using he
 rcases ho with ⟨rfl,rfl⟩ | ⟨d,rfl,h1,h2,h3,h4⟩
 ·simp only [List.length_nil,Nat.zero_add] at hl
  refine zH7 (v:=.sl (some true) H.length 1 0 t.length) (H':=H ++ [.row 1 (t.map zG)] ++ [.ty H.length zq]) ?_ ?_
  ·rw [zBL hy]
   simp only [appV,hie,hne,hlt]
   rw [if_neg (by simp),if_pos ⟨trivial,hl⟩]
  ·refine q _ _ (.inr ⟨_,rfl,hH.1,zM zc, ?_,he⟩) ((hH.push _).push _) (by simp) fun _ _ _ hx=>zM (zM hx)
   have:=@zc (H ++ [.row 1 (t.map zG)]) (.ty H.length zq)
   rwa [List.length_append] at this
 ·refine zH7 (v:=.sl (some true) H.length 1 0 (u.length + t.length)) (H':=H.set d .dead ++ [.row 1 (u.map zG ++ t.map zG)] ++ [.ty H.length zq]) ?_ ?_
  ·rw [zBL hy]
   simp only [appV,hie,hne,hlt,h2,h3]
   rw [if_neg (by simp),if_pos ⟨trivial,trivial,trivial,trivial,trivial,trivial,by simp,hl⟩]
   rw [List.take_of_length_le (by simp)]
  ·have hsl : (H.set d ABlk.dead).length = H.length:=List.length_set
   refine q _ _ (.inr ⟨H.length,by rw [List.length_append],hH.1, ?_, ?_,by simp [he]⟩) (((hH.set h1 _).push _).push _) (by simp) fun c x hc hx=>zM (zM (zV (fun e=>hc (by rw [e]; rfl)) hx))
   ·rw [← hsl,List.map_append]; exact zM zc
   ·have:=@zc (H.set d .dead ++ [.row 1 (u.map zG ++ t.map zG)]) (.ty H.length zq)
    rwa [List.length_append,hsl] at this
theorem zJw {F : AF} {H0 H H1 H' : Heap} {fr : Fr} {b : Nat} {v v' r : AV} {u' : Bs} (hs1 : H1[b + 1]? = some (.shp b zA 2)) (hk1 : KpB b H H1) (hb2 : H'[b]? = some (.box [.ref b 0 0 0,v])) (ho' : zEf H0 H' v' u') (hO' : Old H0 H')
  (hf : ∀ c x,c ≠ b → (∀ xs,x ≠ .row 1 xs) → H1[c]? = some x → H'[c]? = some x) (hl : H1.length ≤ H'.length) (h0 : H0.length ≤ b) (hk : F.keep = true) (hr : (zAA fr (H'.set b (.box [.ref b 0 0 0,v'])) F.results).map tupled = some r) :
  retQ F H fr (H'.set b (.box [.ref b 0 0 0,v'])) (fun x H'=>x = r ∧ BTo H0 H H' b u'):=by
 have hbl:=(zg hb2).1
 refine sRetQ (sRetK hk hr) ⟨rfl,⟨h0,zV tO (hf _ _ tO (fun _ e=>by cases e) hs1),_,v',List.getElem?_set_self hbl,ho'.setBox hb2 _,.inl rfl⟩,hO'.set h0 _, ?_⟩
 exact ⟨by rw [List.length_set]; exact Nat.le_trans hk1.1 hl,fun c x hc hx h=>zV (fun e=>hc e.symm) (hf c x hc hx (hk1.2 c x hc hx h))⟩
def CkB (C : CSpec) : Prop:=∀ b a v H,H[b]? = some (.box [a,v]) → H[b + 1]? = some (.shp b zA 2) → (a = .ref b 0 0 0 ∨ a = .nilp) → C zI [bR b] H (.tup []) (H.set b (.box [.ref b 0 0 0,v]))
theorem zJc (hC : CkB C) (H0 : Heap) (b : Nat) (u : Bs) (c : UInt8) (H : Heap) (hB : BAt H0 H b u) (hO : Old H0 H) (hl : u.length ≤ 1000000) : zHL C GT zIi [bR b,zG c] H (fun v H'=>v = .nili ∧ BTo H0 H H' b (u ++ [c])):=by
 obtain ⟨h0,hs,a,v,hb,hw,ha⟩:=hB
 have hbl:=(zg hb).1
 have hc:=hC b a v H hb hs ha
 obtain ⟨H1,e1⟩ : ∃ H1,H.set b (.box [.ref b 0 0 0,v]) = H1:=⟨_,rfl⟩
 have hb1 : H1[b]? = some (.box [.ref b 0 0 0,v]):=by rw [← e1]; exact List.getElem?_set_self hbl
 have hs1 : H1[b + 1]? = some (.shp b zA 2):=by rw [← e1]; exact zV tO hs
 have hw1 : zEf H0 H1 v u:=by rw [← e1]; exact hw.setBox hb _
 have hO1 : Old H0 H1:=by rw [← e1]; exact hO.set h0 _
 have hk1 : KpB b H H1:=by rw [← e1]; exact (KpB.refl b H).setB _
 rw [e1] at hc
 clear hC e1
 unfold zHL
 refine z6 hc (fun h=>nomatch h) ?_; refine zCj v hb1 rfl ?_; refine zFv (vs':=[zG c]) rfl rfl ?_; refine zKr (t:=[c]) (H0:=H0) (hw1.push _) (hO1.push _) ((zFT _ _).trans zEK) (by simp; omega) (.inr (by simp)) fun v' H' ho' hO' hlt hf=>?_
 have hnr : ∀ {d : Nat} {x : ABlk},(∀ xs,x ≠ .row 1 xs) → H1[d]? = some x → v.blk ≠ some d:=fun hx h e=>by
  obtain ⟨ys,hy⟩:=hw1.row e
  rw [h] at hy
  exact hx _ (Option.some.inj hy)
 have hb2:=hf b _ (hnr (fun _ e=>by cases e) hb1) (zM hb1)
 rw [List.length_append] at hlt
 refine zIf (v:=v') [.ref b 0 0 0,v'] hb2 (congrArg List.length ho'.one.1) ((congrArg (fun l=>List.all l AV.one) ho'.one.1).trans (by simp [ho'.one.2])) rfl (congrArg (splice [AV.ref b 0 0 0,v] 1) ho'.one.1) ?_
 exact zJw hs1 hk1 hb2 ho' hO' (fun d x hd hx h=>hf d x (hnr hx h) (zM h)) (by simp at hlt; omega) h0 rfl rfl
theorem zIl (hC : CkB C) (H0 : Heap) (b : Nat) (u t : Bs) (H : Heap) (hB : BAt H0 H b u) (hO : Old H0 H) (hl : u.length + t.length ≤ 100000000) : zHL C GT zIj [bR b,.str t] H (fun v H'=>v = .tup [zHa t.length,.nili] ∧ BTo H0 H H' b (u ++ t)):=by
 obtain ⟨h0,hs,a,v,hb,hw,ha⟩:=hB
 have hbl:=(zg hb).1
 have hc:=hC b a v H hb hs ha
 obtain ⟨H1,e1⟩ : ∃ H1,H.set b (.box [.ref b 0 0 0,v]) = H1:=⟨_,rfl⟩
 have hb1 : H1[b]? = some (.box [.ref b 0 0 0,v]):=by rw [← e1]; exact List.getElem?_set_self hbl
 have hs1 : H1[b + 1]? = some (.shp b zA 2):=by rw [← e1]; exact zV tO hs
 have hw1 : zEf H0 H1 v u:=by rw [← e1]; exact hw.setBox hb _
 have hO1 : Old H0 H1:=by rw [← e1]; exact hO.set h0 _
 have hk1 : KpB b H H1:=by rw [← e1]; exact (KpB.refl b H).setB _
 rw [e1] at hc
 clear hC e1
 unfold zHL
 refine z6 hc (fun h=>nomatch h) ?_; refine zCj v hb1 rfl ?_; refine zKr (t:=t) (H0:=H0) hw1 hO1 rfl tO (.inl rfl) fun v' H' ho' hO' hlt hf=>?_
 have hnr : ∀ {d : Nat} {x : ABlk},(∀ xs,x ≠ .row 1 xs) → H1[d]? = some x → v.blk ≠ some d:=fun hx h e=>by
  obtain ⟨ys,hy⟩:=hw1.row e
  rw [h] at hy
  exact hx _ (Option.some.inj hy)
 have hb2:=hf b _ (hnr (fun _ e=>by cases e) hb1) hb1
 refine zIf (v:=v') [.ref b 0 0 0,v'] hb2 (congrArg List.length ho'.one.1) ((congrArg (fun l=>List.all l AV.one) ho'.one.1).trans (by simp [ho'.one.2])) rfl (congrArg (splice [AV.ref b 0 0 0,v] 1) ho'.one.1) ?_
 exact zJw hs1 hk1 hb2 ho' hO' (fun d x hd hx h=>hf d x (hnr hx h) h) hlt h0 rfl rfl
end
end Go.AM
set_option maxRecDepth 20000
namespace Go.AM
section
variable {C : CSpec} {GT : Nat → Option AV}
def WbH (C : CSpec) : Prop:=∀ H0 b u c H,BAt H0 H b u → Old H0 H → u.length ≤ 1000000 → ∃ H',C zH [bR b,zG c] H .nili H' ∧ BTo H0 H H' b (u ++ [c])
end
end Go.AM
set_option maxRecDepth 20000
namespace Go.AM
section
variable {C : CSpec} {GT : Nat → Option AV}
theorem BAt.fresh {H0 H : Heap} (h : Old H0 H) : BAt H0 ((H ++ [.box [.nilp,.lst (some true) 0 []]]) ++ [.shp H.length zA 2]) H.length []:=by
 refine ⟨h.1, ?_,.nilp,.lst (some true) 0 [],zM zc,.inl ⟨rfl,rfl⟩,.inr rfl⟩
 have:=@zc (H ++ [.box [.nilp,.lst (some true) 0 []]]) (.shp H.length zA 2)
 rwa [List.length_append] at this
def St1H (C : CSpec) : Prop:=∀ H0 b u H,BAt H0 H b u → Old H0 H → u ≠ [] → ∃ H',C zK [bR b] H (.str u) H' ∧ BFz H0 H' b u ∧ Old H0 H' ∧ H.length ≤ H'.length
end
end Go.AM
set_option maxRecDepth 20000
namespace Go.AM
def WtL (C : CSpec) : Prop:=∀ H0 b u t H,BAt H0 H b u → Old H0 H → u.length + t.length ≤ 100000000 → ∃ H',C zJ [bR b,.str t] H (.tup [zHa t.length,.nili]) H' ∧ BTo H0 H H' b (u ++ t)
def LnH (C : CSpec) : Prop:=∀ H0 b u H,BAt H0 H b u → u.length ≤ 100000000 → C zP [bR b] H (zHa u.length) H
def AnyH (C : CSpec) : Prop:=∀ (f : Fld) H,f.length ≤ 1048576 → C zi [.str f,.str [44,34,10,13]] H (.bool (f.any zEl)) H
def RepH (C : CSpec) : Prop:=∀ (f : Fld) H,f.length ≤ 1048576 → C zb [.str f,.str [34],.str [34,34]] H (.str (zCa f)) H
def zBV (H0 : Heap) (va : AV) (t : List (List Fld)) : Prop:=zCX [va] = true ∧ (∀ K : Int → Prop,K ((t.length : Nat) : Int) → lenP va K) ∧ ∀ i r,t[i]? = some r → ∃ x,zB5 x 1 (r.map AV.str) ∧ ∀ (H : Heap) (K : AV → Prop),Old H0 H → (∀ p,(∀ K2 : AV → Prop,K2 x → loadN 1 false p H K2) → K p) → idxN 1 va ((i : Nat) : Int) K
theorem zBV.of {va : AV} {t : List (List Fld)} (h : zBU va t) (H0 : Heap) : zBV H0 va t:=by
 obtain ⟨xs,hv,hxl,hxr⟩:=h
 refine ⟨by obtain ⟨q,k,rfl,_⟩:=hv; rfl,fun K hk=>zA7 t.length hv hxl hk,fun i r hr=>?_⟩
 obtain ⟨x,hx,hxo⟩:=hxr i r hr
 exact ⟨x,hxo,fun H K _ hk=>zEL i x hv rfl hx (hk _ fun K2 h2=>zB4 x (by rw [hxo.cells]; rfl) h2)⟩
def St0H (C : CSpec) : Prop:=∀ H0 b H,BAt H0 H b [] → C zK [bR b] H (.str []) H
def cwV (t : List (List Fld)) : AV:=.tup [.str (zKZ t),if zF4 t = 0 then .nili else zHZ (zF4 t)]
theorem zJd {t : List (List Fld)} {i : Nat} (h : t[i]? = some []) : cwV t = .tup [.str [],zHZ 3]:=by
 have e : zF4 t = 3:=by
  unfold zF4
  rw [if_pos (List.any_eq_true.2 ⟨[],List.mem_of_getElem? h,rfl⟩)]
 unfold cwV zKZ
 rw [e]; rfl
theorem zIm {t : List (List Fld)} (h0 : ∀ r ∈ t,r ≠ []) (h : 4000 < (z2 t).length) : cwV t = .tup [.str [],zHZ 4]:=by
 have e : zF4 t = 4:=by
  unfold zF4
  rw [if_neg (fun h=>by obtain ⟨r,h1,h2⟩:=List.any_eq_true.1 h; exact h0 r h1 (of_decide_eq_true h2)),if_pos h]
 unfold cwV zKZ
 rw [e]; rfl
theorem cw_ok {t : List (List Fld)} (h0 : ∀ r ∈ t,r ≠ []) (h : ¬ 4000 < (z2 t).length) : cwV t = .tup [.str (z2 t),.nili]:=by
 have e : zF4 t = 0:=by
  unfold zF4
  rw [if_neg (fun h=>by obtain ⟨r,h1,h2⟩:=List.any_eq_true.1 h; exact h0 r h1 (of_decide_eq_true h2)),if_neg h]
 unfold cwV zKZ
 rw [e]; rfl
theorem zHN {r : List Fld} {k : Nat} {f : Fld} (one : Bool) (h : r[k]? = some f) : za one true (r.take (k + 1)) = (za one true (r.take k) ++ (if k = 0 then [] else [44])) ++ zBl one f:=by
 have e : r.take (k + 1) = r.take k ++ [f]:=by rw [List.take_add_one,h]; rfl
 rw [e,zDQ,← List.append_assoc]
 by_cases hk : k = 0
 ·subst hk
  rw [if_pos ⟨rfl,rfl⟩,if_pos rfl]
 ·have hl:=(zg h).1
  have hn : r.take k ≠ []:=by
   intro e
   have:=congrArg List.length e
   rw [List.length_take,List.length_nil] at this
   omega
  rw [if_neg (fun h=>hn h.2),if_neg hk]
theorem zIn {t : List (List Fld)} {i : Nat} {r : List Fld} (h : t[i]? = some r) : z2 (t.take (i + 1)) = (z2 (t.take i) ++ za (decide (r.length = 1)) true r) ++ [10]:=by
 have e : t.take (i + 1) = t.take i ++ [r]:=by rw [List.take_add_one,h]; rfl
 rw [e,zFR,List.append_assoc]; rfl
theorem zGb {f : Fld} {one : Bool} (h : f = []) (h1 : one = true) : zJu one f = true:=by subst h; subst h1; rfl
theorem zGc {f : Fld} {one : Bool} (h : f = []) (h1 : one = false) : zBl one f = f:=by subst h; subst h1; rfl
theorem zGd {f : Fld} {one : Bool} (h : f ≠ []) : zJu one f = f.any zEl:=by
 unfold zJu
 rw [decide_eq_false h]; rfl
theorem zFU {f : Fld} {one : Bool} (h : zJu one f = true) : ([34] ++ zCa f) ++ [34] = zBl one f:=by
 unfold zBl
 rw [if_pos h]; rfl
theorem zJe {f : Fld} {one : Bool} (h : zJu one f = false) : zBl one f = f:=by
 unfold zBl
 rw [if_neg (by rw [h]; decide)]
section
variable {C : CSpec} {GT : Nat → Option AV} {H0 : Heap}
theorem zKN (b : Nat) (u : Bs) (H : Heap) (hB : BAt H0 H b u) (hl : u.length ≤ 100000000) : EFun C GT zw [bR b] H (zHa u.length) H:=by
 obtain ⟨h0,hs,a,v,hb,hw,ha⟩:=hB
 refine zF2 ?_
 rcases hw with ⟨rfl,rfl⟩ | ⟨d,rfl,h1,h2,h3,h4⟩
 ·refine zCj (.lst (some true) 0 []) hb rfl ?_; refine zKh ?_
  exact sRr
 ·refine zCj (.sl (some true) d 1 0 u.length) hb rfl ?_; refine zIO ?_
  exact sRr
set_option maxHeartbeats 16000000 in
theorem zKO (hWb : WbH C) (hWt : WtL C) (hLn : LnH C) (hAny : AnyH C) (hRep : RepH C) (hS1 : St1H C) (hS0 : St0H C) (va : AV) (t : List (List Fld)) (ha : zBV H0 va t) (hl : t.length ≤ 1048576) (hrl : ∀ r ∈ t,r.length ≤ 1048576) (hfl : ∀ r ∈ t,∀ f ∈ r,f.length ≤ 1048576)
  (hne : ∀ r ∈ t,r ≠ []) (b : Nat) (H1 : Heap) (hB : BAt H0 H1 b []) (hO : Old H0 H1) :
  EW C GT (zDJ.behind 3) (finF zBh H0 (cwV t) H0) [(4,bR b),(0,va)] H1:=by
 obtain ⟨_,hlen,hat⟩:=ha
 refine hlen _ ?_; refine zFH (fun i : Nat=>[(4,bR b),(24,zHa i),(22,va),(23,zHa t.length)]) (fun i H2=>i ≤ t.length ∧ BAt H0 H2 b (z2 (t.take i)) ∧ Old H0 H2 ∧ (z2 (t.take i)).length ≤ 4001) (fun i=>t.length - i) 0 rfl ⟨Nat.zero_le _,hB,hO,by simp [z2]⟩ (fun i H2 hi=>?_)
 obtain ⟨hi,hB2,hO2,hu⟩:=hi
 by_cases hlt : i < t.length
 ·have dlt : decide (((i : Nat) : Int) < ((t.length : Nat) : Int)) = true:=tT
  obtain ⟨r,hr⟩ : ∃ r,t[i]? = some r:=⟨t[i],List.getElem?_eq_getElem hlt⟩
  obtain ⟨x,hxo,hx⟩:=hat i r hr
  have hm:=List.mem_of_getElem? hr
  have hrl:=hrl r hm
  have hfl:=hfl r hm
  have hrn:=hne r hm
  have hrn0 : r.length ≠ 0:=fun e=>hrn (List.length_eq_zero_iff.1 e)
  have hnx:=zIn hr
  have hpart:=zJX t i
  obtain ⟨one,hone⟩ : ∃ one,decide (r.length = 1) = one:=⟨_,rfl⟩
  rw [hone] at hnx
  refine zBK dlt ?_; refine hx H2 _ hO2 (fun p hp=>?_)
  refine hp _ ?_; refine zA7 r.length hxo (by simp) ?_; refine zFH (fun k : Nat=>[(30,zHa k),(4,bR b),(8,x),(28,x),(22,va),(23,zHa t.length),(24,zHa i),(29,zHa r.length)]) (fun k H3=>k ≤ r.length ∧ BAt H0 H3 b (z2 (t.take i) ++ za one true (r.take k)) ∧ Old H0 H3 ∧ (z2 (t.take i) ++ za one true (r.take k)).length ≤ 4001 ∧ (k ≠ 0 → (z2 (t.take i) ++ za one true (r.take k)).length ≤ 4000)) (fun k=>r.length - k) 0 rfl ⟨Nat.zero_le _,by rw [List.take_zero]; show BAt H0 H2 b (z2 (t.take i) ++ []); rw [List.append_nil]; exact hB2,hO2,by rw [List.take_zero]; show (z2 (t.take i) ++ [] : Fld).length ≤ 4001; rw [List.append_nil]; exact hu,fun h=>absurd rfl h⟩ (fun k H3 hi3=>?_)
  obtain ⟨hk,hB3,hO3,hu3,hu4⟩:=hi3
  by_cases hlk : k < r.length
  ·have dlk : decide (((k : Nat) : Int) < ((r.length : Nat) : Int)) = true:=tT
   obtain ⟨f,hf⟩ : ∃ f,r[k]? = some f:=⟨r[k],List.getElem?_eq_getElem hlk⟩
   have hff:=hfl f (List.mem_of_getElem? hf)
   have hcn:=zHN one hf
   have hpk:=hpart (k + 1) r hr
   rw [hone,hcn] at hpk
   have hfT:=zJY one f
   have hes:=(zEc f).2
   obtain ⟨u,hu0⟩ : ∃ u,z2 (t.take i) ++ za one true (r.take k) = u:=⟨_,rfl⟩
   have hu2 : z2 (t.take i) ++ za one true (r.take (k + 1)) = (u ++ (if k = 0 then [] else [44])) ++ zBl one f:=by rw [hcn,← hu0]; simp only [List.append_assoc]
   rw [hu0] at hB3 hu3 hu4
   have hful : 4000 < ((u ++ (if k = 0 then [] else [44])) ++ zBl one f).length → cwV t = .tup [.str [],zHZ 4]:=fun h=>zIm hne (by
    rw [← hu2,List.length_append] at h
    rw [hcn] at h
    omega)
   have hany:=fun H=>hAny f H hff
   have hrep:=fun H=>hRep f H hff
   refine zBK dlk ?_; refine zEL k (.str f) hxo rfl (by rw [List.getElem?_map,hf]; rfl) ?_; refine zB4 (.str f) rfl ?_
   by_cases hk0 : k = 0
   ·rw [if_pos hk0] at hu2 hful
    rw [List.append_nil] at hu2 hful
    have dk : decide (((k : Nat) : Int) > 0) = false:=tF
    have hul : u.length ≤ 4002:=by first | omega | (rw [List.length_append]; simp only [List.length_cons,List.length_nil]; omega)
    obtain ⟨Hb,hwt,hBb⟩:=hWt H0 b u (zBl one f) H3 hB3 hO3 tO
    have hln:=hLn H0 b _ Hb hBb.1 (by rw [List.length_append]; omega)
    by_cases hF : 4000 < (u ++ zBl one f).length
    ·have dF : decide ((((u ++ zBl one f).length : Nat) : Int) > 4000) = true:=tT
     rw [hful hF]
     clear hWb hWt hLn hAny hRep hS1 hS0 hful
     by_cases he : f = []
     ·have hfe : (f == ([] : Fld)) = true:=tE he
      by_cases h1 : r.length = 1
      ·have d1 : (((r.length : Nat) : Int) == 1) = true:=tE
       rw [← zFU (zGb he (by rw [← hone]; exact decide_eq_true h1))] at hwt
       refine zA8 dk ?_; refine zBK hfe ?_; refine zA7 r.length hxo (by simp) ?_; refine zO ?_; refine zBK d1 ?_; refine zO ?_; refine zO ?_; refine zB (hrep _) ?_; refine zA6 (by first | omega | (simp only [List.length_append,List.length_cons,List.length_nil]; omega)) ?_; refine zA6 (by first | omega | (simp only [List.length_append,List.length_cons,List.length_nil]; omega)) ?_; refine z6 hwt (fun h=>nomatch h) ?_
       refine zB hln ?_; refine zBK dF ?_
       exact zAx rfl rfl rfl rfl hBb.2.1
      ·have d1 : (((r.length : Nat) : Int) == 1) = false:=tN
       have hq0:=zGc (one:=one) he (by rw [← hone]; exact decide_eq_false h1)
       rw [hq0] at hwt
       have hany0 : f.any zEl = false:=by rw [he]; rfl
       rw [hany0] at hany
       refine zA8 dk ?_; refine zBK hfe ?_; refine zA7 r.length hxo (by simp) ?_; refine zO ?_; refine zA8 d1 ?_; refine zB (hany _) ?_; refine zD ?_; refine zD ?_; refine z6 hwt (fun h=>nomatch h) ?_; refine zB hln ?_; refine zBK dF ?_
       exact zAx rfl rfl rfl rfl hBb.2.1
     ·have hfe : (f == ([] : Fld)) = false:=tN he
      have hqn:=zGd (one:=one) he
      cases hab : f.any zEl with
      | true=>
       rw [hab] at hany hqn
       rw [← zFU hqn] at hwt
       refine zA8 dk ?_; refine zA8 hfe ?_; refine zD ?_; refine zD ?_; refine zB (hany _) ?_; refine zD ?_; refine zO ?_; refine zB (hrep _) ?_; refine zA6 (by first | omega | (simp only [List.length_append,List.length_cons,List.length_nil]; omega)) ?_; refine zA6 (by first | omega | (simp only [List.length_append,List.length_cons,List.length_nil]; omega)) ?_; refine z6 hwt (fun h=>nomatch h) ?_
       refine zB hln ?_; refine zBK dF ?_
       exact zAx rfl rfl rfl rfl hBb.2.1
      | false=>
       rw [hab] at hany hqn
       rw [zJe hqn] at hwt
       refine zA8 dk ?_; refine zA8 hfe ?_; refine zD ?_; refine zD ?_; refine zB (hany _) ?_; refine zD ?_; refine zD ?_; refine z6 hwt (fun h=>nomatch h) ?_; refine zB hln ?_; refine zBK dF ?_
       exact zAx rfl rfl rfl rfl hBb.2.1
    ·have dF : decide ((((u ++ zBl one f).length : Nat) : Int) > 4000) = false:=tF
     clear hWb hWt hLn hAny hRep hS1 hS0 hful
     by_cases he : f = []
     ·have hfe : (f == ([] : Fld)) = true:=tE he
      by_cases h1 : r.length = 1
      ·have d1 : (((r.length : Nat) : Int) == 1) = true:=tE
       rw [← zFU (zGb he (by rw [← hone]; exact decide_eq_true h1))] at hwt
       refine zA8 dk ?_; refine zBK hfe ?_; refine zA7 r.length hxo (by simp) ?_; refine zO ?_; refine zBK d1 ?_; refine zO ?_; refine zO ?_; refine zB (hrep _) ?_; refine zA6 (by first | omega | (simp only [List.length_append,List.length_cons,List.length_nil]; omega)) ?_; refine zA6 (by first | omega | (simp only [List.length_append,List.length_cons,List.length_nil]; omega)) ?_; refine z6 hwt (fun h=>nomatch h) ?_
       refine zB hln ?_; refine zA8 dF ?_; refine zAl (r:=k + 1) tO tO ?_
       exact zBN (k + 1) rfl ⟨by omega,by rw [hu2]; exact hBb.1,hBb.2.1,by rw [hu2]; omega,fun _=>by rw [hu2]; omega⟩ (by show _ < _; omega)
      ·have d1 : (((r.length : Nat) : Int) == 1) = false:=tN
       have hq0:=zGc (one:=one) he (by rw [← hone]; exact decide_eq_false h1)
       rw [hq0] at hwt
       have hany0 : f.any zEl = false:=by rw [he]; rfl
       rw [hany0] at hany
       refine zA8 dk ?_; refine zBK hfe ?_; refine zA7 r.length hxo (by simp) ?_; refine zO ?_; refine zA8 d1 ?_; refine zB (hany _) ?_; refine zD ?_; refine zD ?_; refine z6 hwt (fun h=>nomatch h) ?_; refine zB hln ?_; refine zA8 dF ?_; refine zAl (r:=k + 1) tO tO ?_
       exact zBN (k + 1) rfl ⟨by omega,by rw [hu2]; exact hBb.1,hBb.2.1,by rw [hu2]; omega,fun _=>by rw [hu2]; omega⟩ (by show _ < _; omega)
     ·have hfe : (f == ([] : Fld)) = false:=tN he
      have hqn:=zGd (one:=one) he
      cases hab : f.any zEl with
      | true=>
       rw [hab] at hany hqn
       rw [← zFU hqn] at hwt
       refine zA8 dk ?_; refine zA8 hfe ?_; refine zD ?_; refine zD ?_; refine zB (hany _) ?_; refine zD ?_; refine zO ?_; refine zB (hrep _) ?_; refine zA6 (by first | omega | (simp only [List.length_append,List.length_cons,List.length_nil]; omega)) ?_; refine zA6 (by first | omega | (simp only [List.length_append,List.length_cons,List.length_nil]; omega)) ?_; refine z6 hwt (fun h=>nomatch h) ?_
       refine zB hln ?_; refine zA8 dF ?_; refine zAl (r:=k + 1) tO tO ?_
       exact zBN (k + 1) rfl ⟨by omega,by rw [hu2]; exact hBb.1,hBb.2.1,by rw [hu2]; omega,fun _=>by rw [hu2]; omega⟩ (by show _ < _; omega)
      | false=>
       rw [hab] at hany hqn
       rw [zJe hqn] at hwt
       refine zA8 dk ?_; refine zA8 hfe ?_; refine zD ?_; refine zD ?_; refine zB (hany _) ?_; refine zD ?_; refine zD ?_; refine z6 hwt (fun h=>nomatch h) ?_; refine zB hln ?_; refine zA8 dF ?_; refine zAl (r:=k + 1) tO tO ?_
       exact zBN (k + 1) rfl ⟨by omega,by rw [hu2]; exact hBb.1,hBb.2.1,by rw [hu2]; omega,fun _=>by rw [hu2]; omega⟩ (by show _ < _; omega)
   ·rw [if_neg hk0] at hu2 hful
    have dk : decide (((k : Nat) : Int) > 0) = true:=tT
    obtain ⟨Ha,hwb,hBa⟩:=hWb H0 b u 44 H3 hB3 hO3 tO
    have hul : (u ++ [44]).length ≤ 4002:=by first | omega | (rw [List.length_append]; simp only [List.length_cons,List.length_nil]; omega)
    obtain ⟨Hb,hwt,hBb⟩:=hWt H0 b (u ++ [44]) (zBl one f) Ha hBa.1 hBa.2.1 tO
    have hln:=hLn H0 b _ Hb hBb.1 (by rw [List.length_append]; omega)
    by_cases hF : 4000 < ((u ++ [44]) ++ zBl one f).length
    ·have dF : decide (((((u ++ [44]) ++ zBl one f).length : Nat) : Int) > 4000) = true:=tT
     rw [hful hF]
     clear hWb hWt hLn hAny hRep hS1 hS0 hful
     by_cases he : f = []
     ·have hfe : (f == ([] : Fld)) = true:=tE he
      by_cases h1 : r.length = 1
      ·have d1 : (((r.length : Nat) : Int) == 1) = true:=tE
       rw [← zFU (zGb he (by rw [← hone]; exact decide_eq_true h1))] at hwt
       refine zBK dk ?_; refine z6 hwb (fun h=>nomatch h) ?_; refine zBK hfe ?_; refine zA7 r.length hxo (by simp) ?_; refine zO ?_; refine zBK d1 ?_; refine zO ?_; refine zO ?_; refine zB (hrep _) ?_; refine zA6 (by first | omega | (simp only [List.length_append,List.length_cons,List.length_nil]; omega)) ?_; refine zA6 (by first | omega | (simp only [List.length_append,List.length_cons,List.length_nil]; omega)) ?_
       refine z6 hwt (fun h=>nomatch h) ?_; refine zB hln ?_; refine zBK dF ?_
       exact zAx rfl rfl rfl rfl hBb.2.1
      ·have d1 : (((r.length : Nat) : Int) == 1) = false:=tN
       have hq0:=zGc (one:=one) he (by rw [← hone]; exact decide_eq_false h1)
       rw [hq0] at hwt
       have hany0 : f.any zEl = false:=by rw [he]; rfl
       rw [hany0] at hany
       refine zBK dk ?_; refine z6 hwb (fun h=>nomatch h) ?_; refine zBK hfe ?_; refine zA7 r.length hxo (by simp) ?_; refine zO ?_; refine zA8 d1 ?_; refine zB (hany _) ?_; refine zD ?_; refine zD ?_; refine z6 hwt (fun h=>nomatch h) ?_; refine zB hln ?_; refine zBK dF ?_
       exact zAx rfl rfl rfl rfl hBb.2.1
     ·have hfe : (f == ([] : Fld)) = false:=tN he
      have hqn:=zGd (one:=one) he
      cases hab : f.any zEl with
      | true=>
       rw [hab] at hany hqn
       rw [← zFU hqn] at hwt
       refine zBK dk ?_; refine z6 hwb (fun h=>nomatch h) ?_; refine zA8 hfe ?_; refine zD ?_; refine zD ?_; refine zB (hany _) ?_; refine zD ?_; refine zO ?_; refine zB (hrep _) ?_; refine zA6 (by first | omega | (simp only [List.length_append,List.length_cons,List.length_nil]; omega)) ?_; refine zA6 (by first | omega | (simp only [List.length_append,List.length_cons,List.length_nil]; omega)) ?_
       refine z6 hwt (fun h=>nomatch h) ?_; refine zB hln ?_; refine zBK dF ?_
       exact zAx rfl rfl rfl rfl hBb.2.1
      | false=>
       rw [hab] at hany hqn
       rw [zJe hqn] at hwt
       refine zBK dk ?_; refine z6 hwb (fun h=>nomatch h) ?_; refine zA8 hfe ?_; refine zD ?_; refine zD ?_; refine zB (hany _) ?_; refine zD ?_; refine zD ?_; refine z6 hwt (fun h=>nomatch h) ?_; refine zB hln ?_; refine zBK dF ?_
       exact zAx rfl rfl rfl rfl hBb.2.1
    ·have dF : decide (((((u ++ [44]) ++ zBl one f).length : Nat) : Int) > 4000) = false:=tF
     clear hWb hWt hLn hAny hRep hS1 hS0 hful
     by_cases he : f = []
     ·have hfe : (f == ([] : Fld)) = true:=tE he
      by_cases h1 : r.length = 1
      ·have d1 : (((r.length : Nat) : Int) == 1) = true:=tE
       rw [← zFU (zGb he (by rw [← hone]; exact decide_eq_true h1))] at hwt
       refine zBK dk ?_; refine z6 hwb (fun h=>nomatch h) ?_; refine zBK hfe ?_; refine zA7 r.length hxo (by simp) ?_; refine zO ?_; refine zBK d1 ?_; refine zO ?_; refine zO ?_; refine zB (hrep _) ?_; refine zA6 (by first | omega | (simp only [List.length_append,List.length_cons,List.length_nil]; omega)) ?_; refine zA6 (by first | omega | (simp only [List.length_append,List.length_cons,List.length_nil]; omega)) ?_
       refine z6 hwt (fun h=>nomatch h) ?_; refine zB hln ?_; refine zA8 dF ?_; refine zAl (r:=k + 1) tO tO ?_
       exact zBN (k + 1) rfl ⟨by omega,by rw [hu2]; exact hBb.1,hBb.2.1,by rw [hu2]; omega,fun _=>by rw [hu2]; omega⟩ (by show _ < _; omega)
      ·have d1 : (((r.length : Nat) : Int) == 1) = false:=tN
       have hq0:=zGc (one:=one) he (by rw [← hone]; exact decide_eq_false h1)
       rw [hq0] at hwt
       have hany0 : f.any zEl = false:=by rw [he]; rfl
       rw [hany0] at hany
       refine zBK dk ?_; refine z6 hwb (fun h=>nomatch h) ?_; refine zBK hfe ?_; refine zA7 r.length hxo (by simp) ?_; refine zO ?_; refine zA8 d1 ?_; refine zB (hany _) ?_; refine zD ?_; refine zD ?_; refine z6 hwt (fun h=>nomatch h) ?_; refine zB hln ?_; refine zA8 dF ?_; refine zAl (r:=k + 1) tO tO ?_
       exact zBN (k + 1) rfl ⟨by omega,by rw [hu2]; exact hBb.1,hBb.2.1,by rw [hu2]; omega,fun _=>by rw [hu2]; omega⟩ (by show _ < _; omega)
     ·have hfe : (f == ([] : Fld)) = false:=tN he
      have hqn:=zGd (one:=one) he
      cases hab : f.any zEl with
      | true=>
       rw [hab] at hany hqn
       rw [← zFU hqn] at hwt
       refine zBK dk ?_; refine z6 hwb (fun h=>nomatch h) ?_; refine zA8 hfe ?_; refine zD ?_; refine zD ?_; refine zB (hany _) ?_; refine zD ?_; refine zO ?_; refine zB (hrep _) ?_; refine zA6 (by first | omega | (simp only [List.length_append,List.length_cons,List.length_nil]; omega)) ?_; refine zA6 (by first | omega | (simp only [List.length_append,List.length_cons,List.length_nil]; omega)) ?_
       refine z6 hwt (fun h=>nomatch h) ?_; refine zB hln ?_; refine zA8 dF ?_; refine zAl (r:=k + 1) tO tO ?_
       exact zBN (k + 1) rfl ⟨by omega,by rw [hu2]; exact hBb.1,hBb.2.1,by rw [hu2]; omega,fun _=>by rw [hu2]; omega⟩ (by show _ < _; omega)
      | false=>
       rw [hab] at hany hqn
       rw [zJe hqn] at hwt
       refine zBK dk ?_; refine z6 hwb (fun h=>nomatch h) ?_; refine zA8 hfe ?_; refine zD ?_; refine zD ?_; refine zB (hany _) ?_; refine zD ?_; refine zD ?_; refine z6 hwt (fun h=>nomatch h) ?_; refine zB hln ?_; refine zA8 dF ?_; refine zAl (r:=k + 1) tO tO ?_
       exact zBN (k + 1) rfl ⟨by omega,by rw [hu2]; exact hBb.1,hBb.2.1,by rw [hu2]; omega,fun _=>by rw [hu2]; omega⟩ (by show _ < _; omega)
  ·have ek : k = r.length:=by omega
   subst ek
   have dlk : decide (((r.length : Nat) : Int) < ((r.length : Nat) : Int)) = false:=tF
   have hu5:=hu4 hrn0
   rw [List.take_length] at hB3 hu5
   obtain ⟨Ha,hwb,hBa⟩:=hWb H0 b _ 10 H3 hB3 hO3 tO
   rw [← hnx] at hBa
   clear hWb hWt hLn hAny hRep hS1 hS0
   refine zA8 dlk ?_; refine z6 hwb (fun h=>nomatch h) ?_; refine zAl (r:=i + 1) tO tO ?_
   exact zBN (i + 1) rfl ⟨by omega,hBa.1,hBa.2.1,by rw [hnx,List.length_append]; simp only [List.length_cons,List.length_nil]; omega⟩ (by show _ < _; omega)
 ·have ei : i = t.length:=by omega
  subst ei
  have dlt : decide (((t.length : Nat) : Int) < ((t.length : Nat) : Int)) = false:=tF
  rw [List.take_length] at hB2 hu
  have hln:=hLn H0 b _ H2 hB2 tO
  by_cases hF : 4000 < (z2 t).length
  ·have dF : decide ((((z2 t).length : Nat) : Int) > 4000) = true:=tT
   rw [zIm hne hF]
   clear hWb hWt hLn hAny hRep hS1 hS0
   refine zA8 dlt ?_; refine zB hln ?_; refine zBK dF ?_
   exact zAx rfl rfl rfl rfl hO2
  ·have dF : decide ((((z2 t).length : Nat) : Int) > 4000) = false:=tF
   rw [cw_ok hne hF]
   by_cases he : z2 t = []
   ·have hs:=hS0 H0 b H2 (by rw [← he]; exact hB2)
    rw [← he] at hs
    clear hWb hWt hLn hAny hRep hS1 hS0
    refine zA8 dlt ?_; refine zB hln ?_; refine zA8 dF ?_; refine zB hs ?_
    exact zAx rfl rfl rfl rfl hO2
   ·obtain ⟨H4,hs,h4,hO4,hl4⟩:=hS1 H0 b _ H2 hB2 hO2 he
    clear hWb hWt hLn hAny hRep hS1 hS0
    refine zA8 dlt ?_; refine zB hln ?_; refine zA8 dF ?_; refine z6 hs (fun h=>nomatch h) ?_
    exact zAx rfl rfl rfl rfl hO4
set_option maxHeartbeats 8000000 in
theorem zIo (hWb : WbH C) (hWt : WtL C) (hLn : LnH C) (hAny : AnyH C) (hRep : RepH C) (hS1 : St1H C) (hS0 : St0H C) (va : AV) (t : List (List Fld)) (H : Heap) (ha : zBV H va t) (hl : t.length ≤ 1048576) (hrl : ∀ r ∈ t,r.length ≤ 1048576) (hfl : ∀ r ∈ t,∀ f ∈ r,f.length ≤ 1048576) :
  EFun C GT zBh [va] H (cwV t) H:=by
 have key:=fun hne (H1 : Heap) hB hO=>zKO (C:=C) (GT:=GT) (H0:=H) hWb hWt hLn hAny hRep hS1 hS0 va t ha hl hrl hfl hne H.length H1 hB hO
 obtain ⟨_,hlen,hat⟩:=ha
 clear hWb hWt hLn hAny hRep hS1 hS0 hfl
 refine zF2 ?_; refine zH7 (v:=.ref H.length 0 0 0) (H':=(H ++ [ABlk.box [.nilp,.lst (some true) 0 []]]) ++ [ABlk.shp H.length zA 2]) rfl ?_
 obtain ⟨Hd,hd⟩ : ∃ Hd,(H ++ [ABlk.box [.nilp,.lst (some true) 0 []]]) ++ [ABlk.shp H.length zA 2] = Hd:=⟨_,rfl⟩
 have hOd : Old H Hd:=by rw [← hd]; exact ((Old.refl H).push _).push _
 have hBd : BAt H Hd H.length []:=by rw [← hd]; exact BAt.fresh (Old.refl H)
 rw [hd]
 refine hlen _ ?_; refine zFH (fun i : Nat=>[(13,zHa i),(11,va),(4,bR H.length),(0,va),(12,zHa t.length)]) (fun i H2=>H2 = Hd ∧ i ≤ t.length ∧ ∀ j r,j < i → t[j]? = some r → r ≠ []) (fun i=>t.length - i) 0 rfl ⟨rfl,Nat.zero_le _,fun j r h=>absurd h (Nat.not_lt_zero _)⟩ (fun i H2 hi=>?_)
 obtain ⟨rfl,hi,hall⟩:=hi
 by_cases hlt : i < t.length
 ·have dlt : decide (((i : Nat) : Int) < ((t.length : Nat) : Int)) = true:=tT
  obtain ⟨r,hr⟩ : ∃ r,t[i]? = some r:=⟨t[i],List.getElem?_eq_getElem hlt⟩
  obtain ⟨x,hxo,hx⟩:=hat i r hr
  by_cases h0 : r = []
  ·have d0 : (((r.length : Nat) : Int) == 0) = true:=by rw [h0]; rfl
   rw [zJd (by rw [hr,h0])]
   refine zBK dlt ?_; refine hx _ _ hOd (fun p hp=>?_)
   refine hp _ ?_; refine zA7 r.length hxo (by simp) ?_; refine zBK d0 ?_
   exact zAx rfl rfl rfl rfl hOd
  ·have d0 : (((r.length : Nat) : Int) == 0) = false:=tN (fun e=>h0 (List.length_eq_zero_iff.1 tO))
   refine zBK dlt ?_; refine hx _ _ hOd (fun p hp=>?_)
   refine hp _ ?_; refine zA7 r.length hxo (by simp) ?_; refine zA8 d0 ?_; refine zAl (r:=i + 1) tO tO ?_; refine zBN (i + 1) rfl ⟨rfl,by omega,fun j q hj hq=>?_⟩ (by show _ < _; omega)
   by_cases e : j = i
   ·subst e
    rw [hr] at hq
    cases hq
    exact h0
   ·exact hall j q tO hq
 ·have ei : i = t.length:=by omega
  subst ei
  have dlt : decide (((t.length : Nat) : Int) < ((t.length : Nat) : Int)) = false:=tF
  refine zA8 dlt ?_
  exact zJa rfl (key (fun r hr=>by
   obtain ⟨j,hj,e⟩:=List.getElem_of_mem hr
   exact hall j r hj (by rw [List.getElem?_eq_getElem hj,e])) _ hBd hOd) rfl
end
end Go.AM
