/- Several texts of mine in one (Bu1, Bu0, Bun, Cw1, Am33). Own work. -/
import Derived.Test.YtmiknjjfgndddaaDoorGAm30Fp1
import Derived.Test.YtmiknjjfgndddaaDoorGAm22Err
import Derived.Test.YtmiknjjfgndddaaDoorGAm25Am29
import Derived.Test.YtmiknjjfgndddaaDoorGToldQAm24
set_option linter.all false
set_option maxRecDepth 20000
namespace Go.AM
def zEh (H0 H : Heap) (v : AV) (u : Bs) : Prop:=(v = .lst (some true) 0 [] ∧ u = []) ∨ ∃ d,v = .sl (some true) d 1 0 u.length ∧ H0.length ≤ d ∧ H[d]? = some (.row 1 (u.map zA)) ∧ H[d + 1]? = some (.ty d z7) ∧ u ≠ []
def BAt (H0 H : Heap) (b : Nat) (u : Bs) : Prop:=H0.length ≤ b ∧ H[b + 1]? = some (.shp b zE 2) ∧ ∃ a v,H[b]? = some (.box [a,v]) ∧ zEh H0 H v u ∧ (a = .ref b 0 0 0 ∨ a = .nilp)
def BFz (H0 H : Heap) (b : Nat) (u : Bs) : Prop:=H0.length ≤ b ∧ H[b + 1]? = some (.shp b zE 2) ∧ ∃ (a : AV) (d h : Nat),H[b]? = some (.box [a,.sl (some true) d 1 0 u.length]) ∧ H[d]? = some (.frz 1 (u.map zA)) ∧ H[h]? = some (.hd d z7 u.length) ∧ u ≠ []
def KpB (b : Nat) (H H' : Heap) : Prop:=H.length ≤ H'.length ∧ ∀ c x,c ≠ b → (∀ xs,x ≠ .row 1 xs) → H[c]? = some x → H'[c]? = some x
def BTo (H0 H H' : Heap) (b : Nat) (u : Bs) : Prop:=BAt H0 H' b u ∧ Old H0 H' ∧ KpB b H H'
theorem KpB.refl (b : Nat) (H : Heap) : KpB b H H:=⟨Nat.le_refl _,fun _ _ _ _ h=>h⟩
theorem KpB.trans {b : Nat} {H H1 H2 : Heap} (h : KpB b H H1) (k : KpB b H1 H2) : KpB b H H2:=⟨Nat.le_trans h.1 k.1,fun c x hc hx h'=>k.2 c x hc hx (h.2 c x hc hx h')⟩
theorem KpB.push {b : Nat} {H H1 : Heap} (h : KpB b H H1) (x : ABlk) : KpB b H (H1 ++ [x]):=⟨by rw [List.length_append]; have:=h.1; omega,fun c y hc hy h'=>zX (h.2 c y hc hy h')⟩
theorem KpB.setB {b : Nat} {H H1 : Heap} (h : KpB b H H1) (y : ABlk) : KpB b H (H1.set b y):=⟨by rw [List.length_set]; exact h.1,fun d x hd hx h'=>zh (fun e=>hd e.symm) (h.2 d x hd hx h')⟩
theorem BTo.trans {H0 H H1 H2 : Heap} {b : Nat} {u u' : Bs} (h : BTo H0 H H1 b u) (k : BTo H0 H1 H2 b u') : BTo H0 H H2 b u':=⟨k.1,k.2.1,h.2.2.trans k.2.2⟩
theorem zEh.keep {H0 H H' : Heap} {v : AV} {u : Bs} (h : zEh H0 H v u) (k : ∀ (c : Nat) (x : ABlk),(x = ABlk.row 1 (u.map zA) ∨ ∃ d,x = ABlk.ty d z7) → H[c]? = some x → H'[c]? = some x) : zEh H0 H' v u:=by
 rcases h with h | ⟨d,h1,h2,h3,h4,h5⟩
 ·exact .inl h
 ·exact .inr ⟨d,h1,h2,k _ _ (.inl rfl) h3,k _ _ (.inr ⟨d,rfl⟩) h4,h5⟩
theorem zEh.push {H0 H : Heap} {v : AV} {u : Bs} (h : zEh H0 H v u) (x : ABlk) : zEh H0 (H ++ [x]) v u:=h.keep fun _ _ _ h=>zX h
theorem zEh.setBox {H0 H : Heap} {v : AV} {u : Bs} (h : zEh H0 H v u) {c : Nat} {cs : List AV} (hc : H[c]? = some (.box cs)) (x : ABlk) : zEh H0 (H.set c x) v u:=h.keep fun e y hy h=>zh (fun he=>by
 rw [he,h] at hc
 rcases hy with rfl | ⟨d,rfl⟩ <;> cases hc) h
theorem zEh.one {H0 H : Heap} {v : AV} {u : Bs} (h : zEh H0 H v u) : v.cells = [v] ∧ v.one = true:=by
 rcases h with ⟨rfl,_⟩ | ⟨d,rfl,_⟩ <;> exact ⟨rfl,rfl⟩
theorem zEh.row {H0 H : Heap} {v : AV} {u : Bs} (h : zEh H0 H v u) {b : Nat} (hb : v.blk = some b) : ∃ ys,H[b]? = some (.row 1 ys):=by
 rcases h with ⟨rfl,_⟩ | ⟨d,rfl,_,h,_⟩
 ·cases hb
 ·simp only [AV.blk,Option.some.injEq] at hb
  subst hb
  exact ⟨_,h⟩
theorem BAt.push {H0 H : Heap} {b : Nat} {u : Bs} (h : BAt H0 H b u) (x : ABlk) : BAt H0 (H ++ [x]) b u:=by
 obtain ⟨h0,hs,a,v,hb,hw,ha⟩:=h
 exact ⟨h0,zX hs,a,v,zX hb,hw.push _,ha⟩
theorem BFz.keep {H0 H H' : Heap} {b : Nat} {u : Bs} (h : BFz H0 H b u) (hb : ∀ x,H[b]? = some x → H'[b]? = some x) (k : ∀ (c : Nat) (x : ABlk),(∀ cs,x ≠ ABlk.box cs) → H[c]? = some x → H'[c]? = some x) : BFz H0 H' b u:=by
 obtain ⟨h0,hs,a,d,e,h1,h2,h3,h4⟩:=h
 exact ⟨h0,k _ _ (fun _ e=>by cases e) hs,a,d,e,hb _ h1,k _ _ (fun _ e=>by cases e) h2,k _ _ (fun _ e=>by cases e) h3,h4⟩
section
variable {C : CSpec} {GT : Nat → Option AV}
abbrev bR (b : Nat) : AV:=.ref b 0 0 0
def zII : AF:={ zr with keep:=true }
def zIJ : AF:={ zl with keep:=true }
def appV (t : Nat) (s : Bool) (x : AV) (ys : List AV) (H : Heap) : Option (AV × Heap):=match x with
 | .lst (some true) _ _=>if s = true ∧ ys.isEmpty = true then some (x,H) else if ys.isEmpty = false ∧ ys.length ≤ 140737488355328 then some (.sl (some true) H.length 1 0 ys.length,H ++ [.row 1 ys] ++ [.ty H.length t]) else none
 | .sl q b k' off len=>if s = true ∧ ys.isEmpty = true then some (x,H) else match H[b]?,H[b + 1]? with
  | some (.row k'' xs),some (.ty b' t')=>if ys.isEmpty = false ∧ k' = 1 ∧ k'' = 1 ∧ b' = b ∧ t' = t ∧ off = 0 ∧ len ≤ xs.length ∧ len + ys.length ≤ 140737488355328 then
    some (.sl q H.length 1 0 (len + ys.length),H.set b .dead ++ [.row 1 (xs.take len ++ ys)] ++ [.ty H.length t]) else none
  | _,_=>none
 | _=>none
def zIK (s : Bool) (y : AV) (H : Heap) : Option (List AV):=match s with
 | true=>(match y with
  | .str z=>some (z.map zA)
  | _=>none)
 | false=>view H 1 y
theorem zFQ (y : AV) (H : Heap) : zIK false y H = view H 1 y:=rfl
theorem zBS {t : Nat} {s : Bool} {x y : AV} {H : Heap} {ys : List AV} (hy : zIK s y H = some ys) : astep (.appT t s) [x,y] H = appV t s x ys H:=by
 cases s with
 | false=>
  have hy : view H 1 y = some ys:=hy
  simp only [astep,Bool.false_eq_true,if_false,hy]
  rfl
 | true=>
  cases y with
  | str z=>
   have hy : some (z.map zA) = some ys:=hy
   cases hy
   rfl
  | _=>cases hy
theorem zKH {H0 H : Heap} {v y : AV} {u t : Bs} {sb : Bool} {K : AV → Heap → Prop} (ho : zEh H0 H v u) (hH : Old H0 H) (hy : zIK sb y H = some (t.map zA)) (hl : u.length + t.length ≤ 140737488355328) (ht : sb = true ∨ t ≠ [])
  (q : ∀ v' H',zEh H0 H' v' (u ++ t) → Old H0 H' → H.length ≤ H'.length → (∀ c x,v.blk ≠ some c → H[c]? = some x → H'[c]? = some x) → K v' H') : actP (.appT z7 sb) [v,y] H K:=by
 have hlt : (t.map zA).length = t.length:=List.length_map _
 have hie : (t.map zA).isEmpty = t.isEmpty:=by cases t <;> rfl
 by_cases he : t = []
 ·subst he
  have hs : sb = true:=ht.resolve_right fun h=>h rfl
  refine zIV (v:=v) (H':=H) ?_ (q v H (by simpa using ho) hH (Nat.le_refl _) fun c y _ h=>h)
  rcases ho with ⟨rfl,rfl⟩ | ⟨d,rfl,_⟩
  ·rw [zBS hy]; exact if_pos ⟨hs,rfl⟩
  ·rw [zBS hy]; exact if_pos ⟨hs,rfl⟩
 have hne : t.isEmpty = false:=by simpa using he
 rcases ho with ⟨rfl,rfl⟩ | ⟨d,rfl,h1,h2,h3,h4⟩
 ·simp only [List.length_nil,Nat.zero_add] at hl
  refine zIV (v:=.sl (some true) H.length 1 0 t.length) (H':=H ++ [.row 1 (t.map zA)] ++ [.ty H.length z7]) ?_ ?_
  ·rw [zBS hy]
   simp only [appV,hie,hne,hlt]
   rw [if_neg (by simp),if_pos ⟨trivial,hl⟩]
  ·refine q _ _ (.inr ⟨_,rfl,hH.1,zX zn, ?_,he⟩) ((hH.push _).push _) (by simp) fun _ _ _ hx=>zX (zX hx)
   have:=@zn (H ++ [.row 1 (t.map zA)]) (.ty H.length z7)
   rwa [List.length_append] at this
 ·refine zIV (v:=.sl (some true) H.length 1 0 (u.length + t.length)) (H':=H.set d .dead ++ [.row 1 (u.map zA ++ t.map zA)] ++ [.ty H.length z7]) ?_ ?_
  ·rw [zBS hy]
   simp only [appV,hie,hne,hlt,h2,h3]
   rw [if_neg (by simp),if_pos ⟨trivial,trivial,trivial,trivial,trivial,trivial,by simp,hl⟩]
   rw [List.take_of_length_le (by simp)]
  ·have hsl : (H.set d ABlk.dead).length = H.length:=List.length_set
   refine q _ _ (.inr ⟨H.length,by rw [List.length_append],hH.1, ?_, ?_,by simp [he]⟩) (((hH.set h1 _).push _).push _) (by simp) fun c x hc hx=>zX (zX (zh (fun e=>hc (by rw [e]; rfl)) hx))
   ·rw [← hsl,List.map_append]; exact zX zn
   ·have:=@zn (H.set d .dead ++ [.row 1 (u.map zA ++ t.map zA)]) (.ty H.length z7)
    rwa [List.length_append,hsl] at this
theorem zJO {F : AF} {H0 H H1 H' : Heap} {fr : Fr} {b : Nat} {v v' r : AV} {u' : Bs} (hs1 : H1[b + 1]? = some (.shp b zE 2)) (hk1 : KpB b H H1) (hb2 : H'[b]? = some (.box [.ref b 0 0 0,v])) (ho' : zEh H0 H' v' u') (hO' : Old H0 H')
  (hf : ∀ c x,c ≠ b → (∀ xs,x ≠ .row 1 xs) → H1[c]? = some x → H'[c]? = some x) (hl : H1.length ≤ H'.length) (h0 : H0.length ≤ b) (hk : F.keep = true) (hr : (zAP fr (H'.set b (.box [.ref b 0 0 0,v'])) F.results).map tupled = some r) :
  retQ F H fr (H'.set b (.box [.ref b 0 0 0,v'])) (fun x H'=>x = r ∧ BTo H0 H H' b u'):=by
 have hbl:=(zg hb2).1
 refine sRetQ (sRetK hk hr) ⟨rfl,⟨h0,zh tO (hf _ _ tO (fun _ e=>by cases e) hs1),_,v',List.getElem?_set_self hbl,ho'.setBox hb2 _,.inl rfl⟩,hO'.set h0 _, ?_⟩
 exact ⟨by rw [List.length_set]; exact Nat.le_trans hk1.1 hl,fun c x hc hx h=>zh (fun e=>hc e.symm) (hf c x hc hx (hk1.2 c x hc hx h))⟩
def CkB (C : CSpec) : Prop:=∀ b a v H,H[b]? = some (.box [a,v]) → H[b + 1]? = some (.shp b zE 2) → (a = .ref b 0 0 0 ∨ a = .nilp) → C zJ [bR b] H (.tup []) (H.set b (.box [.ref b 0 0 0,v]))
theorem zI8 (hC : CkB C) (H0 : Heap) (b : Nat) (u : Bs) (c : UInt8) (H : Heap) (hB : BAt H0 H b u) (hO : Old H0 H) (hl : u.length ≤ 1000000) : zG5 C GT zII [bR b,zA c] H (fun v H'=>v = .nili ∧ BTo H0 H H' b (u ++ [c])):=by
 obtain ⟨h0,hs,a,v,hb,hw,ha⟩:=hB
 have hbl:=(zg hb).1
 have hc:=hC b a v H hb hs ha
 obtain ⟨H1,e1⟩ : ∃ H1,H.set b (.box [.ref b 0 0 0,v]) = H1:=⟨_,rfl⟩
 have hb1 : H1[b]? = some (.box [.ref b 0 0 0,v]):=by rw [← e1]; exact List.getElem?_set_self hbl
 have hs1 : H1[b + 1]? = some (.shp b zE 2):=by rw [← e1]; exact zh tO hs
 have hw1 : zEh H0 H1 v u:=by rw [← e1]; exact hw.setBox hb _
 have hO1 : Old H0 H1:=by rw [← e1]; exact hO.set h0 _
 have hk1 : KpB b H H1:=by rw [← e1]; exact (KpB.refl b H).setB _
 rw [e1] at hc
 clear hC e1
 unfold zG5
 refine zAF hc (fun h=>nomatch h) ?_; refine zB8 v hb1 rfl ?_; refine zK (vs':=[zA c]) rfl rfl ?_; refine zKH (t:=[c]) (H0:=H0) (hw1.push _) (hO1.push _) ((zFQ _ _).trans zD) (by simp; omega) (.inr (by simp)) fun v' H' ho' hO' hlt hf=>?_
 have hnr : ∀ {d : Nat} {x : ABlk},(∀ xs,x ≠ .row 1 xs) → H1[d]? = some x → v.blk ≠ some d:=fun hx h e=>by
  obtain ⟨ys,hy⟩:=hw1.row e
  rw [h] at hy
  exact hx _ (Option.some.inj hy)
 have hb2:=hf b _ (hnr (fun _ e=>by cases e) hb1) (zX hb1)
 rw [List.length_append] at hlt
 refine zIF (v:=v') [.ref b 0 0 0,v'] hb2 (congrArg List.length ho'.one.1) ((congrArg (fun l=>List.all l AV.one) ho'.one.1).trans (by simp [ho'.one.2])) rfl (congrArg (splice [AV.ref b 0 0 0,v] 1) ho'.one.1) ?_
 exact zJO hs1 hk1 hb2 ho' hO' (fun d x hd hx h=>hf d x (hnr hx h) (zX h)) (by simp at hlt; omega) h0 rfl rfl
theorem zIL (hC : CkB C) (H0 : Heap) (b : Nat) (u t : Bs) (H : Heap) (hB : BAt H0 H b u) (hO : Old H0 H) (hl : u.length + t.length ≤ 100000000) : zG5 C GT zIJ [bR b,.str t] H (fun v H'=>v = .tup [zAI t.length,.nili] ∧ BTo H0 H H' b (u ++ t)):=by
 obtain ⟨h0,hs,a,v,hb,hw,ha⟩:=hB
 have hbl:=(zg hb).1
 have hc:=hC b a v H hb hs ha
 obtain ⟨H1,e1⟩ : ∃ H1,H.set b (.box [.ref b 0 0 0,v]) = H1:=⟨_,rfl⟩
 have hb1 : H1[b]? = some (.box [.ref b 0 0 0,v]):=by rw [← e1]; exact List.getElem?_set_self hbl
 have hs1 : H1[b + 1]? = some (.shp b zE 2):=by rw [← e1]; exact zh tO hs
 have hw1 : zEh H0 H1 v u:=by rw [← e1]; exact hw.setBox hb _
 have hO1 : Old H0 H1:=by rw [← e1]; exact hO.set h0 _
 have hk1 : KpB b H H1:=by rw [← e1]; exact (KpB.refl b H).setB _
 rw [e1] at hc
 clear hC e1
 unfold zG5
 refine zAF hc (fun h=>nomatch h) ?_; refine zB8 v hb1 rfl ?_; refine zKH (t:=t) (H0:=H0) hw1 hO1 rfl tO (.inl rfl) fun v' H' ho' hO' hlt hf=>?_
 have hnr : ∀ {d : Nat} {x : ABlk},(∀ xs,x ≠ .row 1 xs) → H1[d]? = some x → v.blk ≠ some d:=fun hx h e=>by
  obtain ⟨ys,hy⟩:=hw1.row e
  rw [h] at hy
  exact hx _ (Option.some.inj hy)
 have hb2:=hf b _ (hnr (fun _ e=>by cases e) hb1) hb1
 refine zIF (v:=v') [.ref b 0 0 0,v'] hb2 (congrArg List.length ho'.one.1) ((congrArg (fun l=>List.all l AV.one) ho'.one.1).trans (by simp [ho'.one.2])) rfl (congrArg (splice [AV.ref b 0 0 0,v] 1) ho'.one.1) ?_
 exact zJO hs1 hk1 hb2 ho' hO' (fun d x hd hx h=>hf d x (hnr hx h) h) hlt h0 rfl rfl
end
end Go.AM
set_option maxRecDepth 20000
namespace Go.AM
section
variable {C : CSpec} {GT : Nat → Option AV}
def WbH (C : CSpec) : Prop:=∀ H0 b u c H,BAt H0 H b u → Old H0 H → u.length ≤ 1000000 → ∃ H',C zI [bR b,zA c] H .nili H' ∧ BTo H0 H H' b (u ++ [c])
end
end Go.AM
set_option maxRecDepth 20000
namespace Go.AM
section
variable {C : CSpec} {GT : Nat → Option AV}
theorem BAt.fresh {H0 H : Heap} (h : Old H0 H) : BAt H0 ((H ++ [.box [.nilp,.lst (some true) 0 []]]) ++ [.shp H.length zE 2]) H.length []:=by
 refine ⟨h.1, ?_,.nilp,.lst (some true) 0 [],zX zn,.inl ⟨rfl,rfl⟩,.inr rfl⟩
 have:=@zn (H ++ [.box [.nilp,.lst (some true) 0 []]]) (.shp H.length zE 2)
 rwa [List.length_append] at this
def St1H (C : CSpec) : Prop:=∀ H0 b u H,BAt H0 H b u → Old H0 H → u ≠ [] → ∃ H',C zQ [bR b] H (.str u) H' ∧ BFz H0 H' b u ∧ Old H0 H' ∧ H.length ≤ H'.length
end
end Go.AM
set_option maxRecDepth 20000
namespace Go.AM
def WtL (C : CSpec) : Prop:=∀ H0 b u t H,BAt H0 H b u → Old H0 H → u.length + t.length ≤ 100000000 → ∃ H',C zP [bR b,.str t] H (.tup [zAI t.length,.nili]) H' ∧ BTo H0 H H' b (u ++ t)
def LnH (C : CSpec) : Prop:=∀ H0 b u H,BAt H0 H b u → u.length ≤ 100000000 → C zY [bR b] H (zAI u.length) H
def AnyH (C : CSpec) : Prop:=∀ (f : Fld) H,f.length ≤ 1048576 → C zw [.str f,.str [44,34,10,13]] H (.bool (f.any zBZ)) H
def RepH (C : CSpec) : Prop:=∀ (f : Fld) H,f.length ≤ 1048576 → C zm [.str f,.str [34],.str [34,34]] H (.str (zu f)) H
def zCV (H0 : Heap) (va : AV) (t : List (List Fld)) : Prop:=zCa [va] = true ∧ (∀ K : Int → Prop,K ((t.length : Nat) : Int) → lenP va K) ∧ ∀ i r,t[i]? = some r → ∃ x,zCI x 1 (r.map AV.str) ∧ ∀ (H : Heap) (K : AV → Prop),Old H0 H → (∀ p,(∀ K2 : AV → Prop,K2 x → loadN 1 false p H K2) → K p) → idxN 1 va ((i : Nat) : Int) K
theorem zCV.of {va : AV} {t : List (List Fld)} (h : zCU va t) (H0 : Heap) : zCV H0 va t:=by
 obtain ⟨xs,hv,hxl,hxr⟩:=h
 refine ⟨by obtain ⟨q,k,rfl,_⟩:=hv; rfl,fun K hk=>zAY t.length hv hxl hk,fun i r hr=>?_⟩
 obtain ⟨x,hx,hxo⟩:=hxr i r hr
 exact ⟨x,hxo,fun H K _ hk=>zEO i x hv rfl hx (hk _ fun K2 h2=>zB7 x (by rw [hxo.cells]; rfl) h2)⟩
def St0H (C : CSpec) : Prop:=∀ H0 b H,BAt H0 H b [] → C zQ [bR b] H (.str []) H
def cwV (t : List (List Fld)) : AV:=.tup [.str (zID t),if zD0 t = 0 then .nili else zH3 (zD0 t)]
theorem zI9 {t : List (List Fld)} {i : Nat} (h : t[i]? = some []) : cwV t = .tup [.str [],zH3 3]:=by
 have e : zD0 t = 3:=by
  unfold zD0
  rw [if_pos (List.any_eq_true.2 ⟨[],List.mem_of_getElem? h,rfl⟩)]
 unfold cwV zID
 rw [e]; rfl
theorem zIM {t : List (List Fld)} (h0 : ∀ r ∈ t,r ≠ []) (h : 4000 < (zj t).length) : cwV t = .tup [.str [],zH3 4]:=by
 have e : zD0 t = 4:=by
  unfold zD0
  rw [if_neg (fun h=>by obtain ⟨r,h1,h2⟩:=List.any_eq_true.1 h; exact h0 r h1 (of_decide_eq_true h2)),if_pos h]
 unfold cwV zID
 rw [e]; rfl
theorem cw_ok {t : List (List Fld)} (h0 : ∀ r ∈ t,r ≠ []) (h : ¬ 4000 < (zj t).length) : cwV t = .tup [.str (zj t),.nili]:=by
 have e : zD0 t = 0:=by
  unfold zD0
  rw [if_neg (fun h=>by obtain ⟨r,h1,h2⟩:=List.any_eq_true.1 h; exact h0 r h1 (of_decide_eq_true h2)),if_neg h]
 unfold cwV zID
 rw [e]; rfl
theorem zD1 {r : List Fld} {k : Nat} {f : Fld} (one : Bool) (h : r[k]? = some f) : zL one true (r.take (k + 1)) = (zL one true (r.take k) ++ (if k = 0 then [] else [44])) ++ zAR one f:=by
 have e : r.take (k + 1) = r.take k ++ [f]:=by rw [List.take_add_one,h]; rfl
 rw [e,zDW,← List.append_assoc]
 by_cases hk : k = 0
 ·subst hk
  rw [if_pos ⟨rfl,rfl⟩,if_pos rfl]
 ·have hl:=(zg h).1
  have hn : r.take k ≠ []:=by
   intro e
   have:=congrArg List.length e
   rw [List.length_take,List.length_nil] at this
   omega
  rw [if_neg (fun h=>hn h.2),if_neg hk]
theorem zFR {t : List (List Fld)} {i : Nat} {r : List Fld} (h : t[i]? = some r) : zj (t.take (i + 1)) = (zj (t.take i) ++ zL (decide (r.length = 1)) true r) ++ [10]:=by
 have e : t.take (i + 1) = t.take i ++ [r]:=by rw [List.take_add_one,h]; rfl
 rw [e,zFO,List.append_assoc]; rfl
theorem zGP {f : Fld} {one : Bool} (h : f = []) (h1 : one = true) : zI5 one f = true:=by subst h; subst h1; rfl
theorem zGQ {f : Fld} {one : Bool} (h : f = []) (h1 : one = false) : zAR one f = f:=by subst h; subst h1; rfl
theorem zGR {f : Fld} {one : Bool} (h : f ≠ []) : zI5 one f = f.any zBZ:=by
 unfold zI5
 rw [decide_eq_false h]; rfl
theorem zFS {f : Fld} {one : Bool} (h : zI5 one f = true) : ([34] ++ zu f) ++ [34] = zAR one f:=by
 unfold zAR
 rw [if_pos h]; rfl
theorem zJA {f : Fld} {one : Bool} (h : zI5 one f = false) : zAR one f = f:=by
 unfold zAR
 rw [if_neg (by rw [h]; decide)]
section
variable {C : CSpec} {GT : Nat → Option AV} {H0 : Heap}
theorem zJr (b : Nat) (u : Bs) (H : Heap) (hB : BAt H0 H b u) (hl : u.length ≤ 100000000) : EFun C GT zAC [bR b] H (zAI u.length) H:=by
 obtain ⟨h0,hs,a,v,hb,hw,ha⟩:=hB
 refine zEd ?_
 rcases hw with ⟨rfl,rfl⟩ | ⟨d,rfl,h1,h2,h3,h4⟩
 ·refine zB8 (.lst (some true) 0 []) hb rfl ?_; refine zJ8 ?_
  exact sRr
 ·refine zB8 (.sl (some true) d 1 0 u.length) hb rfl ?_; refine zHy ?_
  exact sRr
set_option maxHeartbeats 16000000 in
theorem zJs (hWb : WbH C) (hWt : WtL C) (hLn : LnH C) (hAny : AnyH C) (hRep : RepH C) (hS1 : St1H C) (hS0 : St0H C) (va : AV) (t : List (List Fld)) (ha : zCV H0 va t) (hl : t.length ≤ 1048576) (hrl : ∀ r ∈ t,r.length ≤ 1048576) (hfl : ∀ r ∈ t,∀ f ∈ r,f.length ≤ 1048576)
  (hne : ∀ r ∈ t,r ≠ []) (b : Nat) (H1 : Heap) (hB : BAt H0 H1 b []) (hO : Old H0 H1) :
  EW C GT (zDL.behind 3) (finF zBn H0 (cwV t) H0) [(4,bR b),(0,va)] H1:=by
 obtain ⟨_,hlen,hat⟩:=ha
 refine hlen _ ?_; refine zBA (fun i : Nat=>[(4,bR b),(24,zAI i),(22,va),(23,zAI t.length)]) (fun i H2=>i ≤ t.length ∧ BAt H0 H2 b (zj (t.take i)) ∧ Old H0 H2 ∧ (zj (t.take i)).length ≤ 4001) (fun i=>t.length - i) 0 rfl ⟨Nat.zero_le _,hB,hO,by simp [zj]⟩ (fun i H2 hi=>?_)
 obtain ⟨hi,hB2,hO2,hu⟩:=hi
 by_cases hlt : i < t.length
 ·have dlt : decide (((i : Nat) : Int) < ((t.length : Nat) : Int)) = true:=tT
  obtain ⟨r,hr⟩ : ∃ r,t[i]? = some r:=⟨t[i],List.getElem?_eq_getElem hlt⟩
  obtain ⟨x,hxo,hx⟩:=hat i r hr
  have hm:=List.mem_of_getElem? hr
  have hrl:=hrl r hm
  have hfl:=hfl r hm
  have hrn:=hne r hm
  have hrn0 : r.length ≠ 0:=fun e=>hrn (List.length_eq_zero_iff.1 e)
  have hnx:=zFR hr
  have hpart:=zGO t i
  obtain ⟨one,hone⟩ : ∃ one,decide (r.length = 1) = one:=⟨_,rfl⟩
  rw [hone] at hnx
  refine zR dlt ?_; refine hx H2 _ hO2 (fun p hp=>?_)
  refine hp _ ?_; refine zAY r.length hxo (by simp) ?_; refine zBA (fun k : Nat=>[(30,zAI k),(4,bR b),(8,x),(28,x),(22,va),(23,zAI t.length),(24,zAI i),(29,zAI r.length)]) (fun k H3=>k ≤ r.length ∧ BAt H0 H3 b (zj (t.take i) ++ zL one true (r.take k)) ∧ Old H0 H3 ∧ (zj (t.take i) ++ zL one true (r.take k)).length ≤ 4001 ∧ (k ≠ 0 → (zj (t.take i) ++ zL one true (r.take k)).length ≤ 4000)) (fun k=>r.length - k) 0 rfl ⟨Nat.zero_le _,by rw [List.take_zero]; show BAt H0 H2 b (zj (t.take i) ++ []); rw [List.append_nil]; exact hB2,hO2,by rw [List.take_zero]; show (zj (t.take i) ++ [] : Fld).length ≤ 4001; rw [List.append_nil]; exact hu,fun h=>absurd rfl h⟩ (fun k H3 hi3=>?_)
  obtain ⟨hk,hB3,hO3,hu3,hu4⟩:=hi3
  by_cases hlk : k < r.length
  ·have dlk : decide (((k : Nat) : Int) < ((r.length : Nat) : Int)) = true:=tT
   obtain ⟨f,hf⟩ : ∃ f,r[k]? = some f:=⟨r[k],List.getElem?_eq_getElem hlk⟩
   have hff:=hfl f (List.mem_of_getElem? hf)
   have hcn:=zD1 one hf
   have hpk:=hpart (k + 1) r hr
   rw [hone,hcn] at hpk
   have hfT:=zI6 one f
   have hes:=(zCl f).2
   obtain ⟨u,hu0⟩ : ∃ u,zj (t.take i) ++ zL one true (r.take k) = u:=⟨_,rfl⟩
   have hu2 : zj (t.take i) ++ zL one true (r.take (k + 1)) = (u ++ (if k = 0 then [] else [44])) ++ zAR one f:=by rw [hcn,← hu0]; simp only [List.append_assoc]
   rw [hu0] at hB3 hu3 hu4
   have hful : 4000 < ((u ++ (if k = 0 then [] else [44])) ++ zAR one f).length → cwV t = .tup [.str [],zH3 4]:=fun h=>zIM hne (by
    rw [← hu2,List.length_append] at h
    rw [hcn] at h
    omega)
   have hany:=fun H=>hAny f H hff
   have hrep:=fun H=>hRep f H hff
   refine zR dlk ?_; refine zEO k (.str f) hxo rfl (by rw [List.getElem?_map,hf]; rfl) ?_; refine zB7 (.str f) rfl ?_
   by_cases hk0 : k = 0
   ·rw [if_pos hk0] at hu2 hful
    rw [List.append_nil] at hu2 hful
    have dk : decide (((k : Nat) : Int) > 0) = false:=tF
    have hul : u.length ≤ 4002:=by first | omega | (rw [List.length_append]; simp only [List.length_cons,List.length_nil]; omega)
    obtain ⟨Hb,hwt,hBb⟩:=hWt H0 b u (zAR one f) H3 hB3 hO3 tO
    have hln:=hLn H0 b _ Hb hBb.1 (by rw [List.length_append]; omega)
    by_cases hF : 4000 < (u ++ zAR one f).length
    ·have dF : decide ((((u ++ zAR one f).length : Nat) : Int) > 4000) = true:=tT
     rw [hful hF]
     clear hWb hWt hLn hAny hRep hS1 hS0 hful
     by_cases he : f = []
     ·have hfe : (f == ([] : Fld)) = true:=tE he
      by_cases h1 : r.length = 1
      ·have d1 : (((r.length : Nat) : Int) == 1) = true:=tE
       rw [← zFS (zGP he (by rw [← hone]; exact decide_eq_true h1))] at hwt
       refine zS dk ?_; refine zR hfe ?_; refine zAY r.length hxo (by simp) ?_; refine zC ?_; refine zR d1 ?_; refine zC ?_; refine zC ?_; refine zM (hrep _) ?_; refine zA9 (by first | omega | (simp only [List.length_append,List.length_cons,List.length_nil]; omega)) ?_; refine zA9 (by first | omega | (simp only [List.length_append,List.length_cons,List.length_nil]; omega)) ?_; refine zAF hwt (fun h=>nomatch h) ?_
       refine zM hln ?_; refine zR dF ?_
       exact z2 rfl rfl rfl rfl hBb.2.1
      ·have d1 : (((r.length : Nat) : Int) == 1) = false:=tN
       have hq0:=zGQ (one:=one) he (by rw [← hone]; exact decide_eq_false h1)
       rw [hq0] at hwt
       have hany0 : f.any zBZ = false:=by rw [he]; rfl
       rw [hany0] at hany
       refine zS dk ?_; refine zR hfe ?_; refine zAY r.length hxo (by simp) ?_; refine zC ?_; refine zS d1 ?_; refine zM (hany _) ?_; refine zB ?_; refine zB ?_; refine zAF hwt (fun h=>nomatch h) ?_; refine zM hln ?_; refine zR dF ?_
       exact z2 rfl rfl rfl rfl hBb.2.1
     ·have hfe : (f == ([] : Fld)) = false:=tN he
      have hqn:=zGR (one:=one) he
      cases hab : f.any zBZ with
      | true=>
       rw [hab] at hany hqn
       rw [← zFS hqn] at hwt
       refine zS dk ?_; refine zS hfe ?_; refine zB ?_; refine zB ?_; refine zM (hany _) ?_; refine zB ?_; refine zC ?_; refine zM (hrep _) ?_; refine zA9 (by first | omega | (simp only [List.length_append,List.length_cons,List.length_nil]; omega)) ?_; refine zA9 (by first | omega | (simp only [List.length_append,List.length_cons,List.length_nil]; omega)) ?_; refine zAF hwt (fun h=>nomatch h) ?_
       refine zM hln ?_; refine zR dF ?_
       exact z2 rfl rfl rfl rfl hBb.2.1
      | false=>
       rw [hab] at hany hqn
       rw [zJA hqn] at hwt
       refine zS dk ?_; refine zS hfe ?_; refine zB ?_; refine zB ?_; refine zM (hany _) ?_; refine zB ?_; refine zB ?_; refine zAF hwt (fun h=>nomatch h) ?_; refine zM hln ?_; refine zR dF ?_
       exact z2 rfl rfl rfl rfl hBb.2.1
    ·have dF : decide ((((u ++ zAR one f).length : Nat) : Int) > 4000) = false:=tF
     clear hWb hWt hLn hAny hRep hS1 hS0 hful
     by_cases he : f = []
     ·have hfe : (f == ([] : Fld)) = true:=tE he
      by_cases h1 : r.length = 1
      ·have d1 : (((r.length : Nat) : Int) == 1) = true:=tE
       rw [← zFS (zGP he (by rw [← hone]; exact decide_eq_true h1))] at hwt
       refine zS dk ?_; refine zR hfe ?_; refine zAY r.length hxo (by simp) ?_; refine zC ?_; refine zR d1 ?_; refine zC ?_; refine zC ?_; refine zM (hrep _) ?_; refine zA9 (by first | omega | (simp only [List.length_append,List.length_cons,List.length_nil]; omega)) ?_; refine zA9 (by first | omega | (simp only [List.length_append,List.length_cons,List.length_nil]; omega)) ?_; refine zAF hwt (fun h=>nomatch h) ?_
       refine zM hln ?_; refine zS dF ?_; refine zW (r:=k + 1) tO tO ?_
       exact zV (k + 1) rfl ⟨by omega,by rw [hu2]; exact hBb.1,hBb.2.1,by rw [hu2]; omega,fun _=>by rw [hu2]; omega⟩ (by show _ < _; omega)
      ·have d1 : (((r.length : Nat) : Int) == 1) = false:=tN
       have hq0:=zGQ (one:=one) he (by rw [← hone]; exact decide_eq_false h1)
       rw [hq0] at hwt
       have hany0 : f.any zBZ = false:=by rw [he]; rfl
       rw [hany0] at hany
       refine zS dk ?_; refine zR hfe ?_; refine zAY r.length hxo (by simp) ?_; refine zC ?_; refine zS d1 ?_; refine zM (hany _) ?_; refine zB ?_; refine zB ?_; refine zAF hwt (fun h=>nomatch h) ?_; refine zM hln ?_; refine zS dF ?_; refine zW (r:=k + 1) tO tO ?_
       exact zV (k + 1) rfl ⟨by omega,by rw [hu2]; exact hBb.1,hBb.2.1,by rw [hu2]; omega,fun _=>by rw [hu2]; omega⟩ (by show _ < _; omega)
     ·have hfe : (f == ([] : Fld)) = false:=tN he
      have hqn:=zGR (one:=one) he
      cases hab : f.any zBZ with
      | true=>
       rw [hab] at hany hqn
       rw [← zFS hqn] at hwt
       refine zS dk ?_; refine zS hfe ?_; refine zB ?_; refine zB ?_; refine zM (hany _) ?_; refine zB ?_; refine zC ?_; refine zM (hrep _) ?_; refine zA9 (by first | omega | (simp only [List.length_append,List.length_cons,List.length_nil]; omega)) ?_; refine zA9 (by first | omega | (simp only [List.length_append,List.length_cons,List.length_nil]; omega)) ?_; refine zAF hwt (fun h=>nomatch h) ?_
       refine zM hln ?_; refine zS dF ?_; refine zW (r:=k + 1) tO tO ?_
       exact zV (k + 1) rfl ⟨by omega,by rw [hu2]; exact hBb.1,hBb.2.1,by rw [hu2]; omega,fun _=>by rw [hu2]; omega⟩ (by show _ < _; omega)
      | false=>
       rw [hab] at hany hqn
       rw [zJA hqn] at hwt
       refine zS dk ?_; refine zS hfe ?_; refine zB ?_; refine zB ?_; refine zM (hany _) ?_; refine zB ?_; refine zB ?_; refine zAF hwt (fun h=>nomatch h) ?_; refine zM hln ?_; refine zS dF ?_; refine zW (r:=k + 1) tO tO ?_
       exact zV (k + 1) rfl ⟨by omega,by rw [hu2]; exact hBb.1,hBb.2.1,by rw [hu2]; omega,fun _=>by rw [hu2]; omega⟩ (by show _ < _; omega)
   ·rw [if_neg hk0] at hu2 hful
    have dk : decide (((k : Nat) : Int) > 0) = true:=tT
    obtain ⟨Ha,hwb,hBa⟩:=hWb H0 b u 44 H3 hB3 hO3 tO
    have hul : (u ++ [44]).length ≤ 4002:=by first | omega | (rw [List.length_append]; simp only [List.length_cons,List.length_nil]; omega)
    obtain ⟨Hb,hwt,hBb⟩:=hWt H0 b (u ++ [44]) (zAR one f) Ha hBa.1 hBa.2.1 tO
    have hln:=hLn H0 b _ Hb hBb.1 (by rw [List.length_append]; omega)
    by_cases hF : 4000 < ((u ++ [44]) ++ zAR one f).length
    ·have dF : decide (((((u ++ [44]) ++ zAR one f).length : Nat) : Int) > 4000) = true:=tT
     rw [hful hF]
     clear hWb hWt hLn hAny hRep hS1 hS0 hful
     by_cases he : f = []
     ·have hfe : (f == ([] : Fld)) = true:=tE he
      by_cases h1 : r.length = 1
      ·have d1 : (((r.length : Nat) : Int) == 1) = true:=tE
       rw [← zFS (zGP he (by rw [← hone]; exact decide_eq_true h1))] at hwt
       refine zR dk ?_; refine zAF hwb (fun h=>nomatch h) ?_; refine zR hfe ?_; refine zAY r.length hxo (by simp) ?_; refine zC ?_; refine zR d1 ?_; refine zC ?_; refine zC ?_; refine zM (hrep _) ?_; refine zA9 (by first | omega | (simp only [List.length_append,List.length_cons,List.length_nil]; omega)) ?_; refine zA9 (by first | omega | (simp only [List.length_append,List.length_cons,List.length_nil]; omega)) ?_
       refine zAF hwt (fun h=>nomatch h) ?_; refine zM hln ?_; refine zR dF ?_
       exact z2 rfl rfl rfl rfl hBb.2.1
      ·have d1 : (((r.length : Nat) : Int) == 1) = false:=tN
       have hq0:=zGQ (one:=one) he (by rw [← hone]; exact decide_eq_false h1)
       rw [hq0] at hwt
       have hany0 : f.any zBZ = false:=by rw [he]; rfl
       rw [hany0] at hany
       refine zR dk ?_; refine zAF hwb (fun h=>nomatch h) ?_; refine zR hfe ?_; refine zAY r.length hxo (by simp) ?_; refine zC ?_; refine zS d1 ?_; refine zM (hany _) ?_; refine zB ?_; refine zB ?_; refine zAF hwt (fun h=>nomatch h) ?_; refine zM hln ?_; refine zR dF ?_
       exact z2 rfl rfl rfl rfl hBb.2.1
     ·have hfe : (f == ([] : Fld)) = false:=tN he
      have hqn:=zGR (one:=one) he
      cases hab : f.any zBZ with
      | true=>
       rw [hab] at hany hqn
       rw [← zFS hqn] at hwt
       refine zR dk ?_; refine zAF hwb (fun h=>nomatch h) ?_; refine zS hfe ?_; refine zB ?_; refine zB ?_; refine zM (hany _) ?_; refine zB ?_; refine zC ?_; refine zM (hrep _) ?_; refine zA9 (by first | omega | (simp only [List.length_append,List.length_cons,List.length_nil]; omega)) ?_; refine zA9 (by first | omega | (simp only [List.length_append,List.length_cons,List.length_nil]; omega)) ?_
       refine zAF hwt (fun h=>nomatch h) ?_; refine zM hln ?_; refine zR dF ?_
       exact z2 rfl rfl rfl rfl hBb.2.1
      | false=>
       rw [hab] at hany hqn
       rw [zJA hqn] at hwt
       refine zR dk ?_; refine zAF hwb (fun h=>nomatch h) ?_; refine zS hfe ?_; refine zB ?_; refine zB ?_; refine zM (hany _) ?_; refine zB ?_; refine zB ?_; refine zAF hwt (fun h=>nomatch h) ?_; refine zM hln ?_; refine zR dF ?_
       exact z2 rfl rfl rfl rfl hBb.2.1
    ·have dF : decide (((((u ++ [44]) ++ zAR one f).length : Nat) : Int) > 4000) = false:=tF
     clear hWb hWt hLn hAny hRep hS1 hS0 hful
     by_cases he : f = []
     ·have hfe : (f == ([] : Fld)) = true:=tE he
      by_cases h1 : r.length = 1
      ·have d1 : (((r.length : Nat) : Int) == 1) = true:=tE
       rw [← zFS (zGP he (by rw [← hone]; exact decide_eq_true h1))] at hwt
       refine zR dk ?_; refine zAF hwb (fun h=>nomatch h) ?_; refine zR hfe ?_; refine zAY r.length hxo (by simp) ?_; refine zC ?_; refine zR d1 ?_; refine zC ?_; refine zC ?_; refine zM (hrep _) ?_; refine zA9 (by first | omega | (simp only [List.length_append,List.length_cons,List.length_nil]; omega)) ?_; refine zA9 (by first | omega | (simp only [List.length_append,List.length_cons,List.length_nil]; omega)) ?_
       refine zAF hwt (fun h=>nomatch h) ?_; refine zM hln ?_; refine zS dF ?_; refine zW (r:=k + 1) tO tO ?_
       exact zV (k + 1) rfl ⟨by omega,by rw [hu2]; exact hBb.1,hBb.2.1,by rw [hu2]; omega,fun _=>by rw [hu2]; omega⟩ (by show _ < _; omega)
      ·have d1 : (((r.length : Nat) : Int) == 1) = false:=tN
       have hq0:=zGQ (one:=one) he (by rw [← hone]; exact decide_eq_false h1)
       rw [hq0] at hwt
       have hany0 : f.any zBZ = false:=by rw [he]; rfl
       rw [hany0] at hany
       refine zR dk ?_; refine zAF hwb (fun h=>nomatch h) ?_; refine zR hfe ?_; refine zAY r.length hxo (by simp) ?_; refine zC ?_; refine zS d1 ?_; refine zM (hany _) ?_; refine zB ?_; refine zB ?_; refine zAF hwt (fun h=>nomatch h) ?_; refine zM hln ?_; refine zS dF ?_; refine zW (r:=k + 1) tO tO ?_
       exact zV (k + 1) rfl ⟨by omega,by rw [hu2]; exact hBb.1,hBb.2.1,by rw [hu2]; omega,fun _=>by rw [hu2]; omega⟩ (by show _ < _; omega)
     ·have hfe : (f == ([] : Fld)) = false:=tN he
      have hqn:=zGR (one:=one) he
      cases hab : f.any zBZ with
      | true=>
       rw [hab] at hany hqn
       rw [← zFS hqn] at hwt
       refine zR dk ?_; refine zAF hwb (fun h=>nomatch h) ?_; refine zS hfe ?_; refine zB ?_; refine zB ?_; refine zM (hany _) ?_; refine zB ?_; refine zC ?_; refine zM (hrep _) ?_; refine zA9 (by first | omega | (simp only [List.length_append,List.length_cons,List.length_nil]; omega)) ?_; refine zA9 (by first | omega | (simp only [List.length_append,List.length_cons,List.length_nil]; omega)) ?_
       refine zAF hwt (fun h=>nomatch h) ?_; refine zM hln ?_; refine zS dF ?_; refine zW (r:=k + 1) tO tO ?_
       exact zV (k + 1) rfl ⟨by omega,by rw [hu2]; exact hBb.1,hBb.2.1,by rw [hu2]; omega,fun _=>by rw [hu2]; omega⟩ (by show _ < _; omega)
      | false=>
       rw [hab] at hany hqn
       rw [zJA hqn] at hwt
       refine zR dk ?_; refine zAF hwb (fun h=>nomatch h) ?_; refine zS hfe ?_; refine zB ?_; refine zB ?_; refine zM (hany _) ?_; refine zB ?_; refine zB ?_; refine zAF hwt (fun h=>nomatch h) ?_; refine zM hln ?_; refine zS dF ?_; refine zW (r:=k + 1) tO tO ?_
       exact zV (k + 1) rfl ⟨by omega,by rw [hu2]; exact hBb.1,hBb.2.1,by rw [hu2]; omega,fun _=>by rw [hu2]; omega⟩ (by show _ < _; omega)
  ·have ek : k = r.length:=by omega
   subst ek
   have dlk : decide (((r.length : Nat) : Int) < ((r.length : Nat) : Int)) = false:=tF
   have hu5:=hu4 hrn0
   rw [List.take_length] at hB3 hu5
   obtain ⟨Ha,hwb,hBa⟩:=hWb H0 b _ 10 H3 hB3 hO3 tO
   rw [← hnx] at hBa
   clear hWb hWt hLn hAny hRep hS1 hS0
   refine zS dlk ?_; refine zAF hwb (fun h=>nomatch h) ?_; refine zW (r:=i + 1) tO tO ?_
   exact zV (i + 1) rfl ⟨by omega,hBa.1,hBa.2.1,by rw [hnx,List.length_append]; simp only [List.length_cons,List.length_nil]; omega⟩ (by show _ < _; omega)
 ·have ei : i = t.length:=by omega
  subst ei
  have dlt : decide (((t.length : Nat) : Int) < ((t.length : Nat) : Int)) = false:=tF
  rw [List.take_length] at hB2 hu
  have hln:=hLn H0 b _ H2 hB2 tO
  by_cases hF : 4000 < (zj t).length
  ·have dF : decide ((((zj t).length : Nat) : Int) > 4000) = true:=tT
   rw [zIM hne hF]
   clear hWb hWt hLn hAny hRep hS1 hS0
   refine zS dlt ?_; refine zM hln ?_; refine zR dF ?_
   exact z2 rfl rfl rfl rfl hO2
  ·have dF : decide ((((zj t).length : Nat) : Int) > 4000) = false:=tF
   rw [cw_ok hne hF]
   by_cases he : zj t = []
   ·have hs:=hS0 H0 b H2 (by rw [← he]; exact hB2)
    rw [← he] at hs
    clear hWb hWt hLn hAny hRep hS1 hS0
    refine zS dlt ?_; refine zM hln ?_; refine zS dF ?_; refine zM hs ?_
    exact z2 rfl rfl rfl rfl hO2
   ·obtain ⟨H4,hs,h4,hO4,hl4⟩:=hS1 H0 b _ H2 hB2 hO2 he
    clear hWb hWt hLn hAny hRep hS1 hS0
    refine zS dlt ?_; refine zM hln ?_; refine zS dF ?_; refine zAF hs (fun h=>nomatch h) ?_
    exact z2 rfl rfl rfl rfl hO4
set_option maxHeartbeats 8000000 in
theorem zIN (hWb : WbH C) (hWt : WtL C) (hLn : LnH C) (hAny : AnyH C) (hRep : RepH C) (hS1 : St1H C) (hS0 : St0H C) (va : AV) (t : List (List Fld)) (H : Heap) (ha : zCV H va t) (hl : t.length ≤ 1048576) (hrl : ∀ r ∈ t,r.length ≤ 1048576) (hfl : ∀ r ∈ t,∀ f ∈ r,f.length ≤ 1048576) :
  EFun C GT zBn [va] H (cwV t) H:=by
 have key:=fun hne (H1 : Heap) hB hO=>zJs (C:=C) (GT:=GT) (H0:=H) hWb hWt hLn hAny hRep hS1 hS0 va t ha hl hrl hfl hne H.length H1 hB hO
 obtain ⟨_,hlen,hat⟩:=ha
 clear hWb hWt hLn hAny hRep hS1 hS0 hfl
 refine zEd ?_; refine zIV (v:=.ref H.length 0 0 0) (H':=(H ++ [ABlk.box [.nilp,.lst (some true) 0 []]]) ++ [ABlk.shp H.length zE 2]) rfl ?_
 obtain ⟨Hd,hd⟩ : ∃ Hd,(H ++ [ABlk.box [.nilp,.lst (some true) 0 []]]) ++ [ABlk.shp H.length zE 2] = Hd:=⟨_,rfl⟩
 have hOd : Old H Hd:=by rw [← hd]; exact ((Old.refl H).push _).push _
 have hBd : BAt H Hd H.length []:=by rw [← hd]; exact BAt.fresh (Old.refl H)
 rw [hd]
 refine hlen _ ?_; refine zBA (fun i : Nat=>[(13,zAI i),(11,va),(4,bR H.length),(0,va),(12,zAI t.length)]) (fun i H2=>H2 = Hd ∧ i ≤ t.length ∧ ∀ j r,j < i → t[j]? = some r → r ≠ []) (fun i=>t.length - i) 0 rfl ⟨rfl,Nat.zero_le _,fun j r h=>absurd h (Nat.not_lt_zero _)⟩ (fun i H2 hi=>?_)
 obtain ⟨rfl,hi,hall⟩:=hi
 by_cases hlt : i < t.length
 ·have dlt : decide (((i : Nat) : Int) < ((t.length : Nat) : Int)) = true:=tT
  obtain ⟨r,hr⟩ : ∃ r,t[i]? = some r:=⟨t[i],List.getElem?_eq_getElem hlt⟩
  obtain ⟨x,hxo,hx⟩:=hat i r hr
  by_cases h0 : r = []
  ·have d0 : (((r.length : Nat) : Int) == 0) = true:=by rw [h0]; rfl
   rw [zI9 (by rw [hr,h0])]
   refine zR dlt ?_; refine hx _ _ hOd (fun p hp=>?_)
   refine hp _ ?_; refine zAY r.length hxo (by simp) ?_; refine zR d0 ?_
   exact z2 rfl rfl rfl rfl hOd
  ·have d0 : (((r.length : Nat) : Int) == 0) = false:=tN (fun e=>h0 (List.length_eq_zero_iff.1 tO))
   refine zR dlt ?_; refine hx _ _ hOd (fun p hp=>?_)
   refine hp _ ?_; refine zAY r.length hxo (by simp) ?_; refine zS d0 ?_; refine zW (r:=i + 1) tO tO ?_; refine zV (i + 1) rfl ⟨rfl,by omega,fun j q hj hq=>?_⟩ (by show _ < _; omega)
   by_cases e : j = i
   ·subst e
    rw [hr] at hq
    cases hq
    exact h0
   ·exact hall j q tO hq
 ·have ei : i = t.length:=by omega
  subst ei
  have dlt : decide (((t.length : Nat) : Int) < ((t.length : Nat) : Int)) = false:=tF
  refine zS dlt ?_
  exact zKB rfl (key (fun r hr=>by
   obtain ⟨j,hj,e⟩:=List.getElem_of_mem hr
   exact hall j r hj (by rw [List.getElem?_eq_getElem hj,e])) _ hBd hOd) rfl
end
end Go.AM
namespace Go.AM
section
variable {P : Program} {GT : Nat → Option AV} {w w' : World} {M : AMap} {I : Nat → Prop} {H : Heap}
theorem Sim.mut_at (hS : Sim GT w M I H) {b : Nat} {x : ABlk} (hb : H[b]? = some x) (hm : x.mut = true) {g o : Nat} (hM : M b = some (g,o)) : ∃ _cur : Array Value,True ∧ ¬ I g ∧ g < w.heap.size:=by
 have h:=hS.blk b x hb
 cases x with
 | dead=>simp [ABlk.mut] at hm
 | shp=>simp [ABlk.mut] at hm
 | ty=>simp [ABlk.mut] at hm
 | hd=>simp [ABlk.mut] at hm
 | frz=>simp [ABlk.mut] at hm
 | box cs=>
  obtain ⟨g1,o1,cur,h1,h2,h3,_⟩:=h
  rw [hM] at h1
  cases h1
  obtain ⟨e,fz,h4,h5⟩:=h2
  exact ⟨cur,trivial,h3,(Array.getElem?_eq_some_iff.1 h4).1⟩
 | mp ks vs=>
  obtain ⟨g1,es,cl,h1,h2,h3,_⟩:=h
  rw [hM] at h1
  simp only [Option.some.injEq,Prod.mk.injEq] at h1
  obtain ⟨rfl,_⟩:=h1
  exact ⟨#[],trivial,h3,(Array.getElem?_eq_some_iff.1 h2).1⟩
 | row k xs=>
  obtain ⟨_,⟨h1,_⟩ | ⟨g1,o1,cur,h1,h2,h3,_⟩⟩:=h
  ·rw [hM] at h1; cases h1
  ·rw [hM] at h1
   cases h1
   obtain ⟨e,fz,h4,h5⟩:=h2
   exact ⟨cur,trivial,h3,(Array.getElem?_eq_some_iff.1 h4).1⟩
theorem zG6 (hS : Sim GT w M I H) {b : Nat} {x : ABlk} (hb : H[b]? = some x) (hm : x.mut = true) {g o : Nat} (hM : M b = some (g,o)) (hos : w'.os = w.os) (htape : w'.tape = w.tape) (hout : w'.output = w.output) (hsize : w.heap.size ≤ w'.heap.size)
  (hfr : ∀ j,j < w.heap.size → j ≠ g → w'.heap[j]? = w.heap[j]?) (hshape : ∀ s,w.shape? g = some s → w'.shape? g = some s) {y : ABlk} {G : Nat → Prop} (hG : ∀ j,G j → (j = g ∧ y.mut = false) ∨ w.heap.size ≤ j) (hGl : ∀ j,G j → j < w'.heap.size)
  (hy : zCn w' M (fun j=>I j ∨ G j) H.length b y) :
  Grow w M I H w' M (fun j=>I j ∨ G j) (H.set b y) ∧ Sim GT w' M (fun j=>I j ∨ G j) (H.set b y):=by
 obtain ⟨cur,hcur,hnI,hglt⟩:=hS.mut_at hb hm hM
 have hblt:=(zg hb).1
 have live : zA7 H M g:=⟨b,x,o,hb,hm,hM⟩
 have shp : ∀ j s,w.shape? j = some s → w'.shape? j = some s:=fun j s hs=>by
  by_cases hj : j = g
  ·subst hj; exact hshape s hs
  ·have hlt : j < w.heap.size:=by
    rcases Nat.lt_or_ge j w.heap.size with h | h
    ·exact h
    ·simp [World.shape?,Array.getElem?_eq_none h] at hs
   rw [zT (hfr j hlt hj)]; exact hs
 have hIh : ∀ k,I k → w'.heap[k]? = w.heap[k]?:=fun k hk=>hfr k (hS.idom k hk) (fun e=>hnI (e ▸ hk))
 have other : ∀ b' x',(H.set b y)[b']? = some x' → b' ≠ b → H[b']? = some x':=fun b' x' h hne=>by rwa [List.getElem?_set_ne (Ne.symm hne)] at h
 have at_b : (H.set b y)[b]? = some y:=List.getElem?_set_self hblt
 refine ⟨⟨hos,htape,hout,hsize,fun _ _=>rfl,fun _ h=>.inl h,fun j hj hlt=>?_,fun j hlt hn=>hfr j hlt (fun e=>hn (e ▸ live)),fun j hlt hl=>?_,shp,by rw [List.length_set]; exact Nat.le_refl _⟩, ?_⟩
 ·rcases hj with hj | hj
  ·exact .inl hj
  ·rcases hG j hj with ⟨rfl,_⟩ | h
   ·exact .inr live
   ·omega
 ·obtain ⟨b',x',o',h1,h2,h3⟩:=hl
  by_cases e : b' = b
  ·subst e
   rw [hM] at h3
   cases h3
   exact live
  ·exact ⟨b',x',o',other b' x' h1 e,h2,h3⟩
 ·refine ⟨fun q z hz=>?_,fun k hk=>?_,fun b' x' hx=>?_,fun b1 b2 x1 x2 g1 o1 o2 h1 m1 h2 m2 e1 e2=>?_,fun q z hz=>?_⟩
  ·exact (hS.glob q z hz).mono (M':=M) (n:=0) (fun _ h=>.inl h) hIh (fun _ h=>absurd h (Nat.not_lt_zero _)) (Nat.zero_le _) shp
  ·rcases hk with hk | hk
   ·exact Nat.lt_of_lt_of_le (hS.idom k hk) hsize
   ·exact hGl k hk
  ·rw [List.length_set]
   by_cases e : b' = b
   ·subst e
    rw [at_b] at hx
    cases hx
    exact hy
   ·have hx':=other b' x' hx e
    have far : ∀ g1 o1,M b' = some (g1,o1) → x'.mut = true → g1 ≠ g ∧ g1 < w.heap.size:=fun g1 o1 h1 hm1=>by
     refine ⟨fun eg=>?_,(hS.mut_at hx' hm1 h1).choose_spec.2.2⟩
     subst eg
     exact e (hS.inj b' b x' x g1 o1 o hx' hm1 hb hm h1 hM)
    refine (hS.blk b' x' hx').mono (zg hx').1 (fun _ h=>.inl h) hIh (fun _ _=>rfl) (Nat.le_refl _) shp (fun g1 o1 h1 hm1=>?_) (fun g1 o1 h1 hm1 hn=>?_)
    ·exact hfr g1 (far g1 o1 h1 hm1).2 (far g1 o1 h1 hm1).1
    ·rintro (h | h)
     ·exact hn h
     ·rcases hG g1 h with ⟨rfl,_⟩ | h'
      ·exact (far _ o1 h1 hm1).1 rfl
      ·have:=(far g1 o1 h1 hm1).2
       omega
  ·have key : ∀ {b1 b2 : Nat} {x1 x2 : ABlk} {g1 o1 o2 : Nat},(H.set b y)[b1]? = some x1 → x1.mut = true → (H.set b y)[b2]? = some x2 → x2.mut = true → M b1 = some (g1,o1) → M b2 = some (g1,o2) → b1 = b → b2 = b:=by
    intro b1 b2 x1 x2 g1 o1 o2 h1 m1 h2 m2 e1 e2 e
    subst e
    by_cases e' : b2 = b1
    ·exact e'
    ·rw [hM] at e1
     cases e1
     exact hS.inj b2 b1 x2 x g o2 o (other b2 x2 h2 e') m2 hb hm e2 hM
   by_cases c1 : b1 = b
   ·exact c1.trans (key h1 m1 h2 m2 e1 e2 c1).symm
   ·by_cases c2 : b2 = b
    ·exact absurd (key h2 m2 h1 m1 e2 e1 c2) c1
    ·exact hS.inj b1 b2 x1 x2 g1 o1 o2 (other b1 x1 h1 c1) m1 (other b2 x2 h2 c2) m2 e1 e2
  ·obtain ⟨e,h⟩:=hS.shp q z hz
   exact ⟨e,shp q _ h⟩
end
end Go.AM
