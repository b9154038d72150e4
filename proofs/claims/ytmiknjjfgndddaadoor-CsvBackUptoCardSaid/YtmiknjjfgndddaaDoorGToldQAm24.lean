/- Several texts of mine in one (ToldQ, Am24). Own work. -/
import Derived.Test.YtmiknjjfgndddaaDoorGAm22Fc
import Derived.Test.YtmiknjjfgndddaaDoorFk
import Derived.WideShapes
set_option linter.all false
namespace Go.AM
open Go.RowKit Go.Proofs
def gtQ (m : Int) (_ : Value) : Nat → Option AV
 | 1=>some (.int .i64 m)
 | _=>none
end Go.AM
namespace Go.AM
inductive Sh where
 | bool
 | int (k : IntKind)
 | str
 | sl (ag : Bool) (es : List Sh)
 deriving Inhabited
def formed (ag : Bool) (x : AV) : Prop:=
 match ag with
 | true=>∃ cs,x = .agg cs
 | false=>x.cells = [x]
inductive Fits : Sh → AV → Prop where
 | bool (b : Bool) : Fits .bool (.bool b)
 | int (k : IntKind) (n : Int) (h : (Lit.int k n).wf = true) : Fits (.int k) (.int k n)
 | str (s : List UInt8) (h : s.length ≤ maxLen) : Fits .str (.str s)
 | sl (ag : Bool) (es : List Sh) (q : Bool) (xs : List AV) (hl : xs.length ≤ maxLen) (hq : q = true → xs = []) (h1 : ∀ x ∈ xs,x.cells.length = es.length ∧ formed ag x)
   (h2 : ∀ x ∈ xs,∀ (i : Nat) (s : Sh) (c : AV),es[i]? = some s → x.cells[i]? = some c → Fits s c) : Fits (.sl ag es) (.lst (some q) es.length xs)
def zKl (r : TypeId → Option (Bool × List Sh)) (P : Program) : List Field → Nat → Option (List Sh)
 | [],_=>some []
 | f :: fs,o=>if f.offset = o then (match r f.type with
  | some (_,ss)=>if P.cellsOf f.type = ss.length then (zKl r P fs (o + ss.length)).map (ss ++ ·) else none
  | none=>none) else none
def zI1 (P : Program) : Nat → TypeId → Option (Bool × List Sh)
 | 0,_=>none
 | m + 1,t=>match P.underlying t with
  | some .bool=>some (false,[.bool])
  | some (.int k)=>some (false,[.int k])
  | some .string=>some (false,[.str])
  | some (.slice e)=>(match zI1 P m e with
   | some (ag,es)=>if P.cellsOf e = es.length ∧ 0 < es.length ∧ (ag = true ∨ es.length = 1) then some (false,[.sl ag es]) else none
   | none=>none)
  | some (.struct fs)=>(match zKl (zI1 P m) P fs.toList 0 with
   | some ss=>if P.cellsOf t = ss.length then some (true,ss) else none
   | none=>none)
  | _=>none
theorem zAq {α β : Type} {f : α → Option β} : ∀ {l : List α} {r : List β},l.mapM f = some r → r.length = l.length ∧ ∀ (i : Nat) (x : α),l[i]? = some x → ∃ y,r[i]? = some y ∧ f x = some y
 | [],r,h=>by
  simp at h; subst h; exact ⟨rfl,fun i x hx=>by simp at hx⟩
 | a :: l,r,h=>by
  simp only [List.mapM_cons,Option.bind_eq_bind,Option.pure_def] at h
  obtain ⟨y,hy,h⟩:=Option.bind_eq_some_iff.1 h
  obtain ⟨ys,hys,h⟩:=Option.bind_eq_some_iff.1 h
  simp only [Option.some.injEq] at h
  subst h
  obtain ⟨h1,h2⟩:=zAq hys
  refine ⟨by simp [h1],fun i x hx=>?_⟩
  cases i with
  | zero=>simp at hx; subst hx; exact ⟨y,rfl,hy⟩
  | succ i=>simp at hx; obtain ⟨z,e1,e2⟩:=h2 i x hx; exact ⟨z,by simpa using e1,e2⟩
theorem zIU {p : Nat → AV → Prop} : ∀ n,(∀ i,i < n → ∃ x,p i x) → ∃ xs : List AV,xs.length = n ∧ ∀ i x,xs[i]? = some x → p i x
 | 0,_=>⟨[],rfl,fun i x h=>by simp at h⟩
 | n + 1,h=>by
  obtain ⟨xs,h1,h2⟩:=zIU n fun i hi=>h i tO
  obtain ⟨x,hx⟩:=h n tO
  refine ⟨xs ++ [x],by simp [h1],fun i y hy=>?_⟩
  by_cases hi : i < n
  ·rw [List.getElem?_append_left tO] at hy; exact h2 i y hy
  ·rw [List.getElem?_append_right tO] at hy
   have : i - xs.length = 0:=by
    have:=(zg hy).1
    simp at this; omega
   rw [this] at hy; simp at hy; subst hy
   have : i = n:=by omega
   subst this; exact hx
theorem Fits.free {s : Sh} {x : AV} (h : Fits s x) : x.noRef = true ∧ x.one = true ∧ x.cells = [x]:=by
 cases h <;> exact ⟨rfl,rfl,rfl⟩
theorem zIV {w : World} {a : Addr} {v : Value} (h : w.cell? a = some v) : a.block < w.heap.size ∧ a.spot = none:=by
 unfold World.cell? at h
 split at h
 ·rename_i hb
  split at h
  ·cases h
  ·rename_i hs
   refine ⟨?_,by simpa using hs⟩
   obtain ⟨hlt,_⟩:=Array.getElem?_eq_some_iff.1 hb
   exact hlt
 ·cases h
structure Stands (w : World) (ss : List Sh) (xs : List AV) (cs : List Value) : Prop where
 len : xs.length = ss.length
 clen : cs.length = ss.length
 fits : ∀ (i : Nat) (s : Sh) (x : AV),ss[i]? = some s → xs[i]? = some x → Fits s x
 rel : ∀ (i : Nat) (x : AV) (v : Value),xs[i]? = some x → cs[i]? = some v → Rel w (fun _=>none) (zCT w) 0 x v
theorem Stands.fits' {w : World} {ss : List Sh} {xs : List AV} {cs : List Value} (h : Stands w ss xs cs) {x : AV} (hx : x ∈ xs) : ∃ s,Fits s x:=by
 obtain ⟨i,hi⟩:=List.getElem?_of_mem hx
 have hlt:=(zg hi).1
 exact ⟨ss[i]'(by rw [← h.len]; exact hlt),h.fits i _ x (List.getElem?_eq_getElem _) hi⟩
theorem zAr {w : World} {s : Sh} {x : AV} {v : Value} (hf : Fits s x) (hr : Rel w (fun _=>none) (zCT w) 0 x v) : Stands w [s] [x] [v] where
 len:=rfl
 clen:=rfl
 fits:=fun i s' x' h1 h2=>by
  cases i with
  | zero=>simp at h1 h2; subst h1; subst h2; exact hf
  | succ i=>simp at h1
 rel:=fun i x' v' h1 h2=>by
  cases i with
  | zero=>simp at h1 h2; subst h1; subst h2; exact hr
  | succ i=>simp at h1
section
variable {H : Type} {enc : TypeId × Value → H} {P : Program} {w : World} {held : Bool}
theorem zES {fuel m : Nat} (ih : ∀ (t : TypeId) (cs : List Value) (d : DataW H) (ps : List MemPlace) (ag : Bool) (ss : List Sh),DataW.trod enc P w 0 (fun _=>true) held fuel t cs = some (d,ps) → zI1 P m t = some (ag,ss) → ∃ xs,Stands w ss xs cs)
  (cs : List Value) : ∀ (fs : List Field) (o : Nat) (ss : List Sh) (r : List (DataW H × List MemPlace)),(fs.mapM fun f=>DataW.trod enc P w 0 (fun _=>true) held fuel f.type ((cs.drop f.offset).take (P.cellsOf f.type))) = some r → zKl (zI1 P m) P fs o = some ss →
  ∃ xs : List AV,xs.length = ss.length ∧ (∀ (i : Nat) (s : Sh) (x : AV),ss[i]? = some s → xs[i]? = some x → Fits s x) ∧ ∀ (i : Nat) (x : AV) (v : Value),xs[i]? = some x → cs[o + i]? = some v → Rel w (fun _=>none) (zCT w) 0 x v:=by
 intro fs
 induction fs with
 | nil=>
  intro o ss r _ hs
  simp only [zKl,Option.some.injEq] at hs
  subst hs
  exact ⟨[],rfl,fun i s x h=>by simp at h,fun i x v h=>by simp at h⟩
 | cons f fs ihf=>
  intro o ss r h hs
  unfold zKl at hs
  split at hs
  case isFalse=>cases hs
  rename_i ho
  split at hs
  case h_2=>cases hs
  rename_i ag ss1 h1
  split at hs
  case isFalse=>cases hs
  rename_i hc
  obtain ⟨ss2,h2,rfl⟩:=Option.map_eq_some_iff.1 hs
  simp only [List.mapM_cons,Option.bind_eq_bind,Option.pure_def] at h
  obtain ⟨⟨d,p⟩,hy,h⟩:=Option.bind_eq_some_iff.1 h
  obtain ⟨ys,hys,_⟩:=Option.bind_eq_some_iff.1 h
  obtain ⟨xs1,S1⟩:=ih _ _ _ _ _ _ hy h1
  obtain ⟨xs2,e1,e2,e3⟩:=ihf _ _ _ hys h2
  refine ⟨xs1 ++ xs2,by rw [List.length_append,List.length_append,S1.len,e1],fun i s x h3 h4=>?_,fun i x v h3 h4=>?_⟩
  ·by_cases hi : i < ss1.length
   ·rw [List.getElem?_append_left hi] at h3
    rw [List.getElem?_append_left (by rw [S1.len]; exact hi)] at h4
    exact S1.fits i s x h3 h4
   ·rw [List.getElem?_append_right tO] at h3
    rw [List.getElem?_append_right (by rw [S1.len]; omega),S1.len] at h4
    exact e2 _ s x h3 h4
  ·by_cases hi : i < ss1.length
   ·rw [List.getElem?_append_left (by rw [S1.len]; exact hi)] at h3
    refine S1.rel i x v h3 ?_
    rw [List.getElem?_take,if_pos (by rw [hc]; exact hi),List.getElem?_drop,ho]
    exact h4
   ·rw [List.getElem?_append_right (by rw [S1.len]; omega),S1.len] at h3
    refine e3 _ x v h3 ?_
    rw [← h4]; congr 1; omega
theorem zHG {a : Addr} {n : Nat} {cs : List Value} (h : w.cells? 0 a n = some cs) : cs.length = n ∧ ∀ j v,cs[j]? = some v → w.cell? (a.add j) = some v:=by
 unfold World.cells? at h
 rw [if_pos (Nat.zero_le _)] at h
 obtain ⟨h1,h2⟩:=zAq h
 rw [List.length_range] at h1
 refine ⟨h1,fun j v hj=>?_⟩
 have hlt : j < n:=by rw [← h1]; exact (zg hj).1
 obtain ⟨y,e1,e2⟩:=h2 j j (by rw [List.getElem?_range hlt])
 rw [e1] at hj
 simp only [Option.some.injEq] at hj
 subst hj; exact e2
theorem zDV : ∀ (fuel : Nat) (t : TypeId) (cs : List Value) (d : DataW H) (ps : List MemPlace) (m : Nat) (ag : Bool) (ss : List Sh),
  DataW.trod enc P w 0 (fun _=>true) held fuel t cs = some (d,ps) → zI1 P m t = some (ag,ss) → ∃ xs,Stands w ss xs cs:=by
 intro fuel
 induction fuel with
 | zero=>intro t cs d ps m ag ss h; simp [DataW.trod] at h
 | succ fuel ih=>
  intro t cs d ps m ag ss h hs
  cases m with
  | zero=>simp [zI1] at hs
  | succ m=>
  unfold zI1 at hs
  split at hs
  ·-- bool
   rename_i hu
   simp only [Option.some.injEq,Prod.mk.injEq] at hs
   obtain ⟨_,rfl⟩:=hs
   rcases cs with _ | ⟨c,_ | ⟨c',cs⟩⟩
   ·simp [DataW.trod,hu] at h
   ·cases c <;> simp [DataW.trod,hu] at h
    exact ⟨_,zAr (.bool _) (.bool _)⟩
   ·simp [DataW.trod,hu] at h
  ·rename_i k hu
   simp only [Option.some.injEq,Prod.mk.injEq] at hs
   obtain ⟨_,rfl⟩:=hs
   rcases cs with _ | ⟨c,_ | ⟨c',cs⟩⟩
   ·simp [DataW.trod,hu] at h
   ·cases c <;> simp [DataW.trod,hu] at h
    obtain ⟨⟨rfl,hw⟩,_⟩:=h
    exact ⟨_,zAr (.int _ _ hw) (.int _ _)⟩
   ·simp [DataW.trod,hu] at h
  ·rename_i hu
   simp only [Option.some.injEq,Prod.mk.injEq] at hs
   obtain ⟨_,rfl⟩:=hs
   rcases cs with _ | ⟨c,_ | ⟨c',cs⟩⟩
   ·simp [DataW.trod,hu] at h
   ·cases c <;> simp [DataW.trod,hu] at h
    rename_i s
    have hl : s.data.toList.length ≤ maxLen:=by
     have h1 : s.size ≤ maxLen:=h.1
     exact h1
    exact ⟨_,zAr (.str s.data.toList hl) (zKF _ _ _ _ s)⟩
   ·simp [DataW.trod,hu] at h
  ·-- a slice
   rename_i e hu
   split at hs
   case h_2=>cases hs
   rename_i ag' es he
   split at hs
   case isFalse=>cases hs
   rename_i hk
   obtain ⟨hk,hk0,hk1⟩:=hk
   simp only [Option.some.injEq,Prod.mk.injEq] at hs
   obtain ⟨_,rfl⟩:=hs
   rcases cs with _ | ⟨c,_ | ⟨c',cs⟩⟩
   ·simp [DataW.trod,hu] at h
   rotate_left
   ·simp [DataW.trod,hu] at h
   cases c
   case slice a len cap=>
    cases a with
    | none=>
     cases len <;> cases cap <;> simp [DataW.trod,hu] at h
     exact ⟨_,zAr (.sl ag' es true [] (Nat.zero_le _) (fun _=>rfl) (fun x hx=>absurd hx (by simp)) (fun x hx=>absurd hx (by simp))) (.lnil _ _ (by simp))⟩
    | some a=>
     simp only [DataW.trod,hu] at h
     split at h
     case isFalse=>cases h
     rename_i hb
     obtain ⟨elems,h1,h⟩:=Option.bind_eq_some_iff.1 h
     obtain ⟨rest,h2,_⟩:=Option.map_eq_some_iff.1 h
     simp only [if_true] at h2
     have at_ : ∀ (i : Nat) (y : DataW H × List MemPlace),((w.cells? 0 (a.add (i * P.cellsOf e)) (P.cellsOf e)).bind (DataW.trod enc P w 0 (fun _=>true) held fuel e)) = some y →
       ∃ xs ci,Stands w es xs ci ∧ ∀ j v,ci[j]? = some v → w.cell? ((a.add (i * es.length)).add j) = some v:=by
      intro i y hy
      obtain ⟨ci,e1,e2⟩:=Option.bind_eq_some_iff.1 hy
      obtain ⟨xs,S⟩:=ih e ci y.1 y.2 m ag' es e2 he
      obtain ⟨e3,e4⟩:=zHG e1
      exact ⟨xs,ci,S,by rw [← hk]; exact e4⟩
     obtain ⟨l1,l2⟩:=zAq h1
     obtain ⟨l3,l4⟩:=zAq h2
     rw [List.length_range] at l1 l3
     have elem : ∀ i,i < len → ∃ x : AV,(x.cells.length = es.length ∧ formed ag' x) ∧ (∀ (j : Nat) (s : Sh) (c : AV),es[j]? = some s → x.cells[j]? = some c → Fits s c) ∧ x.elem es.length = true ∧
       ∀ j c,x.cells[j]? = some c → ∃ v,w.cell? ((a.add (i * es.length)).add j) = some v ∧ Rel w (fun _=>none) (zCT w) 0 c v:=by
      intro i hi
      obtain ⟨y,_,hy⟩:=l2 i i (by rw [List.getElem?_range hi])
      obtain ⟨xs,ci,S,hci⟩:=at_ i y hy
      have hrel : ∀ j c,xs[j]? = some c → ∃ v,w.cell? ((a.add (i * es.length)).add j) = some v ∧ Rel w (fun _=>none) (zCT w) 0 c v:=fun j c hj=>by
       have hlt : j < ci.length:=by rw [S.clen,← S.len]; exact (zg hj).1
       exact ⟨ci[j],hci j _ (List.getElem?_eq_getElem hlt),S.rel j c _ hj (List.getElem?_eq_getElem hlt)⟩
      cases ag' with
      | true=>
       refine ⟨.agg xs,⟨S.len,xs,rfl⟩,S.fits,AV.elem_iff.2 ⟨S.len, ?_,fun c hc=>?_⟩,hrel⟩
       ·simp only [AV.noRef,AV.bel,AV.belL_iff]
        intro c hc
        obtain ⟨s,hs⟩:=S.fits' hc
        exact hs.free.1
       ·obtain ⟨s,hs⟩:=S.fits' hc
        exact hs.free.2.1
      | false=>
       have h1 : es.length = 1:=by
        rcases hk1 with h | h
        ·cases h
        ·exact h
       have hl:=S.len
       rw [h1] at hl
       obtain ⟨x,rfl⟩:=List.length_eq_one_iff.1 hl
       obtain ⟨s,hs⟩:=S.fits' (x:=x) (by simp)
       obtain ⟨f1,f2,f3⟩:=hs.free
       refine ⟨x,⟨by rw [f3,h1]; rfl,f3⟩,by rw [f3]; exact S.fits,AV.elem_iff.2 ⟨by rw [f3,h1]; rfl,f1,fun c hc=>?_⟩,by rw [f3]; exact hrel⟩
       rw [f3] at hc
       simp only [List.mem_singleton] at hc
       rw [hc]; exact f2
     obtain ⟨X,x1,x2⟩:=zIU len elem
     have hmem : ∀ x ∈ X,∃ i,X[i]? = some x:=fun x hx=>List.getElem?_of_mem hx
     refine ⟨[.lst (some false) es.length X],zAr (.sl ag' es false X tO (by simp) (fun x hx=>?_) (fun x hx=>?_)) ?_⟩
     ·obtain ⟨i,hi⟩:=hmem x hx; exact (x2 i x hi).1
     ·obtain ⟨i,hi⟩:=hmem x hx; exact (x2 i x hi).2.1
     ·by_cases hc0 : cap = 0
      ·have : len = 0:=by omega
       subst this; subst hc0
       obtain rfl:=List.eq_nil_of_length_eq_zero x1
       exact .lemp _ _ a (by simp)
      ·have hcell : ∃ v,w.cell? a = some v:=by
        by_cases hl0 : len = 0
        ·obtain ⟨y,_,hy⟩:=l4 0 0 (by rw [List.getElem?_range tO])
         obtain ⟨xs,ci,S,hci⟩:=at_ _ y hy
         have hlt : 0 < ci.length:=by rw [S.clen]; exact hk0
         have h0:=hci 0 _ (List.getElem?_eq_getElem hlt)
         simp only [hl0,Nat.add_zero,Nat.zero_mul,Addr.add,if_true] at h0
         exact ⟨_,h0⟩
        ·obtain ⟨y,_,hy⟩:=l2 0 0 (by rw [List.getElem?_range tO])
         obtain ⟨xs,ci,S,hci⟩:=at_ _ y hy
         have hlt : 0 < ci.length:=by rw [S.clen]; exact hk0
         have h0:=hci 0 _ (List.getElem?_eq_getElem hlt)
         simp only [Nat.zero_mul,Addr.add,if_true] at h0
         exact ⟨_,h0⟩
       obtain ⟨v0,hv0⟩:=hcell
       obtain ⟨g1,g2⟩:=zIV hv0
       obtain ⟨ab,ao,asp⟩:=a
       simp only at g1 g2
       subst g2
       rw [← x1]
       refine Rel.mk_lst (by simp) tO hb.2.2 g1 (fun x hx=>?_) (fun i j x c hi hj=>?_)
       ·obtain ⟨i,hi⟩:=hmem x hx; exact (x2 i x hi).2.2.1
       ·obtain ⟨v,e1,e2⟩:=(x2 i x hi).2.2.2 j c hj
        simp only [Addr.add_lit] at e1
        exact ⟨v,e1,e2⟩
   all_goals (simp [DataW.trod,hu] at h)
  ·rename_i fs hu
   split at hs
   case h_2=>cases hs
   rename_i ss' hs'
   split at hs
   case isFalse=>cases hs
   rename_i hc
   simp only [Option.some.injEq,Prod.mk.injEq] at hs
   obtain ⟨_,rfl⟩:=hs
   simp only [DataW.trod,hu] at h
   split at h
   case isFalse=>cases h
   rename_i hcl
   obtain ⟨r,hr,_⟩:=Option.map_eq_some_iff.1 h
   obtain ⟨xs,e1,e2,e3⟩:=zES (fun t cs d ps ag ss h1 h2=>ih t cs d ps m ag ss h1 h2) cs _ 0 ss' r hr hs'
   exact ⟨xs,e1,by rw [hcl,hc],e2,fun i x v h1 h2=>e3 i x v h1 (by rw [Nat.zero_add]; exact h2)⟩
  ·cases hs
theorem zDK {t : TypeId} {m : Nat} {s : Sh} {v : Value} {d : DataW H} {ps : List MemPlace} {r : Reach} {b0 : Nat} (hs : zI1 P m t = some (false,[s])) (ho : Value.okWide P w r b0 t v) (h : DataW.Trod enc P w 0 (fun _=>true) held t v d ps) :
  ∃ x,Fits s x ∧ Rel w (fun _=>none) (zCT w) 0 x v:=by
 obtain ⟨fuel,h⟩:=h
 obtain ⟨xs,S⟩:=zDV fuel t _ d ps m false [s] h hs
 have hl:=S.len
 obtain ⟨x,rfl⟩:=List.length_eq_one_iff.1 hl
 have hv : v.cells.toList = [v]:=by
  cases m with
  | zero=>simp [zI1] at hs
  | succ m=>
  unfold zI1 at hs
  unfold Value.okWide at ho
  split at hs
  all_goals first
   | (cases hs; done)
   | skip
  ·rename_i hu; rw [hu] at ho; simp only [Cell.okWide,hu,Cell.ok] at ho
   cases v <;> first | rfl | (simp at ho)
  ·rename_i hu; rw [hu] at ho; simp only [Cell.okWide,hu,Cell.ok] at ho
   cases v <;> first | rfl | (simp at ho)
  ·rename_i hu; rw [hu] at ho; simp only [Cell.okWide,hu,Cell.ok] at ho
   cases v <;> first | rfl | (simp at ho)
  ·rename_i hu; rw [hu] at ho; simp only [Cell.okWide,hu,Cell.ok] at ho
   cases v <;> first | rfl | (simp at ho)
  ·split at hs
   ·split at hs
    ·cases hs
    ·cases hs
   ·cases hs
 rw [hv] at S
 exact ⟨x,S.fits 0 s x rfl rfl,S.rel 0 x v rfl rfl⟩
end
end Go.AM
