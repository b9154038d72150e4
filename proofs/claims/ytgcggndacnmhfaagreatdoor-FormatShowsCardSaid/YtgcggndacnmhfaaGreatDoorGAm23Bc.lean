/- Several texts of mine in one (Am23, Am24, Am35, Bn, Bc). Own work. -/
import Derived.Test.YtgcggndacnmhfaaGreatDoorGAm22Am30
import Derived.Below
import Derived.WideShapes
set_option linter.all false
namespace Go.AM
open Go.RowKit
theorem zF7 {P : Program} {GT : Nat → Option AV} {w : World} {M : AMap} {I : Nat → Prop} {H H' : Heap} {f : FuncId} {fn : Func} {args : List AV} {cargs : List Value} {v : AV}
    (hf : P.funcs[f]? = some fn) (hname : (fn.name == "runtime.NumGoroutine") = false) (hb : fn.body.isSome = true) (hg : Good P GT f args H v H') (hS : Sim GT w M I H) (hA : zAu w M I H.length args cargs) :
    Calls P f cargs.toArray w fun e w'=>∃ v',e = .returned v' ∧ ∃ M' I',Grow w M I H w' M' I' H' ∧ Sim GT w' M' I' H' ∧ Rel w' M' I' H'.length v v':=by
  have h1 : fn.name ≠ "runtime.NumGoroutine" := by simpa using hname
  obtain ⟨c,hb⟩:=Option.isSome_iff_exists.1 hb
  have hrun : (callFunc f cargs.toArray).run P w = .ok (.enter f cargs.toArray) w:=by simp [callFunc,hf,h1,hb]
  have h:=hg.n hA w M I cargs hS hA
  rw [hrun] at h
  exact h
def zB7 (w : World) : Nat → Prop:=fun k=>k < w.heap.size
theorem zF8 {w w' : World} {M M' : AMap} {I I' : Nat → Prop} {H' : Heap} (h : Grow w M I [] w' M' I' H') : Below w.heap.size w w':=
  ⟨h.os,h.tape,h.output,h.size,fun k hk=>h.frame k hk (by rintro ⟨b,x,o,hb,_⟩; simp at hb)⟩
theorem zLM (w : World) (M : AMap) (I : Nat → Prop) (n : Nat) : zAu w M I n [] []:=⟨rfl,fun i c v h=>by simp at h⟩
theorem zGs {w : World} {M : AMap} {I : Nat → Prop} {n : Nat} {x : AV} {v : Value} {xs : List AV} {vs : List Value} (h : Rel w M I n x v) (hs : zAu w M I n xs vs) : zAu w M I n (x :: xs) (v :: vs):=
  ⟨by rw [List.length_cons,List.length_cons,hs.1],fun i c u hc hu=>by
    cases i with
    | zero=>simp only [List.getElem?_cons_zero,Option.some.injEq] at hc hu; subst hc; subst hu; exact h
    | succ i=>simp only [List.getElem?_cons_succ] at hc hu; exact hs.2 i c u hc hu⟩
theorem zJ3 (w : World) (M : AMap) (I : Nat → Prop) (n : Nat) (s : ByteArray) : Rel w M I n (.str s.data.toList) (.string s):=.str s.data.toList
theorem zCa {w : World} {M : AMap} {I : Nat → Prop} {n : Nat} {s : List UInt8} {v : Value} (h : Rel w M I n (.str s) v) : v = .string ⟨s.toArray⟩:=by cases h; rfl
theorem zBw {w : World} {M : AMap} {I : Nat → Prop} {n : Nat} {k : IntKind} {m : Int} {v : Value} (h : Rel w M I n (.int k m) v) : v = .int k m:=by cases h; rfl
theorem zDS {w : World} {M : AMap} {I : Nat → Prop} {n : Nat} {x y : AV} {vs : List Value} (h : zAu w M I n [x,y] vs) : ∃ v u,vs = [v,u] ∧ Rel w M I n x v ∧ Rel w M I n y u:=by
  obtain ⟨hl,h⟩:=h
  match vs,hl with
  | [v,u],_=>exact ⟨v,u,rfl,h 0 x v rfl rfl,h 1 y u rfl rfl⟩
theorem zBx {GT : Nat → Option AV} {w w' : World} {M : AMap} {I : Nat → Prop} {H : Heap} (hS : Sim GT w M I H) (h : Below w.heap.size w w') : Grow w M I H w' M I H ∧ Sim GT w' M I H:=by
  have hb : ∀ k,k < w.heap.size → w'.heap[k]? = w.heap[k]?:=fun k hk=>h.block k hk
  have hs : ∀ g s,w.shape? g = some s → w'.shape? g = some s:=fun g s hg=>by
    have hlt : g < w.heap.size:=by
      unfold World.shape? at hg
      split at hg
      · rename_i e; exact (Array.getElem?_eq_some_iff.1 e).1
      · cases hg
    rw [zd (hb g hlt)]; exact hg
  refine ⟨⟨h.os,h.tape,h.output,h.size,fun _ _=>rfl,fun _ h=>h,fun _ h _=>.inl h,fun k hk _=>hb k hk,fun _ _ h=>h,hs,Nat.le_refl _⟩, ?_⟩
  refine ⟨fun g x hg=>(hS.glob g x hg).mono (fun _ h=>h) (fun k hk=>hb k (hS.idom k hk)) (fun _ _=>rfl) (Nat.le_refl _) hs,fun k hk=>Nat.lt_of_lt_of_le (hS.idom k hk) h.size,fun b x hx=>?_,hS.inj,fun g x hg=>(hS.shp g x hg).imp fun e h=>hs g _ h⟩
  exact (hS.blk b x hx).mono (zg hx).1 (fun _ h=>h) (fun k hk=>hb k (hS.idom k hk)) (fun _ _=>rfl) (Nat.le_refl _) hs (fun g o hM hm=>hb g (hS.live_lt ⟨b,x,o,hx,hm,hM⟩)) (fun _ _ _ _ h=>h)
theorem zA8 {P : Program} {GT : Nat → Option AV} {f : FuncId} {fn : Func} {args : List AV} {H : Heap} {v : AV} (hf : P.funcs[f]? = some fn) (hname : (fn.name == "runtime.NumGoroutine") = false) (hb : fn.body.isSome = true)
    (h : ∀ (w : World) (M : AMap) (I : Nat → Prop) (cargs : List Value),Sim GT w M I H → zAu w M I H.length args cargs → Calls P f cargs.toArray w fun e w'=>∃ v',e = .returned v' ∧ Below w.heap.size w w' ∧ Rel w' M I H.length v v') (hn : zFq args = true:=by first | rfl | exact Go.AM.zDi (by assumption) | exact Go.AM.zGn (by assumption) | exact Go.AM.zGo (by assumption)) : Good P GT f args H v H:=by
  refine zGR hn ?_
  intro w M I cargs hS hA
  have h1 : fn.name ≠ "runtime.NumGoroutine" := by simpa using hname
  obtain ⟨c,hb⟩:=Option.isSome_iff_exists.1 hb
  have hrun : (callFunc f cargs.toArray).run P w = .ok (.enter f cargs.toArray) w:=by simp [callFunc,hf,h1,hb]
  rw [hrun]
  exact (h w M I cargs hS hA).mono fun e w' ⟨v',he,hB,hR⟩=>⟨v',he,M,I,(zBx hS hB).1,(zBx hS hB).2,hR⟩
theorem zLN {w : World} {M : AMap} {I : Nat → Prop} {n : Nat} {a v : Value} (h : Rel w M I n (.raw a) v) : v = a:=by cases h; rfl
theorem zJ4 {P : Program} {f : FuncId} {fn : Func} {args : Array Value} {w : World} (hf : P.funcs[f]? = some fn) (hname : (fn.name == "runtime.NumGoroutine") = false) (hb : fn.body.isSome = true) : (callFunc f args).run P w = .ok (.enter f args) w:=by
  have h1 : fn.name ≠ "runtime.NumGoroutine" := by simpa using hname
  obtain ⟨c,hb⟩:=Option.isSome_iff_exists.1 hb
  simp [callFunc,hf,h1,hb]
theorem zHZ {GT : Nat → Option AV} {w : World} {M : AMap} {I : Nat → Prop} {H : Heap} (hS : Sim GT w M I H) {b g o : Nat} {c x : AV} {v : Value} (hb : H[b]? = some (.box [c])) (hM : M b = some (g,o)) (hr : ∀ w,Rel w M I H.length x v) :
    Grow w M I H (w.setCell ⟨g,o,none⟩ v) M I (H.set b (.box [x])) ∧ Sim GT (w.setCell ⟨g,o,none⟩ v) M I (H.set b (.box [x])):=by
  obtain ⟨g',o',cur,h1,⟨e,fz,hg,hfz⟩,h3,h4,h5⟩:=hS.blk b _ hb
  rw [hM] at h1
  simp only [Option.some.injEq,Prod.mk.injEq] at h1
  obtain ⟨rfl,rfl⟩:=h1
  have hlt:=(Array.getElem?_eq_some_iff.1 hg).1
  have hh : (w.setCell ⟨g,o,none⟩ v).heap = w.heap.setIfInBounds g (.cells (cur.setIfInBounds o v) e fz):=by
    apply Array.ext_getElem?
    intro i
    simp only [World.setCell,Array.getElem?_modify,Array.getElem?_setIfInBounds]
    by_cases hi : g = i
    · subst hi
      have hg' : w.heap[g] = .cells cur e fz:=(Array.getElem?_eq_some_iff.1 hg).2
      simp [hlt,hg']
    · simp [hi]
  refine Sim.write hS hb rfl hM hg (by simp) hh rfl rfl rfl ⟨g,o,cur.setIfInBounds o v,hM,⟨e,fz, ?_, ?_⟩,h3, ?_,fun j c' hj=>?_⟩
  · rw [hh,Array.getElem?_setIfInBounds,if_pos rfl,if_pos hlt]
  · simpa using hfz
  · simpa using h4
  · cases j with
    | zero=>
      simp only [List.getElem?_cons_zero,Option.some.injEq] at hj
      subst hj
      refine ⟨v, ?_,hr _⟩
      simp only [List.length_cons,List.length_nil] at h4
      rw [Nat.add_zero,Array.getElem?_setIfInBounds,if_pos rfl,if_pos tO]
    | succ j=>simp at hj
end Go.AM
namespace Go.AM
inductive Sh where
  | bool
  | int (k : IntKind)
  | str
  | sl (ag : Bool) (es : List Sh)
  deriving Inhabited
def formed (ag : Bool) (x : AV) : Prop:=
  match ag with
  | true=>∃ cs,x = .agg cs
  | false=>x.cells = [x]
inductive Fits : Sh → AV → Prop where
  | bool (b : Bool) : Fits .bool (.bool b)
  | int (k : IntKind) (n : Int) (h : (Lit.int k n).wf = true) : Fits (.int k) (.int k n)
  | str (s : List UInt8) (h : s.length ≤ maxLen) : Fits .str (.str s)
  | sl (ag : Bool) (es : List Sh) (q : Bool) (xs : List AV) (hl : xs.length ≤ maxLen) (hq : q = true → xs = []) (h1 : ∀ x ∈ xs,x.cells.length = es.length ∧ formed ag x)
      (h2 : ∀ x ∈ xs,∀ (i : Nat) (s : Sh) (c : AV),es[i]? = some s → x.cells[i]? = some c → Fits s c) : Fits (.sl ag es) (.lst (some q) es.length xs)
def zNN (r : TypeId → Option (Bool × List Sh)) (P : Program) : List Field → Nat → Option (List Sh)
  | [],_=>some []
  | f :: fs,o=>if f.offset = o then (match r f.type with
    | some (_,ss)=>if P.cellsOf f.type = ss.length then (zNN r P fs (o + ss.length)).map (ss ++ ·) else none
    | none=>none) else none
def zIv (P : Program) : Nat → TypeId → Option (Bool × List Sh)
  | 0,_=>none
  | m + 1,t=>match P.underlying t with
    | some .bool=>some (false,[.bool])
    | some (.int k)=>some (false,[.int k])
    | some .string=>some (false,[.str])
    | some (.slice e)=>(match zIv P m e with
      | some (ag,es)=>if P.cellsOf e = es.length ∧ 0 < es.length ∧ (ag = true ∨ es.length = 1) then some (false,[.sl ag es]) else none
      | none=>none)
    | some (.struct fs)=>(match zNN (zIv P m) P fs.toList 0 with
      | some ss=>if P.cellsOf t = ss.length then some (true,ss) else none
      | none=>none)
    | _=>none
theorem zCL {α β : Type} {f : α → Option β} : ∀ {l : List α} {r : List β},l.mapM f = some r → r.length = l.length ∧ ∀ (i : Nat) (x : α),l[i]? = some x → ∃ y,r[i]? = some y ∧ f x = some y
  | [],r,h=>by
    simp at h; subst h; exact ⟨rfl,fun i x hx=>by simp at hx⟩
  | a :: l,r,h=>by
    simp only [List.mapM_cons,Option.bind_eq_bind,Option.pure_def] at h
    obtain ⟨y,hy,h⟩:=Option.bind_eq_some_iff.1 h
    obtain ⟨ys,hys,h⟩:=Option.bind_eq_some_iff.1 h
    simp only [Option.some.injEq] at h
    subst h
    obtain ⟨h1,h2⟩:=zCL hys
    refine ⟨by simp [h1],fun i x hx=>?_⟩
    cases i with
    | zero=>simp at hx; subst hx; exact ⟨y,rfl,hy⟩
    | succ i=>simp at hx; obtain ⟨z,e1,e2⟩:=h2 i x hx; exact ⟨z,by simpa using e1,e2⟩
theorem zJ5 {p : Nat → AV → Prop} : ∀ n,(∀ i,i < n → ∃ x,p i x) → ∃ xs : List AV,xs.length = n ∧ ∀ i x,xs[i]? = some x → p i x
  | 0,_=>⟨[],rfl,fun i x h=>by simp at h⟩
  | n + 1,h=>by
    obtain ⟨xs,h1,h2⟩:=zJ5 n fun i hi=>h i tO
    obtain ⟨x,hx⟩:=h n tO
    refine ⟨xs ++ [x],by simp [h1],fun i y hy=>?_⟩
    by_cases hi : i < n
    · rw [List.getElem?_append_left tO] at hy; exact h2 i y hy
    · rw [List.getElem?_append_right tO] at hy
      have : i - xs.length = 0:=by
        have:=(zg hy).1
        simp at this; omega
      rw [this] at hy; simp at hy; subst hy
      have : i = n:=by omega
      subst this; exact hx
theorem Fits.free {s : Sh} {x : AV} (h : Fits s x) : x.noRef = true ∧ x.one = true ∧ x.cells = [x]:=by
  cases h <;> exact ⟨rfl,rfl,rfl⟩
theorem zEs {w : World} {a : Addr} {v : Value} (h : w.cell? a = some v) : a.block < w.heap.size ∧ a.spot = none:=by
  unfold World.cell? at h
  split at h
  · rename_i hb
    split at h
    · cases h
    · rename_i hs
      refine ⟨?_,by simpa using hs⟩
      obtain ⟨hlt,_⟩:=Array.getElem?_eq_some_iff.1 hb
      exact hlt
  · cases h
structure Stands (w : World) (ss : List Sh) (xs : List AV) (cs : List Value) : Prop where
  len : xs.length = ss.length
  clen : cs.length = ss.length
  fits : ∀ (i : Nat) (s : Sh) (x : AV),ss[i]? = some s → xs[i]? = some x → Fits s x
  rel : ∀ (i : Nat) (x : AV) (v : Value),xs[i]? = some x → cs[i]? = some v → Rel w (fun _=>none) (zB7 w) 0 x v
theorem Stands.fits' {w : World} {ss : List Sh} {xs : List AV} {cs : List Value} (h : Stands w ss xs cs) {x : AV} (hx : x ∈ xs) : ∃ s,Fits s x:=by
  obtain ⟨i,hi⟩:=List.getElem?_of_mem hx
  have hlt:=(zg hi).1
  exact ⟨ss[i]'(by rw [← h.len]; exact hlt),h.fits i _ x (List.getElem?_eq_getElem _) hi⟩
theorem zBo {w : World} {s : Sh} {x : AV} {v : Value} (hf : Fits s x) (hr : Rel w (fun _=>none) (zB7 w) 0 x v) : Stands w [s] [x] [v] where
  len:=rfl
  clen:=rfl
  fits:=fun i s' x' h1 h2=>by
    cases i with
    | zero=>simp at h1 h2; subst h1; subst h2; exact hf
    | succ i=>simp at h1
  rel:=fun i x' v' h1 h2=>by
    cases i with
    | zero=>simp at h1 h2; subst h1; subst h2; exact hr
    | succ i=>simp at h1
section
variable {H : Type} {enc : TypeId × Value → H} {P : Program} {w : World} {held : Bool}
theorem zF9 {fuel m : Nat} (ih : ∀ (t : TypeId) (cs : List Value) (d : DataW H) (ps : List MemPlace) (ag : Bool) (ss : List Sh),DataW.trod enc P w 0 (fun _=>true) held fuel t cs = some (d,ps) → zIv P m t = some (ag,ss) → ∃ xs,Stands w ss xs cs)
    (cs : List Value) : ∀ (fs : List Field) (o : Nat) (ss : List Sh) (r : List (DataW H × List MemPlace)),(fs.mapM fun f=>DataW.trod enc P w 0 (fun _=>true) held fuel f.type ((cs.drop f.offset).take (P.cellsOf f.type))) = some r → zNN (zIv P m) P fs o = some ss →
    ∃ xs : List AV,xs.length = ss.length ∧ (∀ (i : Nat) (s : Sh) (x : AV),ss[i]? = some s → xs[i]? = some x → Fits s x) ∧ ∀ (i : Nat) (x : AV) (v : Value),xs[i]? = some x → cs[o + i]? = some v → Rel w (fun _=>none) (zB7 w) 0 x v:=by
  intro fs
  induction fs with
  | nil=>
    intro o ss r _ hs
    simp only [zNN,Option.some.injEq] at hs
    subst hs
    exact ⟨[],rfl,fun i s x h=>by simp at h,fun i x v h=>by simp at h⟩
  | cons f fs ihf=>
    intro o ss r h hs
    unfold zNN at hs
    split at hs
    case isFalse=>cases hs
    rename_i ho
    split at hs
    case h_2=>cases hs
    rename_i ag ss1 h1
    split at hs
    case isFalse=>cases hs
    rename_i hc
    obtain ⟨ss2,h2,rfl⟩:=Option.map_eq_some_iff.1 hs
    simp only [List.mapM_cons,Option.bind_eq_bind,Option.pure_def] at h
    obtain ⟨⟨d,p⟩,hy,h⟩:=Option.bind_eq_some_iff.1 h
    obtain ⟨ys,hys,_⟩:=Option.bind_eq_some_iff.1 h
    obtain ⟨xs1,S1⟩:=ih _ _ _ _ _ _ hy h1
    obtain ⟨xs2,e1,e2,e3⟩:=ihf _ _ _ hys h2
    refine ⟨xs1 ++ xs2,by rw [List.length_append,List.length_append,S1.len,e1],fun i s x h3 h4=>?_,fun i x v h3 h4=>?_⟩
    · by_cases hi : i < ss1.length
      · rw [List.getElem?_append_left hi] at h3
        rw [List.getElem?_append_left (by rw [S1.len]; exact hi)] at h4
        exact S1.fits i s x h3 h4
      · rw [List.getElem?_append_right tO] at h3
        rw [List.getElem?_append_right (by rw [S1.len]; omega),S1.len] at h4
        exact e2 _ s x h3 h4
    · by_cases hi : i < ss1.length
      · rw [List.getElem?_append_left (by rw [S1.len]; exact hi)] at h3
        refine S1.rel i x v h3 ?_
        rw [List.getElem?_take,if_pos (by rw [hc]; exact hi),List.getElem?_drop,ho]
        exact h4
      · rw [List.getElem?_append_right (by rw [S1.len]; omega),S1.len] at h3
        refine e3 _ x v h3 ?_
        rw [← h4]; congr 1; omega
theorem zIw {a : Addr} {n : Nat} {cs : List Value} (h : w.cells? 0 a n = some cs) : cs.length = n ∧ ∀ j v,cs[j]? = some v → w.cell? (a.add j) = some v:=by
  unfold World.cells? at h
  rw [if_pos (Nat.zero_le _)] at h
  obtain ⟨h1,h2⟩:=zCL h
  rw [List.length_range] at h1
  refine ⟨h1,fun j v hj=>?_⟩
  have hlt : j < n:=by rw [← h1]; exact (zg hj).1
  obtain ⟨y,e1,e2⟩:=h2 j j (by rw [List.getElem?_range hlt])
  rw [e1] at hj
  simp only [Option.some.injEq] at hj
  subst hj; exact e2
theorem zCq : ∀ (fuel : Nat) (t : TypeId) (cs : List Value) (d : DataW H) (ps : List MemPlace) (m : Nat) (ag : Bool) (ss : List Sh),
    DataW.trod enc P w 0 (fun _=>true) held fuel t cs = some (d,ps) → zIv P m t = some (ag,ss) → ∃ xs,Stands w ss xs cs:=by
  intro fuel
  induction fuel with
  | zero=>intro t cs d ps m ag ss h; simp [DataW.trod] at h
  | succ fuel ih=>
    intro t cs d ps m ag ss h hs
    cases m with
    | zero=>simp [zIv] at hs
    | succ m=>
    unfold zIv at hs
    split at hs
    · -- bool
      rename_i hu
      simp only [Option.some.injEq,Prod.mk.injEq] at hs
      obtain ⟨_,rfl⟩:=hs
      rcases cs with _ | ⟨c,_ | ⟨c',cs⟩⟩
      · simp [DataW.trod,hu] at h
      · cases c <;> simp [DataW.trod,hu] at h
        exact ⟨_,zBo (.bool _) (.bool _)⟩
      · simp [DataW.trod,hu] at h
    · rename_i k hu
      simp only [Option.some.injEq,Prod.mk.injEq] at hs
      obtain ⟨_,rfl⟩:=hs
      rcases cs with _ | ⟨c,_ | ⟨c',cs⟩⟩
      · simp [DataW.trod,hu] at h
      · cases c <;> simp [DataW.trod,hu] at h
        obtain ⟨⟨rfl,hw⟩,_⟩:=h
        exact ⟨_,zBo (.int _ _ hw) (.int _ _)⟩
      · simp [DataW.trod,hu] at h
    · rename_i hu
      simp only [Option.some.injEq,Prod.mk.injEq] at hs
      obtain ⟨_,rfl⟩:=hs
      rcases cs with _ | ⟨c,_ | ⟨c',cs⟩⟩
      · simp [DataW.trod,hu] at h
      · cases c <;> simp [DataW.trod,hu] at h
        rename_i s
        have hl : s.data.toList.length ≤ maxLen:=by
          have h1 : s.size ≤ maxLen:=h.1
          exact h1
        exact ⟨_,zBo (.str s.data.toList hl) (zJ3 _ _ _ _ s)⟩
      · simp [DataW.trod,hu] at h
    · -- a slice
      rename_i e hu
      split at hs
      case h_2=>cases hs
      rename_i ag' es he
      split at hs
      case isFalse=>cases hs
      rename_i hk
      obtain ⟨hk,hk0,hk1⟩:=hk
      simp only [Option.some.injEq,Prod.mk.injEq] at hs
      obtain ⟨_,rfl⟩:=hs
      rcases cs with _ | ⟨c,_ | ⟨c',cs⟩⟩
      · simp [DataW.trod,hu] at h
      rotate_left
      · simp [DataW.trod,hu] at h
      cases c
      case slice a len cap=>
        cases a with
        | none=>
          cases len <;> cases cap <;> simp [DataW.trod,hu] at h
          exact ⟨_,zBo (.sl ag' es true [] (Nat.zero_le _) (fun _=>rfl) (fun x hx=>absurd hx (by simp)) (fun x hx=>absurd hx (by simp))) (.lnil _ _ (by simp))⟩
        | some a=>
          simp only [DataW.trod,hu] at h
          split at h
          case isFalse=>cases h
          rename_i hb
          obtain ⟨elems,h1,h⟩:=Option.bind_eq_some_iff.1 h
          obtain ⟨rest,h2,_⟩:=Option.map_eq_some_iff.1 h
          simp only [if_true] at h2
          have at_ : ∀ (i : Nat) (y : DataW H × List MemPlace),((w.cells? 0 (a.add (i * P.cellsOf e)) (P.cellsOf e)).bind (DataW.trod enc P w 0 (fun _=>true) held fuel e)) = some y →
              ∃ xs ci,Stands w es xs ci ∧ ∀ j v,ci[j]? = some v → w.cell? ((a.add (i * es.length)).add j) = some v:=by
            intro i y hy
            obtain ⟨ci,e1,e2⟩:=Option.bind_eq_some_iff.1 hy
            obtain ⟨xs,S⟩:=ih e ci y.1 y.2 m ag' es e2 he
            obtain ⟨e3,e4⟩:=zIw e1
            exact ⟨xs,ci,S,by rw [← hk]; exact e4⟩
          obtain ⟨l1,l2⟩:=zCL h1
          obtain ⟨l3,l4⟩:=zCL h2
          rw [List.length_range] at l1 l3
          have elem : ∀ i,i < len → ∃ x : AV,(x.cells.length = es.length ∧ formed ag' x) ∧ (∀ (j : Nat) (s : Sh) (c : AV),es[j]? = some s → x.cells[j]? = some c → Fits s c) ∧ x.elem es.length = true ∧
              ∀ j c,x.cells[j]? = some c → ∃ v,w.cell? ((a.add (i * es.length)).add j) = some v ∧ Rel w (fun _=>none) (zB7 w) 0 c v:=by
            intro i hi
            obtain ⟨y,_,hy⟩:=l2 i i (by rw [List.getElem?_range hi])
            obtain ⟨xs,ci,S,hci⟩:=at_ i y hy
            have hrel : ∀ j c,xs[j]? = some c → ∃ v,w.cell? ((a.add (i * es.length)).add j) = some v ∧ Rel w (fun _=>none) (zB7 w) 0 c v:=fun j c hj=>by
              have hlt : j < ci.length:=by rw [S.clen,← S.len]; exact (zg hj).1
              exact ⟨ci[j],hci j _ (List.getElem?_eq_getElem hlt),S.rel j c _ hj (List.getElem?_eq_getElem hlt)⟩
            cases ag' with
            | true=>
              refine ⟨.agg xs,⟨S.len,xs,rfl⟩,S.fits,AV.elem_iff.2 ⟨S.len, ?_,fun c hc=>?_⟩,hrel⟩
              · simp only [AV.noRef,AV.bel,AV.belL_iff]
                intro c hc
                obtain ⟨s,hs⟩:=S.fits' hc
                exact hs.free.1
              · obtain ⟨s,hs⟩:=S.fits' hc
                exact hs.free.2.1
            | false=>
              have h1 : es.length = 1:=by
                rcases hk1 with h | h
                · cases h
                · exact h
              have hl:=S.len
              rw [h1] at hl
              obtain ⟨x,rfl⟩:=List.length_eq_one_iff.1 hl
              obtain ⟨s,hs⟩:=S.fits' (x:=x) (by simp)
              obtain ⟨f1,f2,f3⟩:=hs.free
              refine ⟨x,⟨by rw [f3,h1]; rfl,f3⟩,by rw [f3]; exact S.fits,AV.elem_iff.2 ⟨by rw [f3,h1]; rfl,f1,fun c hc=>?_⟩,by rw [f3]; exact hrel⟩
              rw [f3] at hc
              simp only [List.mem_singleton] at hc
              rw [hc]; exact f2
          obtain ⟨X,x1,x2⟩:=zJ5 len elem
          have hmem : ∀ x ∈ X,∃ i,X[i]? = some x:=fun x hx=>List.getElem?_of_mem hx
          refine ⟨[.lst (some false) es.length X],zBo (.sl ag' es false X tO (by simp) (fun x hx=>?_) (fun x hx=>?_)) ?_⟩
          · obtain ⟨i,hi⟩:=hmem x hx; exact (x2 i x hi).1
          · obtain ⟨i,hi⟩:=hmem x hx; exact (x2 i x hi).2.1
          · by_cases hc0 : cap = 0
            · have : len = 0:=by omega
              subst this; subst hc0
              obtain rfl:=List.eq_nil_of_length_eq_zero x1
              exact .lemp _ _ a (by simp)
            · have hcell : ∃ v,w.cell? a = some v:=by
                by_cases hl0 : len = 0
                · obtain ⟨y,_,hy⟩:=l4 0 0 (by rw [List.getElem?_range tO])
                  obtain ⟨xs,ci,S,hci⟩:=at_ _ y hy
                  have hlt : 0 < ci.length:=by rw [S.clen]; exact hk0
                  have h0:=hci 0 _ (List.getElem?_eq_getElem hlt)
                  simp only [hl0,Nat.add_zero,Nat.zero_mul,Addr.add,if_true] at h0
                  exact ⟨_,h0⟩
                · obtain ⟨y,_,hy⟩:=l2 0 0 (by rw [List.getElem?_range tO])
                  obtain ⟨xs,ci,S,hci⟩:=at_ _ y hy
                  have hlt : 0 < ci.length:=by rw [S.clen]; exact hk0
                  have h0:=hci 0 _ (List.getElem?_eq_getElem hlt)
                  simp only [Nat.zero_mul,Addr.add,if_true] at h0
                  exact ⟨_,h0⟩
              obtain ⟨v0,hv0⟩:=hcell
              obtain ⟨g1,g2⟩:=zEs hv0
              obtain ⟨ab,ao,asp⟩:=a
              simp only at g1 g2
              subst g2
              rw [← x1]
              refine Rel.mk_lst (by simp) tO hb.2.2 g1 (fun x hx=>?_) (fun i j x c hi hj=>?_)
              · obtain ⟨i,hi⟩:=hmem x hx; exact (x2 i x hi).2.2.1
              · obtain ⟨v,e1,e2⟩:=(x2 i x hi).2.2.2 j c hj
                simp only [Addr.add_lit] at e1
                exact ⟨v,e1,e2⟩
      all_goals (simp [DataW.trod,hu] at h)
    · rename_i fs hu
      split at hs
      case h_2=>cases hs
      rename_i ss' hs'
      split at hs
      case isFalse=>cases hs
      rename_i hc
      simp only [Option.some.injEq,Prod.mk.injEq] at hs
      obtain ⟨_,rfl⟩:=hs
      simp only [DataW.trod,hu] at h
      split at h
      case isFalse=>cases h
      rename_i hcl
      obtain ⟨r,hr,_⟩:=Option.map_eq_some_iff.1 h
      obtain ⟨xs,e1,e2,e3⟩:=zF9 (fun t cs d ps ag ss h1 h2=>ih t cs d ps m ag ss h1 h2) cs _ 0 ss' r hr hs'
      exact ⟨xs,e1,by rw [hcl,hc],e2,fun i x v h1 h2=>e3 i x v h1 (by rw [Nat.zero_add]; exact h2)⟩
    · cases hs
theorem zHa {t : TypeId} {m : Nat} {s : Sh} {v : Value} {d : DataW H} {ps : List MemPlace} {r : Reach} {b0 : Nat} (hs : zIv P m t = some (false,[s])) (ho : Value.okWide P w r b0 t v) (h : DataW.Trod enc P w 0 (fun _=>true) held t v d ps) :
    ∃ x,Fits s x ∧ Rel w (fun _=>none) (zB7 w) 0 x v:=by
  obtain ⟨fuel,h⟩:=h
  obtain ⟨xs,S⟩:=zCq fuel t _ d ps m false [s] h hs
  have hl:=S.len
  obtain ⟨x,rfl⟩:=List.length_eq_one_iff.1 hl
  have hv : v.cells.toList = [v]:=by
    cases m with
    | zero=>simp [zIv] at hs
    | succ m=>
    unfold zIv at hs
    unfold Value.okWide at ho
    split at hs
    all_goals first
      | (cases hs; done)
      | skip
    · rename_i hu; rw [hu] at ho; simp only [Cell.okWide,hu,Cell.ok] at ho
      cases v <;> first | rfl | (simp at ho)
    · rename_i hu; rw [hu] at ho; simp only [Cell.okWide,hu,Cell.ok] at ho
      cases v <;> first | rfl | (simp at ho)
    · rename_i hu; rw [hu] at ho; simp only [Cell.okWide,hu,Cell.ok] at ho
      cases v <;> first | rfl | (simp at ho)
    · rename_i hu; rw [hu] at ho; simp only [Cell.okWide,hu,Cell.ok] at ho
      cases v <;> first | rfl | (simp at ho)
    · split at hs
      · split at hs
        · cases hs
        · cases hs
      · cases hs
  rw [hv] at S
  exact ⟨x,S.fits 0 s x rfl rfl,S.rel 0 x v rfl rfl⟩
end
end Go.AM
namespace Go.AM
theorem zL2 {b k o s : Nat} {ag : Bool} {H : Heap} {cs : List AV} {r : AV} {K : AV → Prop} (h : H[b]? = some (.box cs)) (hr : part cs o s ag = some r) (q : K r) : loadN s ag (.ref b k 0 o) H K:=zA r h hr q
def zGA (H : Heap) (b : Nat) (H1 : Heap) : Prop:=∃ B,OldB H b B H1
theorem zGA.start {H : Heap} {b : Nat} {B : ABlk} (h : H[b]? = some B) : zGA H b H:=⟨B,OldB.start h⟩
theorem zGA.of {H : Heap} {b : Nat} {B : ABlk} {H1 : Heap} (h : OldB H b B H1) : zGA H b H1:=⟨B,h⟩
theorem zGA.push {H H1 : Heap} {b : Nat} (h : zGA H b H1) (x : List ABlk) : zGA H b (H1 ++ x):=⟨h.choose,h.choose_spec.push x⟩
theorem zGA.set {H H1 : Heap} {b : Nat} (h : zGA H b H1) {c : Nat} (hc : H.length ≤ c) (x : ABlk) : zGA H b (H1.set c x):=⟨h.choose,h.choose_spec.set hc x⟩
theorem zGA.setB {H H1 : Heap} {b : Nat} (h : zGA H b H1) (x : ABlk) : zGA H b (H1.set b x):=⟨x,h.choose_spec.setB x⟩
theorem OldB.setZ {H H1 : Heap} {b : Nat} {B : ABlk} (h : zGA H b H1) : OldB H b B (H1.set b B):=h.choose_spec.setB B
theorem hO {P : Prop} (h : P:=by (repeat' (first | assumption | exact Old.refl _ | exact OldB.start hP | exact zGA.start hP | exact zGA.of (by assumption) | refine Old.push ?_ _ | refine OldB.push ?_ _ | refine zGA.push ?_ _ | refine OldB.setZ ?_ | refine zGA.setB ?_ _ | refine Old.set ?_ tA _ | refine OldB.set ?_ tA _ | refine zGA.set ?_ tA _)); done) : P:=h
structure HidQ (Q : Prop) : Prop where
  go : Q
def StG (v : AV) (cs' : List AV) (P : Prop) : Prop:=P
theorem stG {b k s o : Nat} {v : AV} {cs cs' : List AV} {H : Heap} {K : AV → Heap → Prop} (h : H[b]? = some (.box cs)) (hl : v.cells.length = s) (h1 : v.cells.all AV.one = true) (ho : Nat.ble (o + s) cs.length = true) (he : splice cs o v.cells = cs')
    (q : K .undef (H.set b (.box cs'))) : StG v cs' (actP (.store s) [.ref b k 0 o,v] H K):=zJ (v:=v) cs' h hl h1 ho he q
theorem sS {P Q : Prop} (v : AV) (cs' : List AV) (q : Q) (h : HidQ Q → StG v cs' P:=by
  intro q
  apply stG
  · exact hP
  · rfl
  · rfl
  · rfl
  · rfl
  exact q.go) : P:=h ⟨q⟩
theorem sW {P Q : Prop} (q : Q) (h : HidQ Q → P:=by
  intro q
  repeat (first
    | (apply zL2
       · exact hP
       · rfl)
    | refine zE ?_
    | refine zD ?_
    | refine za rfl ?_
    | refine zGq _ rfl ?_
    | refine zq tT ?_
    | refine zU tF ?_
    | refine zq tE ?_
    | refine zU tN ?_
    | refine zq (by assumption) ?_
    | refine zU (by assumption) ?_
    | (apply zEm
       · rfl
       · assumption)
    | (apply zK
       · first | assumption | (apply_assumption -exfalso -symm <;> exact hP))
    | (apply zEl
       · first | assumption | (apply_assumption -exfalso -symm <;> exact hP)
       · intro h; cases h)
    | fail)
  exact q.go) : P:=h ⟨q⟩
theorem sX {P Q : Prop} (q : Q) (h : HidQ Q → P:=by
  intro q
  repeat (first
    | (apply zL2
       · exact hP
       · rfl)
    | refine zE ?_
    | refine zD ?_
    | refine za rfl ?_
    | refine zGq _ rfl ?_
    | refine zq tT ?_
    | refine zU tF ?_
    | refine zq tE ?_
    | refine zU tN ?_
    | refine zq (by assumption) ?_
    | refine zU (by assumption) ?_
    | (apply zEm
       · rfl
       · assumption)
    | (apply zF6
       · assumption
       · assumption)
    | (apply zNM
       · assumption
       · rfl
       · assumption)
    | (apply zH8
       · assumption
       · rfl)
    | refine za (by assumption) ?_
    | (apply zJy
       · rfl)
    | (apply zK
       · first | assumption | (apply_assumption -exfalso -symm <;> exact hP))
    | (apply zEl
       · first | assumption | (apply_assumption -exfalso -symm <;> exact hP)
       · intro h; cases h)
    | fail)
  exact q.go) : P:=h ⟨q⟩
end Go.AM
namespace Go.AM
abbrev zA2 : Nat:=3
abbrev zAM : Nat:=4
abbrev zAY : Nat:=5
abbrev zAy : Nat:=6
abbrev zAz : Nat:=7
abbrev zAZ : Nat:=8
abbrev zw : Nat:=9
abbrev zAT : Nat:=10
abbrev zAa : Nat:=11
abbrev zAb : Nat:=12
abbrev zV : Nat:=13
abbrev zh : Nat:=14
abbrev zl : Nat:=15
abbrev zN : Nat:=16
abbrev zAU : Nat:=17
abbrev zAj : Nat:=18
abbrev zBU : Nat:=19
abbrev z7 : Nat:=20
abbrev zAc : Nat:=21
abbrev zX : Nat:=22
abbrev zR : Nat:=24
abbrev zL : Nat:=23
abbrev zW : Nat:=25
abbrev zAq : Nat:=26
abbrev zAE : Nat:=27
abbrev zA0 : Nat:=28
abbrev zC4 : Nat:=29
abbrev zE7 : Nat:=30
abbrev z8 : Nat:=38
abbrev zAA : Nat:=39
abbrev zA9 : Nat:=40
abbrev zm : Nat:=41
abbrev zAI : Nat:=42
abbrev zn : Nat:=54
abbrev zb : Nat:=57
abbrev zBI : Nat:=50
abbrev zCM : Nat:=66
abbrev zDT : Nat:=0
end Go.AM
namespace Go.AM
def zCN : AC:=.seq ( .reg [1,0] false [oT 2 .box 0,oI 4 .mv [oB false]]) ( .seq ( .reg [1,2] false [oL 14 3 true 2,oT 15 (.call
 zAM true) 14,oM 5 15]) ( .seq ( .seq ( .reg [1,2,5] false [oM 16 5,oT 17 (.un .not) 16]) ( .cond (.tmp 17) ( .seq ( .reg [] false [oI 4 .mv [oB
 true]]) ( .ret)) ( .skip))) ( .seq ( .reg [1,2] false [oM 19 1,oT 20 (.call zAY true) 19,oM 18 20,oT 21 (.extract 0) 18,oT 22 (.extract 1) 18,
 ⟨some 6,none,.alloc [.str [],.str [],.bool false,.int .i64 0,.int .i64 0],[]⟩,oS 5 6 21,oM 7 22]) ( .seq ( .reg [1,2,6,7] false [oI 8 .mv [oK 2]]) (
 .seq ( .reg [1,2,6,8,7] false [oI 9 .mv [.const (.str [])]]) ( .seq ( .seq ( .reg [1,2,6,9,8,7] false [oM 23 7]) ( .cond (.tmp 23) ( .seq ( .reg [1,2,
 6] false [oI 8 .mv [oK 0]]) ( .seq ( .reg [8,1,2,6] false [oL 24 3 true 2,oT 25 (.call zAy true) 24,oM 9 25]) ( .seq ( .reg [8,1,2,6,9] false
 [oF 26 0 2,oL 27 1 false 26,oI 28 (.bin .eql) [.tmp 27,oK 1]]) ( .cond (.tmp 28) ( .reg [8,1,2,6] false [oF 29 1 2,oL 30 1 false 29,oL 31 5 true 6,oD 32
 (.call zAz true) 30 31,oM 9 32]) ( .skip))))) ( .skip))) ( .seq ( .reg [9,8,1,2] false [oM 33 1,oT 34 (.call zAZ true) 33,oM 10 34])
 ( .seq ( .reg [9,8,1,2,10] false [oM 35 10,oM 36 8,oD 37 (.call zw true) 35 36,oM 11 37]) ( .seq ( .reg [9,11,8,1,2] false [oL 39 3 true
 2,oM 40 1,oD 41 (.call zAT true) 39 40,oM 38 41,oT 42 (.extract 0) 38,oT 43 (.extract 1) 38,oM 12 42,oM 10 43]) ( .seq ( .reg [9,12,11,8,10]
 false [oM 44 10,oM 45 8,oD 46 (.call zw true) 44 45,oM 13 46]) ( .seq ( .reg [9,12,13,11] false [oM 47 11,oM 48 47,oG 49 48 true .mv [.tmp
 13],oI 50 .pick [.tmp 48,.tmp 49,oB false],oM 51 50,oG 52 51 true .mv [.tmp 12],oG 53 51 true .mv [.tmp 9],oG 54 51 true (.bin .eql) [.tmp 52,.tmp 53],
 oI 55 .pick [.tmp 51,.tmp 54,oB false],oM 4 55]) ( .ret))))))))))))
def zz : AF:={ results:=[.tmp 4],body:=zCN }
def zGt : AC:=.seq ( .reg [0] false [oT 1 .box 0,oI 2 .mv [oB false]]) ( .seq ( .seq ( .reg [1] false [oF 3 0 1,oL 4 1 false 3]) ( .block 0 [] (
 .seq ( .reg [1,4] false [oI 6 (.bin .eql) [.tmp 4,oK 0],oM 5 6]) ( .cond (.tmp 5) ( .seq ( .reg [1] false [oF 7 1 1,oL 8 1 false 7,oI 9 (.bin .eql) [.tmp 8,
 oK 0],oM 10 9,oG 11 10 true (.fieldAddr 2) [.tmp 1],oG 12 10 true (.load 1 false) [.tmp 11],oG 13 10 true (.bin .eql) [.tmp 12,.const (.str [])],oI 14
 .pick [.tmp 10,.tmp 13,oB false],oM 2 14]) ( .ret)) ( .seq ( .reg [1,4] false [oI 16 (.bin .eql) [.tmp 4,oK 1],oM 15 16]) ( .cond (.tmp 15) ( .seq ( .reg
 [1] false [oF 17 2 1,oL 18 1 false 17,oI 19 (.bin .eql) [.tmp 18,.const (.str [])],oM 2 19]) ( .ret)) ( .seq ( .reg [1,4] false [oI 21 (.bin .eql) [.tmp 4,
 oK 2],oM 20 21]) ( .cond (.tmp 20) ( .seq ( .reg [1] false [oF 22 1 1,oL 23 1 false 22,oI 24 (.bin .eql) [.tmp 23,oK 0],oM 25 24,oG 26 25 true (.fieldAddr
 2) [.tmp 1],oG 27 25 true (.load 1 false) [.tmp 26],oG 28 25 true (.len true) [.tmp 27],oG 29 25 true (.bin .leq) [.tmp 28,oK 200],oI 30 .pick [.tmp 25,
 .tmp 29,oB false],oM 2 30]) ( .ret)) ( .seq ( .reg [1,4] false [oI 32 (.bin .eql) [.tmp 4,oK 3],oM 31 32]) ( .cond (.tmp 31) ( .seq ( .reg [1] false [oF 33
 2 1,oL 34 1 false 33,oI 35 (.bin .eql) [.tmp 34,.const (.str [])],oM 36 35,oG 37 36 true (.fieldAddr 1) [.tmp 1],oG 38 36 true (.load 1 false) [.tmp 37],
 oG 39 36 true (.bin .eql) [.tmp 38,oK 0],oG 40 36 true .mv [.tmp 39],oG 41 40 false (.fieldAddr 1) [.tmp 1],oG 42 40 false (.load 1 false) [.tmp 41],oG 43
 40 false (.bin .eql) [.tmp 42,oK 1],oG 44 36 true .pick [.tmp 40,oB true,.tmp 43],oI 45 .pick [.tmp 36,.tmp 44,oB false],oM 2 45]) ( .ret)) ( .seq ( .reg
 [1,4] false [oI 47 (.bin .eql) [.tmp 4,oK 4],oM 46 47]) ( .cond (.tmp 46) ( .seq ( .reg [1] false [oF 48 2 1,oL 49 1 false 48,oI 50 (.bin .eql) [.tmp 49,
 .const (.str [])],oM 51 50,oG 52 51 true (.fieldAddr 1) [.tmp 1],oG 53 51 true (.load 1 false) [.tmp 52],oG 54 51 true (.bin .geq) [.tmp 53,oK 1],oI 55
 .pick [.tmp 51,.tmp 54,oB false],oM 56 55,oG 57 56 true (.fieldAddr 1) [.tmp 1],oG 58 56 true (.load 1 false) [.tmp 57],oG 59 56 true (.bin .leq) [.tmp 58,
 oK 6],oI 60 .pick [.tmp 56,.tmp 59,oB false],oM 2 60]) ( .ret)) ( .skip))))))))))))) ( .seq ( .reg [] false [oI 2 .mv [oB false]]) ( .ret)))
def zDw : AF:={ results:=[.tmp 2],body:=zGt }
def zD1 : AC:=.seq ( .seq ( .reg [2,4,0,6,5] false [oM 26 5,oM 27 0,oT 28 (.len true) 27,oD 29 (.bin .lss) 26 28,oM 30 29,oG 31 30 true
 .mv [.tmp 0],oG 32 30 true .mv [.tmp 5],oG 33 30 true .idxStr [.tmp 31,.tmp 32],oG 34 30 true (.bin .neq) [.tmp 33,.const (.int .u8 34)],oI 35 .pick [.tmp
 30,.tmp 34,oB false]]) ( .cond (.tmp 35) ( .skip) ( .exit 0))) ( .block 1 [5,2,4,0,6] ( .reg [2,4,0,6,5] false [oM 36 5,oI 37 (.bin .add) [.tmp 36,oK
 1],oM 5 37]))
def zD2 : AC:=.seq ( .seq ( .reg [4,2,0,5] false [oM 66 5,oM 67 0,oT 68 (.len true) 67,oD 69 (.bin .lss) 66 68,oM 70 69,oG 71 70 true .mv
 [.tmp 0],oG 72 70 true .mv [.tmp 5],oG 73 70 true .idxStr [.tmp 71,.tmp 72],oG 74 70 true (.bin .eql) [.tmp 73,.const (.int .u8 48)],oI 75 .pick [.tmp 70,
 .tmp 74,oB false]]) ( .cond (.tmp 75) ( .skip) ( .exit 2))) ( .block 3 [5,4,2,0] ( .seq ( .reg [4,2,0,5] false [oF 76 3 4,oL 77 1 false 76,oI 78 (.bin
 .add) [.tmp 77,oK 1],oF 79 3 4,oS 1 79 78]) ( .reg [4,2,0,5] false [oM 80 5,oI 81 (.bin .add) [.tmp 80,oK 1],oM 5 81])))
def zD3 : AC:=.seq ( .seq ( .reg [4,2,0,5] false [oM 98 5,oM 99 0,oT 100 (.len true) 99,oD 101 (.bin .lss) 98 100,oM 102 101,oG 103 102
 true .mv [.tmp 0],oG 104 102 true .mv [.tmp 5],oG 105 102 true .idxStr [.tmp 103,.tmp 104],oG 106 102 true (.bin .eql) [.tmp 105,.const (.int .u8 48)],oI
 107 .pick [.tmp 102,.tmp 106,oB false]]) ( .cond (.tmp 107) ( .skip) ( .exit 4))) ( .block 5 [5,4,2,0] ( .seq ( .reg [4,2,0,5] false [oF 108 4 4,oL 109
 1 false 108,oI 110 (.bin .add) [.tmp 109,oK 1],oF 111 4 4,oS 1 111 110]) ( .reg [4,2,0,5] false [oM 112 5,oI 113 (.bin .add) [.tmp 112,oK 1],oM 5
 113])))
def zD4 : AC:=.seq ( .seq ( .reg [2,4,7,0,5] false [oM 142 5,oM 143 0,oT 144 (.len true) 143,oD 145 (.bin .lss) 142 144,oM 146 145,oG 147
 146 true .mv [.tmp 0],oG 148 146 true .mv [.tmp 5],oG 149 146 true .idxStr [.tmp 147,.tmp 148],oG 150 146 true (.bin .neq) [.tmp 149,.const (.int .u8 34)],
 oI 151 .pick [.tmp 146,.tmp 150,oB false]]) ( .cond (.tmp 151) ( .skip) ( .exit 6))) ( .block 7 [5,2,4,7,0] ( .reg [2,4,7,0,5] false [oM 152 5,oI 153
 (.bin .add) [.tmp 152,oK 1],oM 5 153]))
def zAF : AC:=.seq ( .reg [0] false [⟨some 2,none,.alloc [.str [],.str [],.bool false,.int .i64 0,.int .i64 0],[]⟩,oI 3 .mv [oB false]]) (
 .seq ( .reg [2,0] false [⟨some 8,none,.build [.str [],.str [],.bool false,.int .i64 0,.int .i64 0] [],[]⟩,⟨some 4,none,.alloc [.str [],.str [],.bool
 false,.int .i64 0,.int .i64 0],[]⟩,oS 5 4 8]) ( .seq ( .seq ( .reg [2,4,0] false [oM 9 0,oT 10 (.len true) 9,oI 11 (.bin .gtr) [.tmp 10,oK 40]]) ( .cond
 (.tmp 11) ( .seq ( .reg [2,4] false [oL 12 5 true 4,oS 5 2 12,oI 3 .mv [oB false]]) ( .ret)) ( .skip))) ( .seq ( .reg [2,4,0] false [oI 5 .mv [oK 0]]) (
 .seq ( .seq ( .reg [2,4,0,5] false [oM 13 5,oM 14 0,oT 15 (.len true) 14,oD 16 (.bin .lss) 13 15,oM 17 16,oG 18 17 true .mv [.tmp 0],oG 19 17 true .mv
 [.tmp 5],oG 20 17 true .idxStr [.tmp 18,.tmp 19],oG 21 17 true (.bin .eql) [.tmp 20,.const (.int .u8 34)],oI 22 .pick [.tmp 17,.tmp 21,oB false]]) ( .cond
 (.tmp 22) ( .seq ( .reg [2,4,0,5] false [oM 23 5,oI 24 (.bin .add) [.tmp 23,oK 1],oM 5 24]) ( .seq ( .reg [5,2,4,0] false [oM 25 5,oM 6 25]) ( .seq (
 .block 0 [2,4,0,5,6] ( .loop [5,2,4,0,6] zD1)) ( .seq ( .seq ( .reg [2,4,0,5,6] false [oM 38 5,oM 39 0,oT 40 (.len true) 39,oD 41
 (.bin .eql) 38 40]) ( .cond (.tmp 41) ( .seq ( .reg [2,4] false [oL 42 5 true 4,oS 5 2 42,oI 3 .mv [oB false]]) ( .ret)) ( .skip))) ( .seq ( .reg [4,2,0,5,
 6] false [oM 43 0,oM 44 6,oM 45 5,oI 46 (.slc none true true) [.tmp 43,.tmp 44,.tmp 45],oF 47 0 4,oS 1 47 46]) ( .reg [4,2,0,5] false [oM 48 5,oI 49
 (.bin .add) [.tmp 48,oK 1],oM 5 49])))))) ( .skip))) ( .seq ( .seq ( .reg [4,2,0,5] false [oM 50 5,oI 51 (.bin .add) [.tmp 50,oK 1],oM 52 0,oT 53 (.len
 true) 52,oD 54 (.bin .lss) 51 53,oM 55 54,oG 56 55 true .mv [.tmp 0],oG 57 55 true .mv [.tmp 5],oG 58 55 true .mv [.tmp 5],oG 59 55 true (.bin .add) [.tmp
 58,oK 2],oG 60 55 true (.slc none true true) [.tmp 56,.tmp 57,.tmp 59],oG 61 55 true (.bin .eql) [.tmp 60,.const (.str [35,44])],oI 62 .pick [.tmp 55,
 .tmp 61,oB false]]) ( .cond (.tmp 62) ( .seq ( .reg [4,2,0,5] false [oF 63 2 4,oJ (.store 1) [.tmp 63,oB true]]) ( .reg [4,2,0,5] false [oM 64 5,oI 65
 (.bin .add) [.tmp 64,oK 2],oM 5 65])) ( .skip))) ( .seq ( .block 2 [2,4,0,5] ( .loop [5,4,2,0] zD2)) ( .seq ( .seq ( .reg [2,4,0,5] false
 [oF 82 3 4,oL 83 1 false 82,oI 84 (.bin .eql) [.tmp 83,oK 0]]) ( .cond (.tmp 84) ( .seq ( .reg [2,4] false [oL 85 5 true 4,oS 5 2 85,oI 3 .mv [oB false]])
 ( .ret)) ( .skip))) ( .seq ( .seq ( .reg [4,2,0,5] false [oM 86 5,oM 87 0,oT 88 (.len true) 87,oD 89 (.bin .lss) 86 88,oM 90 89,oG 91 90 true .mv [.tmp
 0],oG 92 90 true .mv [.tmp 5],oG 93 90 true .idxStr [.tmp 91,.tmp 92],oG 94 90 true (.bin .eql) [.tmp 93,.const (.int .u8 46)],oI 95 .pick [.tmp 90,.tmp
 94,oB false]]) ( .cond (.tmp 95) ( .seq ( .reg [4,2,0,5] false [oM 96 5,oI 97 (.bin .add) [.tmp 96,oK 1],oM 5 97]) ( .seq ( .block 4 [2,4,0,5] ( .loop
 [5,4,2,0] zD3)) ( .seq ( .reg [2,4,0,5] false [oF 114 4 4,oL 115 1 false 114,oI 116 (.bin .lss) [.tmp 115,oK 1],oM 117 116,oG 118 117
 false (.fieldAddr 4) [.tmp 4],oG 119 117 false (.load 1 false) [.tmp 118],oG 120 117 false (.bin .gtr) [.tmp 119,oK 6],oI 121 .pick [.tmp 117,oB true,.tmp
 120]]) ( .cond (.tmp 121) ( .seq ( .reg [2,4] false [oL 122 5 true 4,oS 5 2 122,oI 3 .mv [oB false]]) ( .ret)) ( .skip))))) ( .skip))) ( .seq ( .seq ( .reg
 [2,4,0,5] false [oM 123 5,oM 124 0,oT 125 (.len true) 124,oD 126 (.bin .eql) 123 125]) ( .cond (.tmp 126) ( .seq ( .reg [2,4] false [oL 127 5 true 4,oS 5
 2 127,oI 3 .mv [oB true]]) ( .ret)) ( .skip))) ( .seq ( .seq ( .reg [2,4,0,5] false [oM 128 0,oM 129 5,oD 130 (.slc none true false) 128 129,oI 131 (.bin
 .eql) [.tmp 130,.const (.str [37])]]) ( .cond (.tmp 131) ( .seq ( .reg [2,4] false [oF 132 1 4,oJ (.store 1) [.tmp 132,.const (.str [37])]]) ( .seq ( .reg
 [2,4] false [oL 133 5 true 4,oS 5 2 133,oI 3 .mv [oB true]]) ( .ret))) ( .skip))) ( .seq ( .seq ( .reg [2,4,0,5] false [oM 134 0,oM 135 5,oD 136 .idxStr
 134 135,oI 137 (.bin .neq) [.tmp 136,.const (.int .u8 34)]]) ( .cond (.tmp 137) ( .seq ( .reg [2,4] false [oL 138 5 true 4,oS 5 2 138,oI 3 .mv [oB false]])
 ( .ret)) ( .skip))) ( .seq ( .reg [2,4,0,5] false [oM 139 5,oI 140 (.bin .add) [.tmp 139,oK 1],oM 5 140]) ( .seq ( .reg [5,2,4,0] false [oM 141 5,oM 7
 141]) ( .seq ( .block 6 [2,4,5,7,0] ( .loop [5,2,4,7,0] zD4)) ( .seq ( .seq ( .reg [2,4,5,7,0] false [oM 154 5,oM 155 0,oT 156 (.len
 true) 155,oI 157 (.bin .sub) [.tmp 156,oK 1],oD 158 (.bin .neq) 154 157]) ( .cond (.tmp 158) ( .seq ( .reg [2,4] false [oL 159 5 true 4,oS 5 2 159,oI 3 .mv
 [oB false]]) ( .ret)) ( .skip))) ( .seq ( .reg [2,4,5,7,0] false [oM 160 0,oM 161 7,oM 162 5,oI 163 (.slc none true true) [.tmp 160,.tmp 161,.tmp 162],
 oF 164 1 4,oS 1 164 163]) ( .seq ( .reg [2,4] false [oL 165 5 true 4,oS 5 2 165,oI 3 .mv [oB true]]) ( .ret))))))))))))))))))
def zp : AF:={ results:=[.cell 2 5 true,.tmp 3],body:=zAF }
def zE8 : AC:=.seq ( .reg [0] false [oT 1 .box 0,oI 2 .mv [.const (.str [])]]) ( .seq ( .seq ( .reg [1] false [oF 4 0 1,oL 5 1 false 4]) ( .block
 0 [] ( .seq ( .reg [1,5] false [oI 7 (.bin .eql) [.tmp 5,oK 1],oM 6 7]) ( .cond (.tmp 6) ( .seq ( .reg [1] false [oF 8 1 1,oL 9 1 false 8,oT 10 (.call
 zAa true) 9,oM 2 10]) ( .ret)) ( .seq ( .reg [1,5] false [oI 12 (.bin .eql) [.tmp 5,oK 2],oM 11 12]) ( .cond (.tmp 11) ( .seq ( .reg [1] false
 [oF 13 2 1,oL 14 1 false 13,oM 2 14]) ( .ret)) ( .seq ( .reg [1,5] false [oI 16 (.bin .eql) [.tmp 5,oK 3],oM 15 16]) ( .cond (.tmp 15) ( .seq ( .seq ( .reg
 [1] false [oF 17 1 1,oL 18 1 false 17,oI 19 (.bin .eql) [.tmp 18,oK 1]]) ( .cond (.tmp 19) ( .seq ( .reg [] false [oI 2 .mv [.const (.str [84,82,85,69])]])
 ( .ret)) ( .skip))) ( .seq ( .reg [] false [oI 2 .mv [.const (.str [70,65,76,83,69])]]) ( .ret))) ( .seq ( .reg [1,5] false [oI 21 (.bin .eql) [.tmp 5,oK
 4],oM 20 21]) ( .cond (.tmp 20) ( .seq ( .reg [1] false [oI 22 (.call zAb true) [],oM 3 22]) ( .seq ( .reg [1,3] false [oM 23 3,oF 24 1 1,oL 25
 1 false 24,oD 26 (.idxAddr 1) 23 25,oL 27 1 false 26,oM 2 27]) ( .ret))) ( .skip))))))))))) ( .seq ( .reg [] false [oI 2 .mv [.const (.str [])]]) ( .ret)))
def zCr : AF:={ results:=[.tmp 2],body:=zE8 }
def zB8 : AC:=.seq ( .seq ( .reg [3,7,6,10,9,8] false [oM 25 10,oI 26 (.bin .geq) [.tmp 25,oK 0],oM 27 26,oG 28 27 false .mv [.tmp 9],oG
 29 27 false (.fieldAddr 4) [.tmp 3],oG 30 27 false (.load 1 false) [.tmp 29],oG 31 27 false (.fieldAddr 3) [.tmp 3],oG 32 27 false (.load 1 false) [.tmp 31],
 oG 33 27 false (.bin .add) [.tmp 30,.tmp 32],oG 34 27 false (.bin .lss) [.tmp 28,.tmp 33],oI 35 .pick [.tmp 27,oB true,.tmp 34]]) ( .cond (.tmp 35) (
 .skip) ( .exit 0))) ( .seq ( .block 1 [9,3,8,7,6,10] ( .seq ( .reg [3,7,6,10,9,8] false [oI 11 .mv [.const (.str [48])]]) ( .seq ( .seq ( .reg [3,7,
 6,10,9,8,11] false [oM 38 10,oI 39 (.bin .geq) [.tmp 38,oK 0]]) ( .cond (.tmp 39) ( .reg [3,7,6,10,9,8] false [oM 40 7,oM 41 10,oM 42 10,oI 43
 (.bin .add) [.tmp 42,oK 1],oI 44 (.slc none true true) [.tmp 40,.tmp 41,.tmp 43],oM 11 44]) ( .skip))) ( .seq ( .seq ( .reg [3,7,6,10,9,11,8] false
 [oF 45 4 3,oL 46 1 false 45,oI 47 (.bin .gtr) [.tmp 46,oK 0],oM 48 47,oG 49 48 true .mv [.tmp 9],oG 50 48 true (.fieldAddr 4) [.tmp 3],oG 51 48 true
 (.load 1 false) [.tmp 50],oG 52 48 true (.bin .eql) [.tmp 49,.tmp 51],oI 53 .pick [.tmp 48,.tmp 52,oB false]]) ( .cond (.tmp 53) ( .reg [3,7,6,10,9,11,
 8] false [oM 54 8,oI 55 (.bin .add) [.const (.str [46]),.tmp 54],oM 8 55]) ( .skip))) ( .seq ( .seq ( .reg [3,7,6,10,9,11,8] false [oF 56 2 3,oL 57 1
 false 56,oM 58 57,oG 59 58 true .mv [.tmp 9],oG 60 58 true (.fieldAddr 4) [.tmp 3],oG 61 58 true (.load 1 false) [.tmp 60],oG 62 58 true (.bin .gtr) [.tmp
 59,.tmp 61],oI 63 .pick [.tmp 58,.tmp 62,oB false],oM 64 63,oG 65 64 true .mv [.tmp 9],oG 66 64 true (.fieldAddr 4) [.tmp 3],oG 67 64 true (.load 1
 false) [.tmp 66],oG 68 64 true (.bin .sub) [.tmp 65,.tmp 67],oG 69 64 true (.bin .rem) [.tmp 68,oK 3],oG 70 64 true (.bin .eql) [.tmp 69,oK 0],oI 71 .pick
 [.tmp 64,.tmp 70,oB false]]) ( .cond (.tmp 71) ( .reg [3,7,6,10,9,11,8] false [oM 72 8,oI 73 (.bin .add) [.const (.str [44]),.tmp 72],oM 8 73]) (
 .skip))) ( .seq ( .reg [3,7,6,10,9,8,11] false [oM 74 11,oM 75 8,oD 76 (.bin .add) 74 75,oM 8 76]) ( .reg [3,8,7,6,10,9] false [oM 77 9,oI 78
 (.bin .add) [.tmp 77,oK 1],oM 9 78]))))))) ( .reg [9,3,8,7,6,10] false [oM 36 10,oI 37 (.bin .sub) [.tmp 36,oK 1],oM 10 37]))
def zCs : AC:=.seq ( .reg [0,1] false [oT 3 .box 1,oI 4 .mv [.const (.str [])]]) ( .seq ( .reg [3,0] false [oM 12 0,oT 13 (.call
 zV false) 12,oM 5 13]) ( .seq ( .reg [3,5] false [oM 14 5,oT 15 (.call zh true) 14,oI 16 (.bin .lss) [.tmp 15,oK
 0],oM 6 16]) ( .seq ( .reg [3,6,5] false [oM 17 5,oM 18 5,oD 19 (.call zl false) 17 18]) ( .seq ( .reg [3,6,5] false [oM 20 5,oT 21
 (.call zN true) 20,oM 7 21]) ( .seq ( .reg [3,7,6] false [oI 8 .mv [.const (.str [])]]) ( .seq ( .reg [3,8,7,6] false [oI 9 .mv [oK
 0]]) ( .seq ( .seq ( .reg [9,3,8,7,6] false [oM 22 7,oT 23 (.len true) 22,oI 24 (.bin .sub) [.tmp 23,oK 1],oM 10 24]) ( .block 0 [6,3,8] ( .loop [10,
 9,3,8,7,6] zB8))) ( .seq ( .reg [6,3,8] false [oF 79 0 3,oL 80 1 false 79,oM 81 8,oD 82 (.bin .add) 80 81,oF 83 1 3,oL 84 1 false 83,oD
 85 (.bin .add) 82 84,oM 8 85]) ( .seq ( .seq ( .reg [8,6] false [oM 86 6]) ( .cond (.tmp 86) ( .reg [8] false [oM 87 8,oI 88 (.bin .add) [.const (.str [45]),
 .tmp 87],oM 8 88]) ( .skip))) ( .seq ( .reg [8] false [oM 89 8,oM 4 89]) ( .ret)))))))))))
def zBd : AF:={ results:=[.tmp 4],body:=zCs }
def zE9 : AC:=.seq ( .reg [0] false [oI 2 .mv [.const (.nili)]]) ( .seq ( .seq ( .reg [0] false [oM 6 0,oT 7 (.call zAU true) 6,oM 5 7,
 oT 8 (.extract 0) 5,oT 9 (.extract 1) 5,⟨some 3,none,.alloc [.str [],.str [],.bool false,.int .i64 0,.int .i64 0],[]⟩,oS 5 3 8,oM 4 9]) ( .seq ( .reg
 [4] false [oM 10 4,oT 11 (.un .not) 10]) ( .cond (.tmp 11) ( .seq ( .reg [] false [oI 12 (.mkIface zBI) [oK 2],oM 2 12]) ( .ret)) ( .skip)))) ( .seq (
 .reg [] false [oI 2 .mv [.const (.nili)]]) ( .ret)))
def zCt : AF:={ results:=[.tmp 2],body:=zE9 }
def zEt : AC:=.seq ( .reg [1,0] false [oI 4 .mv [oB false]]) ( .seq ( .reg [1,0] false [oM 6 0,oT 7 (.call zAj true) 6,oM 5 7]) ( .seq
 ( .reg [1,5] false [oM 8 5,oM 9 1,oD 10 (.bin .eql) 8 9,oM 4 10]) ( .ret)))
def zCO : AF:={ results:=[.tmp 4],body:=zEt }
def zEu : AC:=.seq ( .seq ( .reg [6,9,12,13,11] false [oM 68 13,oI 69 (.bin .gtr) [.tmp 68,oK 0]]) ( .cond (.tmp 69) ( .skip) ( .exit 0))) (
 .seq ( .block 1 [11,6,9,12,13] ( .reg [6,9,12,13,11] true [oM 72 11,oM 73 13,oD 74 (.slc none false true) 72 73,oI 75 (.bin .add) [.tmp 74,.const
 (.str [44])],oM 76 11,oM 77 13,oD 78 (.slc none true false) 76 77,oD 79 (.bin .add) 75 78,oM 11 79])) ( .reg [11,6,9,12,13] false [oM 70 13,oI 71 (.bin
 .sub) [.tmp 70,oK 3],oM 13 71]))
def zBy : AC:=.seq ( .reg [1,0] false [oT 2 .box 0,oI 4 .mv [.const (.str [])],oI 5 .mv [.const (.nili)]]) ( .seq ( .reg [2,1] false [oM 15 1,oT
 16 (.call zAU true) 15,oM 14 16,oT 17 (.extract 0) 14,oT 18 (.extract 1) 14,⟨some 6,none,.alloc [.str [],.str [],.bool false,.int .i64 0,.int
 .i64 0],[]⟩,oS 5 6 17,oM 7 18]) ( .seq ( .seq ( .reg [2,6,7] false [oM 19 7,oT 20 (.un .not) 19]) ( .cond (.tmp 20) ( .seq ( .reg [] false [oI 21 (.mkIface
 zBI) [oK 2],oI 4 .mv [.const (.str [])],oM 5 21]) ( .ret)) ( .skip))) ( .seq ( .seq ( .reg [2,6] false [oF 22 0 2,oL 23 1 false 22,oI 24 (.bin .neq)
 [.tmp 23,oK 1]]) ( .cond (.tmp 24) ( .seq ( .reg [2] false [oL 25 3 true 2,oT 26 (.call zBU true) 25,oM 4 26,oI 5 .mv [.const (.nili)]]) ( .ret)) (
 .skip))) ( .seq ( .reg [6,2] false [oF 27 1 2,oL 28 1 false 27,oT 29 (.convInt .u64) 28,oM 8 29,oI 9 .mv [.const (.str [])]]) ( .seq ( .seq ( .reg [6,8,9,
 2] false [oF 30 1 2,oL 31 1 false 30,oI 32 (.bin .lss) [.tmp 31,oK 0]]) ( .cond (.tmp 32) ( .reg [6,8] false [oM 33 8,oT 34 (.un .neg) 33,oM 8 34,oI 9 .mv
 [.const (.str [45])]]) ( .skip))) ( .seq ( .reg [6,9,8] false [oM 35 8,oI 36 (.call z7 true) [.tmp 35,oK 10],oM 10 36]) ( .seq ( .reg [6,
 9,10] false [oF 37 3 6,oL 38 1 false 37,oF 39 4 6,oL 40 1 false 39,oD 41 (.bin .add) 38 40,oM 42 10,oT 43 (.len true) 42,oD 44 (.bin .sub) 41 43,oI 45
 .max [oK 0,.tmp 44],oI 46 (.call zAc true) [.const (.str [48]),.tmp 45],oM 47 10,oD 48 (.bin .add) 46 47,oM 10 48]) ( .seq ( .reg [6,9,10]
 true [oM 49 10,oM 50 10,oT 51 (.len true) 50,oF 52 4 6,oL 53 1 false 52,oD 54 (.bin .sub) 51 53,oD 55 (.slc none false true) 49 54,oM 56 10,oM 57 10,oT
 58 (.len true) 57,oF 59 4 6,oL 60 1 false 59,oD 61 (.bin .sub) 58 60,oD 62 (.slc none true false) 56 61,oM 11 55,oM 12 62]) ( .seq ( .seq ( .reg [11,6,9,
 12] false [oF 63 2 6,oL 64 1 false 63]) ( .cond (.tmp 64) ( .seq ( .reg [11,6,9,12] false [oM 65 11,oT 66 (.len true) 65,oI 67 (.bin .sub) [.tmp 66,oK 3],
 oM 13 67]) ( .block 0 [6,11,9,12] ( .loop [13,11,6,9,12] zEu))) ( .skip))) ( .seq ( .seq ( .reg [6,11,9,12] false [oM 80 12,oI 81 (.bin
 .neq) [.tmp 80,.const (.str [])]]) ( .cond (.tmp 81) ( .reg [6,11,9,12] false [oM 82 12,oI 83 (.bin .add) [.const (.str [46]),.tmp 82],oM 12 83]) (
 .skip))) ( .seq ( .reg [6,12,11,9] false [oM 84 9,oF 85 0 6,oL 86 1 false 85,oD 87 (.bin .add) 84 86,oM 88 11,oD 89 (.bin .add) 87 88,oM 90 12,oD 91
 (.bin .add) 89 90,oF 92 1 6,oL 93 1 false 92,oD 94 (.bin .add) 91 93,oM 4 94,oI 5 .mv [.const (.nili)]]) ( .ret))))))))))))
def zAV : AF:={ results:=[.tmp 4,.tmp 5],body:=zBy }
def zD5 : AC:=.seq ( .reg [0] false [oI 2 .mv [.const (.str [])]]) ( .seq ( .reg [0] false [oM 3 0,oT 4 (.call zV false) 3,oT
 5 (.call zN true) 4,oM 2 5]) ( .ret))
def zB9 : AF:={ results:=[.tmp 2],body:=zD5 }
def zD6 : AC:=.seq ( .reg [] false [oI 0 .mv [.const (.lst (some true) 0 [])]]) ( .seq ( .reg [] false [oI 1 (.bslice 1) [.const (.str []),.const
 (.str [35,68,73,86,33]),.const (.str [35,86,65,76,85,69,33]),.const (.str [35,82,69,70,33]),.const (.str [35,78,65,77,69,33]),.const (.str
 [35,78,85,77,33]),.const (.str [35,78,79,78,69,33])],oM 0 1]) ( .ret))
def zCA : AF:={ results:=[.tmp 0],body:=zD6 }
def zCP : AC:=.seq ( .reg [0] false [oI 2 .mv [.const (.nilp)]]) ( .seq ( .reg [0] false [⟨some 3,none,.alloc [.bool false,.lst (some
 true) 0 []],[]⟩,oM 4 0,oD 5 (.call zX false) 3 4,oM 2 5]) ( .ret))
def zCQ : AF:={ results:=[.tmp 2],body:=zCP }
def zBp : AC:=.seq ( .reg [0] false [oI 2 .mv [oK 0]]) ( .seq ( .seq ( .reg [0] false [oM 3 0,oN 4 3,oF 5 1 4,oL 6 1 false 5,oT 7
 (.len false) 6,oI 8 (.bin .eql) [.tmp 7,oK 0]]) ( .cond (.tmp 8) ( .seq ( .reg [] false [oI 2 .mv [oK 0]]) ( .ret)) ( .skip))) ( .seq ( .seq ( .reg [0] false
 [oM 9 0,oN 10 9,oF 11 0 10,oL 12 1 false 11]) ( .cond (.tmp 12) ( .seq ( .reg [] false [oI 2 .mv [oK (-1)]]) ( .ret)) ( .skip))) ( .seq ( .reg [] false [oI 2
 .mv [oK 1]]) ( .ret))))
def zAk : AF:={ results:=[.tmp 2],body:=zBp }
def zBz : AC:=.seq ( .reg [1,0] false [oI 4 .mv [.const (.nilp)]]) ( .seq ( .reg [1,0] false [oM 5 0,oM 6 1,oN 7 6,oF 8 1 7,oL 9 1
 false 8,oT 10 (.call zR true) 9,oI 11 (.call zL false) [.tmp 5,oB false,.tmp 10],oM 4 11]) ( .ret))
def zAr : AF:={ results:=[.tmp 4],body:=zBz }
def zBO : AC:=.seq ( .reg [0] false [oI 2 .mv [.const (.str [])]]) ( .seq ( .reg [0] false [oM 3 0,oI 4 (.call zW
 true) [.tmp 3,oK 10],oM 2 4]) ( .ret))
def zy : AF:={ results:=[.tmp 2],body:=zBO }
def zB0 : AC:=.seq ( .reg [0] false [⟨some 2,none,.alloc [.str [],.str [],.bool false,.int .i64 0,.int .i64 0],[]⟩,oI 3 .mv [oB false]]) (
 .seq ( .seq ( .reg [2,0] false [oM 6 0,oT 7 (.len true) 6,oI 8 (.bin .gtr) [.tmp 7,oK 40]]) ( .cond (.tmp 8) ( .seq ( .reg [2] false [oL 9 5 true 2,oS 5 2
 9,oI 3 .mv [oB false]]) ( .ret)) ( .skip))) ( .seq ( .seq ( .reg [2,0] false [oM 11 0,oT 12 (.call zAq true) 11,oM 10 12,oT 13 (.extract 0) 10,
 oT 14 (.extract 1) 10,oT 15 (.extract 2) 10,oF 16 0 2,oS 1 16 13,oM 0 14,oM 3 15]) ( .seq ( .reg [2,0,3] false [oM 17 3,oT 18 (.un .not) 17]) ( .cond
 (.tmp 18) ( .seq ( .reg [2] false [oL 19 5 true 2,oS 5 2 19,oI 3 .mv [oB false]]) ( .ret)) ( .skip)))) ( .seq ( .reg [2,0] false [oM 21 0,oI 22 (.call
 zAE true) [.tmp 21,.const (.str [35,44])],oM 20 22,oT 23 (.extract 0) 20,oT 24 (.extract 1) 20,oM 0 23,oF 25 2 2,oS 1 25 24]) ( .seq (
 .reg [2,0] false [oM 26 0,oT 27 (.call zA0 true) 26,oF 28 3 2,oS 1 28 27]) ( .seq ( .reg [2,0] false [oM 29 0,oF 30 3 2,oL 31 1 false 30,oD 32
 (.slc none true false) 29 31,oM 0 32]) ( .seq ( .seq ( .reg [2,0] false [oM 34 0,oI 35 (.call zAE true) [.tmp 34,.const (.str [46])],oM 33
 35,oT 36 (.extract 0) 33,oT 37 (.extract 1) 33,oM 4 36,oM 5 37]) ( .seq ( .reg [2,4,0,5] false [oM 38 5]) ( .cond (.tmp 38) ( .seq ( .reg [2,4] false [oM
 39 4,oT 40 (.call zA0 true) 39,oF 41 4 2,oS 1 41 40]) ( .seq ( .reg [2,4] false [oM 42 4,oF 43 4 2,oL 44 1 false 43,oD 45 (.slc none true
 false) 42 44,oM 0 45]) ( .seq ( .reg [2,0] false [oF 46 4 2,oL 47 1 false 46,oI 48 (.bin .lss) [.tmp 47,oK 1],oM 49 48,oG 50 49 false (.fieldAddr 4) [.tmp
 2],oG 51 49 false (.load 1 false) [.tmp 50],oG 52 49 false (.bin .gtr) [.tmp 51,oK 6],oI 53 .pick [.tmp 49,oB true,.tmp 52]]) ( .cond (.tmp 53) ( .seq (
 .reg [2] false [oL 54 5 true 2,oS 5 2 54,oI 3 .mv [oB false]]) ( .ret)) ( .skip))))) ( .skip)))) ( .seq ( .seq ( .reg [2,0] false [oM 55 0,oI 56 (.bin .eql)
 [.tmp 55,.const (.str [37])]]) ( .cond (.tmp 56) ( .reg [2] false [oF 57 1 2,oJ (.store 1) [.tmp 57,.const (.str [37])],oI 0 .mv [.const (.str [])]]) ( .seq
 ( .reg [2,0] false [oM 59 0,oT 60 (.call zAq true) 59,oM 58 60,oT 61 (.extract 0) 58,oT 62 (.extract 1) 58,oT 63 (.extract 2) 58,oF 64 1 2,oS
 1 64 61,oM 0 62,oM 3 63]) ( .seq ( .reg [2,0,3] false [oM 65 3,oT 66 (.un .not) 65]) ( .cond (.tmp 66) ( .seq ( .reg [2] false [oL 67 5 true 2,oS 5 2 67,
 oI 3 .mv [oB false]]) ( .ret)) ( .skip)))))) ( .seq ( .reg [2,0] false [oL 68 5 true 2,oF 69 3 2,oL 70 1 false 69,oI 71 (.bin .gtr) [.tmp 70,oK 0],oM 72
 71,oG 73 72 true .mv [.tmp 0],oG 74 72 true (.bin .eql) [.tmp 73,.const (.str [])],oI 75 .pick [.tmp 72,.tmp 74,oB false],oS 5 2 68,oM 3 75]) (
 .ret)))))))))
def zBA : AF:={ results:=[.cell 2 5 true,.tmp 3],body:=zB0 }
def zGu : AC:=.seq ( .reg [0] false [oI 2 .mv [oK 0]]) ( .seq ( .seq ( .reg [0] false [oM 4 0,oI 5 (.eqn .iface false true) [.tmp 4,.const
 (.nili)]]) ( .cond (.tmp 5) ( .seq ( .reg [] false [oI 2 .mv [oK 0]]) ( .ret)) ( .skip))) ( .seq ( .reg [0] false [⟨some 3,none,.alloc [.int .i64 0],[]⟩]) (
 .seq ( .seq ( .reg [3,0] false [oM 6 0,oT 7 (.mkIface zCM) 3,oD 8 (.call zC4 false) 6 7]) ( .cond (.tmp 8) ( .seq ( .reg [3] false [oL 9 1
 false 3,oM 2 9]) ( .ret)) ( .skip))) ( .seq ( .reg [] false [oI 2 .mv [oK (-1)]]) ( .ret)))))
def zCR : AF:={ results:=[.tmp 2],body:=zGu }
def zGv : AC:=.seq ( .reg [0] false [oT 1 .box 0,oI 2 .mv [.const (.str [])]]) ( .seq ( .seq ( .reg [1] false [oF 3 0 1,oL 4 1 false 3]) ( .block 0
 [] ( .seq ( .reg [1,4] false [oI 6 (.bin .eql) [.tmp 4,oK 1],oM 5 6]) ( .cond (.tmp 5) ( .seq ( .reg [1] false [oF 7 1 1,oL 8 1 false 7,oT 9 (.call
 zE7 true) 8,oM 2 9]) ( .ret)) ( .seq ( .reg [1,4] false [oI 11 (.bin .eql) [.tmp 4,oK 2],oM 10 11]) ( .cond (.tmp 10) ( .seq ( .reg [1] false [oF
 12 2 1,oL 13 1 false 12,oM 2 13]) ( .ret)) ( .seq ( .reg [1,4] false [oI 15 (.bin .eql) [.tmp 4,oK 3],oM 14 15]) ( .cond (.tmp 14) ( .seq ( .seq ( .reg [1]
 false [oF 16 1 1,oL 17 1 false 16,oI 18 (.bin .eql) [.tmp 17,oK 1]]) ( .cond (.tmp 18) ( .seq ( .reg [] false [oI 2 .mv [.const (.str [84,82,85,69])]]) (
 .ret)) ( .skip))) ( .seq ( .reg [] false [oI 2 .mv [.const (.str [70,65,76,83,69])]]) ( .ret))) ( .seq ( .reg [1,4] false [oI 20 (.bin .eql) [.tmp 4,oK 4],
 oM 19 20]) ( .cond (.tmp 19) ( .seq ( .reg [1] false [oF 21 1 1,oL 22 1 false 21,oI 23 (.bin .gtr) [.tmp 22,oK 0],oM 24 23,oG 25 24 true (.fieldAddr 1)
 [.tmp 1],oG 26 24 true (.load 1 false) [.tmp 25],oG 27 24 true (.bin .lss) [.tmp 26,oK 7],oI 28 .pick [.tmp 24,.tmp 27,oB false]]) ( .cond (.tmp 28) ( .seq
 ( .reg [1] false [oF 29 1 1,oL 30 1 false 29,oI 31 (.idxArr 1 7) [.glob zDT,.tmp 30],oL 32 1 false 31,oM 2 32]) ( .ret)) ( .skip))) (
 .skip))))))))))) ( .seq ( .reg [] false [oI 2 .mv [.const (.str [])]]) ( .ret)))
def zDx : AF:={ results:=[.tmp 2],body:=zGv }
def zBB : AC:=.seq ( .reg [1,0] false [oI 4 .mv [.const (.nilp)]]) ( .seq ( .reg [1,0] false [oM 6 1,oT 7 (.convInt .u64) 6,oM 5
 7]) ( .seq ( .seq ( .reg [1,0,5] false [oM 8 1,oI 9 (.bin .lss) [.tmp 8,oK 0]]) ( .cond (.tmp 9) ( .reg [1,0,5] false [oM 10 5,oT 11 (.un .neg) 10,oM 5
 11]) ( .skip))) ( .seq ( .reg [5,1,0] false [oM 12 0,oM 13 1,oI 14 (.bin .lss) [.tmp 13,oK 0],oM 15 5,oT 16 (.call z8 true) 15,oI 17
 (.call zL false) [.tmp 12,.tmp 14,.tmp 16],oM 4 17]) ( .ret))))
def zAJ : AF:={ results:=[.tmp 4],body:=zBB }
def zBq : AC:=.seq ( .reg [0,2,1] false [oI 6 .mv [.const (.nilp)]]) ( .seq ( .reg [0,2,1] false [oM 7 0,oM 8 2,oN 9 7,oF 10 1 9,
 oS 1 10 8]) ( .seq ( .reg [0,2,1] false [oM 11 0,oM 12 1,oM 13 12,oG 14 13 true .mv [.tmp 2],oG 15 13 true (.len false) [.tmp 14],oG 16 13 true (.bin
 .gtr) [.tmp 15,oK 0],oI 17 .pick [.tmp 13,.tmp 16,oB false],oN 18 11,oF 19 0 18,oS 1 19 17]) ( .seq ( .reg [0] false [oM 20 0,oM 6 20]) ( .ret))))
def zAB : AF:={ results:=[.tmp 6],body:=zBq }
def zC5 : AC:=.seq ( .reg [0] false [oI 2 .mv [.const (.lst (some true) 0 [])]]) ( .seq ( .reg [0] false [oM 3 0,oI 4 (.append 1 4) [.const
 (.lst (some true) 0 []),.tmp 3],oM 2 4]) ( .ret))
def zAg : AF:={ results:=[.tmp 2],body:=zC5 }
def zBP : AC:=.seq ( .seq ( .reg [1,0,5,6] false [oM 24 6,oT 25 (.len false) 24,oI 26 (.bin .gtr) [.tmp 25,oK 0]]) ( .cond (.tmp
 26) ( .skip) ( .exit 0))) ( .block 1 [5,1,6,0] ( .seq ( .reg [1,0,5,6] false [oI 7 .mv [.const (.int .u32 0)]]) ( .seq ( .reg [1,0,5,6] false [oM 28 6,
 oM 29 1,oT 30 (.convInt .u32) 29,oD 31 (.call zAA true) 28 30,oM 27 31,oT 32 (.extract 0) 27,oT 33 (.extract 1) 27,oM 6 32,oM 7 33]) (
 .seq ( .reg [1,6,0,7,5] false [oM 34 7,oI 35 (.bin .lss) [.tmp 34,.const (.int .u32 10)]]) ( .cond (.tmp 35) ( .reg [1,6,0,7,5] false [oM 36 5,oM 37
 7,oI 38 (.bin .add) [.const (.int .u32 48),.tmp 37],oT 39 (.convInt .u8) 38,oT 40 (.bslice 1) 39,oD 41 (.append 1 1) 36 40,oM 5 41]) ( .reg [1,6,0,7,5]
 false [oM 42 5,oM 43 7,oI 44 (.bin .add) [.const (.int .u32 97),.tmp 43],oI 45 (.bin .sub) [.tmp 44,.const (.int .u32 10)],oT 46 (.convInt .u8) 45,oT 47
 (.bslice 1) 46,oD 48 (.append 1 1) 42 47,oM 5 48]))))))
def zBQ : AC:=.seq ( .seq ( .reg [5,9,8] false [oM 59 8,oM 60 9,oD 61 (.bin .lss) 59 60]) ( .cond (.tmp 61) ( .skip) ( .exit 2))) (
 .seq ( .block 3 [5,9,8] ( .seq ( .reg [5,9,8] false [oM 66 5,oM 67 8,oD 68 (.idxAddr 1) 66 67,oL 69 1 false 68,oM 10 69]) ( .seq ( .reg [5,9,8,10]
 false [oM 70 5,oM 71 8,oM 72 5,oM 73 9,oD 74 (.idxAddr 1) 72 73,oL 75 1 false 74,oD 76 (.idxAddr 1) 70 71,oS 1 76 75]) ( .reg [5,9,8,10] false [oM 77
 5,oM 78 9,oM 79 10,oD 80 (.idxAddr 1) 77 78,oS 1 80 79])))) ( .reg [5,9,8] false [oM 62 8,oI 63 (.bin .add) [.tmp 62,oK 1],oM 64 9,oI 65 (.bin .sub)
 [.tmp 64,oK 1],oM 8 63,oM 9 65]))
def zAl : AC:=.seq ( .reg [1,0] false [oI 4 .mv [.const (.str [])]]) ( .seq ( .seq ( .reg [1,0] false [oM 11 0,oI 12 (.eqn .ptr false
 true) [.tmp 11,.const (.nilp)]]) ( .cond (.tmp 12) ( .seq ( .reg [] false [oI 4 .mv [.const (.str [60,110,105,108,62])]]) ( .ret)) ( .skip))) ( .seq ( .seq
 ( .reg [1,0] false [oM 13 0,oN 14 13,oF 15 1 14,oL 16 1 false 15,oT 17 (.len false) 16,oI 18 (.bin .eql) [.tmp 17,oK 0]]) ( .cond (.tmp 18) ( .seq ( .reg
 [] false [oI 4 .mv [.const (.str [48])]]) ( .ret)) ( .skip))) ( .seq ( .reg [1,0] false [oI 5 .mv [.const (.lst (some true) 0 [])]]) ( .seq ( .seq ( .reg [5,1,
 0] false [oM 19 0,oN 20 19,oF 21 1 20,oL 22 1 false 21,oT 23 (.call zR true) 22,oM 6 23]) ( .block 0 [5,0] ( .loop [5,1,6,0]
 zBP))) ( .seq ( .seq ( .reg [5,0] false [oM 49 0,oN 50 49,oF 51 0 50,oL 52 1 false 51]) ( .cond (.tmp 52) ( .reg [5] false [oM 53 5,
 oI 54 (.bslice 1) [.const (.int .u8 45)],oD 55 (.append 1 1) 53 54,oM 5 55]) ( .skip))) ( .seq ( .seq ( .reg [5] false [oM 56 5,oT 57 (.len false) 56,oI 58
 (.bin .sub) [.tmp 57,oK 1],oI 8 .mv [oK 0],oM 9 58]) ( .block 2 [5] ( .loop [9,8,5] zBQ))) ( .seq ( .reg [5] false [oM 81 5,oT 82
 .bytesToStr 81,oM 4 82]) ( .ret))))))))
def zi : AF:={ results:=[.tmp 4],body:=zAl }
def zEv : AC:=.seq ( .reg [0] false [oI 2 .mv [.const (.str [])],oI 3 .mv [.const (.str [])],oI 4 .mv [oB false]]) ( .seq ( .seq ( .reg [0] false
 [oM 5 0,oI 6 (.bin .eql) [.tmp 5,.const (.str [])],oM 7 6,oG 8 7 false .mv [.tmp 0],oG 9 7 false .idxStr [.tmp 8,oK 0],oG 10 7 false (.bin .neq) [.tmp 9,
 .const (.int .u8 34)],oI 11 .pick [.tmp 7,oB true,.tmp 10]]) ( .cond (.tmp 11) ( .seq ( .reg [0] false [oM 12 0,oI 2 .mv [.const (.str [])],oM 3 12,oI 4
 .mv [oB true]]) ( .ret)) ( .skip))) ( .seq ( .reg [0] false [oM 13 0,oI 14 (.slc none true false) [.tmp 13,oK 1],oI 15 (.call zA9 true) [.tmp 14,
 .const (.str [34])],oT 16 (.extract 0) 15,oT 17 (.extract 1) 15,oT 18 (.extract 2) 15,oM 2 16,oM 3 17,oM 4 18]) ( .ret)))
def zCS : AF:={ results:=[.tmp 2,.tmp 3,.tmp 4],body:=zEv }
def zC6 : AC:=.seq ( .reg [1,0] false [oI 4 .mv [.const (.str [])],oI 5 .mv [oB false]]) ( .seq ( .reg [1,0] false [oM 6 0,oM 7 1,oD 8
 (.call zm true) 6 7,oT 9 (.extract 0) 8,oT 10 (.extract 1) 8,oM 4 9,oM 5 10]) ( .ret))
def zBJ : AF:={ results:=[.tmp 4,.tmp 5],body:=zC6 }
def zFA : AC:=.seq ( .reg [0] false [oI 2 .mv [oK 0]]) ( .seq ( .reg [0] false [oM 3 0,oT 4 (.len true) 3,oM 5 0,oI 6 (.call zAI
 true) [.tmp 5,.const (.str [48])],oT 7 (.len true) 6,oD 8 (.bin .sub) 4 7,oM 2 8]) ( .ret))
def zCu : AF:={ results:=[.tmp 2],body:=zFA }
def zCd : AC:=.seq ( .reg [0] false [oI 2 .mv [.const (.lst (some true) 0 [])]]) ( .seq ( .reg [0] false [oM 3 0,oT 4 (.convInt .u32) 3,oM 5
 0,oI 6 (.bin .shr) [.tmp 5,.const (.int .u64 32)],oT 7 (.convInt .u32) 6,oD 8 (.bslice 1) 4 7,oT 9 (.call zb true) 8,oM 2 9]) ( .ret))
def zA4 : AF:={ results:=[.tmp 2],body:=zCd }
def zCC : AC:=.seq ( .seq ( .reg [1,6,0,8,7] false [oM 15 8,oI 16 (.bin .geq) [.tmp 15,oK 0]]) ( .cond (.tmp 16) ( .skip) ( .exit 0)))
 ( .seq ( .block 1 [1,6,0,7,8] ( .seq ( .reg [1,6,0,8,7] false [oM 19 7,oI 20 (.bin .shl) [.tmp 19,.const (.int .u64 32)],oM 21 0,oM 22 8,oD 23
 (.idxAddr 1) 21 22,oL 24 1 false 23,oT 25 (.convInt .u64) 24,oD 26 (.bin .or) 20 25,oM 7 26]) ( .seq ( .reg [1,6,0,8,7] false [oM 27 6,oM 28 8,oM 29 7,
 oM 30 1,oT 31 (.convInt .u64) 30,oD 32 (.bin .quo) 29 31,oT 33 (.convInt .u32) 32,oD 34 (.idxAddr 1) 27 28,oS 1 34 33]) ( .reg [1,6,0,8,7] false [oM 35
 7,oM 36 1,oT 37 (.convInt .u64) 36,oD 38 (.bin .rem) 35 37,oM 7 38])))) ( .reg [1,6,0,7,8] false [oM 17 8,oI 18 (.bin .sub) [.tmp 17,oK 1],oM 8 18]))
def zCe : AC:=.seq ( .reg [1,0] false [oI 4 .mv [.const (.lst (some true) 0 [])],oI 5 .mv [.const (.int .u32 0)]]) ( .seq ( .reg [1,0]
 false [oM 9 0,oT 10 (.len false) 9,⟨some 11,none,.make 1 4 (.int .u32 0),[.tmp 10,.tmp 10]⟩,oM 6 11]) ( .seq ( .reg [1,6,0] false [oI 7 .mv [.const
 (.int .u64 0)]]) ( .seq ( .seq ( .reg [1,6,0,7] false [oM 12 0,oT 13 (.len false) 12,oI 14 (.bin .sub) [.tmp 13,oK 1],oM 8 14]) ( .block 0 [7,6] ( .loop
 [8,1,6,0,7] zCC))) ( .seq ( .reg [7,6] false [oM 39 6,oT 40 (.call zb true) 39,oM 41 7,oT 42 (.convInt .u32) 41,oM 4
 40,oM 5 42]) ( .ret)))))
def zA5 : AF:={ results:=[.tmp 4,.tmp 5],body:=zCe }
def zB1 : AC:=.seq ( .reg [0,1] false [oI 4 .mv [.const (.str [])],oI 5 .mv [oB false]]) ( .seq ( .seq ( .reg [0,1] false [oM 6 0,oM 7
 1,oD 8 (.call zn true) 6 7,oT 9 (.un .not) 8]) ( .cond (.tmp 9) ( .seq ( .reg [0] false [oM 10 0,oM 4 10,oI 5 .mv [oB false]]) ( .ret))
 ( .skip))) ( .seq ( .reg [1,0] false [oM 11 0,oM 12 1,oT 13 (.len true) 12,oD 14 (.slc none true false) 11 13,oM 4 14,oI 5 .mv [oB true]]) ( .ret)))
def zAs : AF:={ results:=[.tmp 4,.tmp 5],body:=zB1 }
def zB2 : AC:=.seq ( .reg [1,0] false [oI 4 .mv [oB false]]) ( .seq ( .reg [1,0] false [oM 5 0,oT 6 (.len true) 5,oM 7 1,oT 8 (.len
 true) 7,oD 9 (.bin .geq) 6 8,oM 10 9,oG 11 10 true .mv [.tmp 0],oG 12 10 true .mv [.tmp 1],oG 13 10 true (.len true) [.tmp 12],oG 14 10 true (.slc none
 false true) [.tmp 11,.tmp 13],oG 15 10 true .mv [.tmp 1],oG 16 10 true (.bin .eql) [.tmp 14,.tmp 15],oI 17 .pick [.tmp 10,.tmp 16,oB false],oM 4 17]) (
 .ret))
def zAt : AF:={ results:=[.tmp 4],body:=zB2 }
def zCT : AC:=.seq ( .seq ( .reg [0,3] false [oM 6 3,oI 7 (.bin .gtr) [.tmp 6,oK 0],oM 8 7,oG 9 8 true .mv [.tmp 0],oG 10 8 true .mv
 [.tmp 3],oG 11 8 true (.bin .sub) [.tmp 10,oK 1],oG 12 8 true (.idxAddr 1) [.tmp 9,.tmp 11],oG 13 8 true (.load 1 false) [.tmp 12],oG 14 8 true (.bin .eql)
 [.tmp 13,.const (.int .u32 0)],oI 15 .pick [.tmp 8,.tmp 14,oB false]]) ( .cond (.tmp 15) ( .skip) ( .exit 0))) ( .block 1 [3,0] ( .reg [0,3] false [oM 16
 3,oI 17 (.bin .sub) [.tmp 16,oK 1],oM 3 17]))
def zC7 : AC:=.seq ( .reg [0] false [oI 2 .mv [.const (.lst (some true) 0 [])]]) ( .seq ( .reg [0] false [oM 4 0,oT 5 (.len false) 4,oM 3 5])
 ( .seq ( .block 0 [3,0] ( .loop [3,0] zCT)) ( .seq ( .reg [3,0] false [oM 18 0,oM 19 3,oD 20 (.slc (some 1) false true) 18 19,oM 2 20]) (
 .ret))))
def zBK : AF:={ results:=[.tmp 2],body:=zC7 }
end Go.AM
