/- Several texts of mine in one (Am4, Am5, Am6, Am7, Am8). Own work. -/
import Derived.Test.YtcnogafgcfidnaaGreatDoorGAm1Am3
import Derived.Laws.StructEq
import Derived.OwnWalk
import Derived.Lib.ConvBytes
import Derived.Laws.BytesString
import Derived.Laws.IdiomStrings
import Derived.Laws.Slices
set_option linter.all false
namespace Go.AM
def zF1 : Value → AV → Bool
  | .bool b,.bool b'=>b == b'
  | .int k n,.int k' n'=>decide (k = k') && n == n'
  | .string s,.str l=>s.data.toList == l
  | .nilIface,.nili=>true
  | .pointer none,.nilp=>true
  | .slice none 0 0,.lst (some true) _ []=>true
  | .nilFunc,.nilf=>true
  | .map none,.nilm=>true
  | _,.undef=>true
  | _,_=>false
def zGI : List Value → List AV → Bool
  | [],[]=>true
  | v :: vs,c :: cs=>zF1 v c && zGI vs cs
  | _,_=>false
def zDG : Value → AV → Bool
  | .agg vs,.agg cs=>zGI vs.toList cs
  | v,c=>zF1 v c
def zAs : Operand → Opd → Bool
  | .tmp t,.tmp t'=>t == t'
  | .const v,.const c=>zDG v c
  | .global g,.glob g'=>g == g'
  | .func f,.fn f'=>f == f'
  | _,_=>false
def zA4 : List Operand → List Opd → Bool
  | [],[]=>true
  | x :: xs,y :: ys=>zAs x y && zA4 xs ys
  | _,_=>false
def zBL (P : Program) (t : TypeId) : Option Nat:=(P.info? t).map (·.size)
def zDr (P : Program) (t : TypeId) : Option Bool:=match P.underlying t with
  | some (.struct _)=>some true
  | some (.array _ _)=>some true
  | some _=>some false
  | none=>none
def zGJ (P : Program) (S : TypeId → Option (List Sc)) : Nat → List Field → Option (List Sc)
  | _,[]=>some []
  | o,f :: r=>if f.name ≠ "_" ∧ f.offset = o then
      match S f.type with
      | some s=>if zBL P f.type = some s.length ∧ 0 < s.length then (zGJ P S (o + s.length) r).map (s ++ ·) else none
      | none=>none
    else none
def zDH (P : Program) : Nat → TypeId → Option (List Sc)
  | 0,_=>none
  | d + 1,t=>match P.underlying t with
    | some (.int k)=>some [.int k]
    | some .bool=>some [.bool]
    | some .string=>some [.str]
    | some (.struct fs)=>if P.stoodInHeld t then none else zGJ P (zDH P d) 0 fs.toList
    | _=>none
def zE5 : Operand → Bool
  | .const _=>true
  | _=>false
def zQm (P : Program) (t : TypeId) : EK → Bool
  | .iface=>match P.underlying t with
    | some (.interface _)=>true
    | _=>false
  | .ptr=>match P.underlying t with
    | some (.pointer _)=>true
    | _=>false
  | .sl=>match P.underlying t with
    | some (.slice _)=>true
    | _=>false
  | .fn=>match P.underlying t with
    | some (.func _ _ _)=>true
    | _=>false
def zBB (P : Program) (t : TypeId) (k : Nat) : Bool:=match P.underlying t with
  | some (.slice e)=>zBL P e == some k
  | _=>false
def zH9 (P : Program) (t : TypeId) (n k : Nat) : Bool:=match P.underlying t with
  | some (.array m e)=>m == n && zBL P e == some k
  | _=>false
def zDA (P : Program) (t : TypeId) : Bool:=match P.underlying t with
  | some .string=>true
  | _=>false
def zI3 (P : Program) (t : TypeId) (k : IntKind) : Bool:=match P.underlying t with
  | some (.int k')=>decide (k' = k)
  | _=>false
def zLQ (P : Program) (t : TypeId) : Bool:=match P.underlying t with
  | some (.slice e)=>zI3 P e .u8
  | _=>false
def zIA (P : Program) (t : TypeId) (f : Nat) : Option (Nat × TypeId):=match P.underlying t with
  | some (.struct fs)=>(fs[f]?).map fun f=>(f.offset,f.type)
  | _=>none
def zBQ (P : Program) (t : TypeId) : List Nat → Option (List (Nat × Nat))
  | []=>some []
  | i :: r=>match P.underlying t with
    | some (.struct fs)=>match fs[i]? with
      | some f=>match zBL P f.type,zBQ P t r with
        | some s,some pl=>some ((f.offset,s) :: pl)
        | _,_=>none
      | none=>none
    | some (.array _ e)=>match zBL P e,zBQ P t r with
      | some s,some pl=>some ((i * s,s) :: pl)
      | _,_=>none
    | _=>none
def zJ2 (P : Program) (t : TypeId) : Bool:=match P.underlying t with
  | some (.struct fs)=>fs.toList.all fun f=>(zBL P f.type).isSome
  | some (.array _ e)=>(zBL P e).isSome
  | _=>false
def zGK (P : Program) (t : TypeId) (z : List AV) : Bool:=match P.info? t with
  | some i=>match i.zero with
    | some v=>zGI v.cells.toList z
    | none=>false
  | none=>false
def zCU (P : Program) (t : TypeId) : Bool:=(match P.underlying t with
  | some (.struct fs)=>(match fs.toList with
    | [f,g]=>f.offset == 0 && g.offset == 1 && zI3 P f.type .i64 && zI3 P g.type .i64
    | _=>false)
  | _=>false) && decide (zDH P 30 t = some [.int .i64,.int .i64])
def zEO (P : Program) : Op → AK → List Opd → Bool
  | .move x,.mv,[x']=>zAs x x'
  | .assign x,.mv,[x']=>zAs x x'
  | .pick c a b,.pick,[c',a',b']=>zAs c c' && zAs a a' && zAs b b'
  | .binOp op _ x y _,.bin op',[x',y']=>decide (op = op') && zAs x x' && zAs y y'
  | .binOp op t x y _,.eqs neg sh,[x',y']=>decide (op = if neg then .neq else .eql) && decide (zDH P 30 t = some sh) && !(P.eqGuardType P.depth t) && (match P.underlying t with
      | some (.struct _)=>true
      | _=>false) && zAs x x' && zAs y y'
  | .binOp op t x y _,.eqb neg,[x',y']=>decide (op = if neg then .neq else .eql) && (match P.underlying t with
      | some .bool=>true
      | _=>false) && zAs x x' && zAs y y'
  | .binOp op t x y _,.eqn e neg lit,[x',y']=>decide (op = if neg then .neq else .eql) && zQm P t e && (!lit || zE5 x || zE5 y) && zAs x x' && zAs y y'
  | .unOp op _ x,.un op',[x']=>decide (op = op') && zAs x x'
  | .convert s d x,.convInt k,[x']=>(P.underlying s).isSome && zI3 P d k && zAs x x'
  | .convert s d x,.convRune,[x']=>(P.underlying s).isSome && zDA P d && zAs x x'
  | .convert s d x,.convId,[x']=>(P.underlying s).isSome && zDA P d && zAs x x'
  | .convert s d x,.bytesToStr,[x']=>zLQ P s && zDA P d && zAs x x'
  | .convert s d x,.strToBytes,[x']=>(P.underlying s).isSome && zLQ P d && zAs x x'
  | .makeInterface t x,.mkIface t',[x']=>t == t' && (match P.underlying t with
      | some (.interface _)=>false
      | some _=>true
      | none=>false) && zAs x x'
  | .typeAssert x xt t true,.tyAs t',[x']=>t == t' && (match P.underlying t with
      | some (.interface _)=>false
      | some _=>true
      | none=>false) && zAs x x'
  | .makeFunc (.func f) first caps,.mkFn f' m,xs=>f == f' && first.size == m && zA4 (first.toList ++ caps.toList) xs
  | .call { callee:=.builtin .len,args,argTypes },.len s,[x']=>(match args.toList,argTypes[0]? with
      | [x],some t=>(if s then zDA P t else (match P.underlying t with
        | some (.slice _)=>true
        | _=>false)) && zAs x x'
      | _,_=>false)
  | .slice t x lo hi none,.slc k blo bhi,xs=>(match k with
      | none=>zDA P t
      | some k=>zBB P t k) && lo.isSome == blo && hi.isSome == bhi && zA4 (x :: (lo.toList ++ hi.toList)) xs
  | .fieldAddr t x f,.fieldAddr o,[x']=>(match zIA P t f with
      | some (o',u)=>o' == o && (match zBL P u with
        | some s=>s != 0
        | none=>false)
      | none=>false) && zAs x x'
  | .field t x f,.field o s ag,[x']=>(match zIA P t f with
      | some (o',u)=>o' == o && zBL P u == some s && zDr P u == some ag
      | none=>false) && zAs x x'
  | .indexAddr t x i,.idxAddr k,[x',i']=>zBB P t k && zAs x x' && zAs i i'
  | .indexAddr t x i,.idxArr k n,[x',i']=>zH9 P t n k && zAs x x' && zAs i i'
  | .index t x i,.idxStr,[x',i']=>zDA P t && zAs x x' && zAs i i'
  | .index t x i,.idxAgg k n ag,[x',i']=>zH9 P t n k && (match P.underlying t with
      | some (.array _ e)=>zDr P e == some ag
      | _=>false) && zAs x x' && zAs i i'
  | .nilCheck x,.nilchk,[x']=>zAs x x'
  | .extract x i,.extract i',[x']=>i == i' && zAs x x'
  | .load t x,.load s ag,[x']=>zBL P t == some s && zDr P t == some ag && zAs x x'
  | .store t p x,.store s,[p',x']=>zBL P t == some s && zAs p p' && zAs x x'
  | .alloc t,.alloc z,[]=>zGK P t z
  | .alloc t,.allocT t' z,[]=>t == t' && zGK P t z
  | .box _ x,.box,[x']=>zAs x x'
  | .build t parts,.build z pl,xs=>zGK P t z && zJ2 P t && decide (zBQ P t (parts.toList.map (·.1)) = some pl) && zA4 (parts.toList.map (·.2)) xs
  | .buildSlice t len parts,.bslice k,xs=>zBB P t k && (match P.underlying t with
      | some (.slice e)=>(match P.info? e with
        | some i=>i.zero.isSome
        | none=>false)
      | _=>false) && decide (len * k ≤ 16777216) && decide (len ≤ 16777216) && decide (parts.toList.map (·.1) = List.range len) && zA4 (parts.toList.map (·.2)) xs
  | .makeSlice t l c,.make k bytes z,[l',c']=>(match P.underlying t with
      | some (.slice e)=>(match P.info? e with
        | some i=>i.size == k && i.bytes == bytes && (match i.zero with
          | some v=>zDG v z && v.cells.size == k
          | none=>false)
        | none=>false)
      | _=>false) && zAs l l' && zAs c c' && decide (0 < k)
  | .call { callee:=.builtin .append,args,argTypes },.append k bytes,[x',y']=>(match args.toList,argTypes.toList with
      | [x,y],[t,t']=>t == t' && (match P.underlying t with
        | some (.slice e)=>(match P.info? e with
          | some i=>i.size == k && i.bytes == bytes && (match i.zero with
            | some v=>v.cells.size == k
            | none=>false)
          | none=>false)
        | _=>false) && zAs x x' && zAs y y'
      | _,_=>false) && decide (0 < k)
  | .call { callee:=.builtin .append,args,argTypes },.appendS,[x',y']=>(match args.toList,argTypes.toList with
      | [x,y],[t,t']=>zDA P t' && (match P.underlying t with
        | some (.slice e)=>(match P.info? e with
          | some i=>i.size == 1 && i.bytes == 1 && (match i.zero with
            | some v=>v.cells.size == 1
            | none=>false)
          | none=>false)
        | _=>false) && zAs x x' && zAs y y'
      | _,_=>false)
  | .call { callee:=.builtin .append,args,argTypes },.appT tt s,[x',y']=>(match args.toList,argTypes.toList with
      | [x,y],[t,t']=>(if s = true then zDA P t' else t == t') && (match P.underlying t with
        | some (.slice e)=>e == tt && (match P.info? e with
          | some i=>i.size == 1 && i.bytes == 1 && (match i.zero with
            | some v=>v.cells.size == 1
            | none=>false)
          | none=>false)
        | _=>false) && zAs x x' && zAs y y'
      | _,_=>false)
  | .call { callee:=.builtin .min,args,.. },.min,[x',y']=>(match args.toList with
      | [x,y]=>zAs x x' && zAs y y'
      | _=>false)
  | .call { callee:=.builtin .max,args,.. },.max,[x',y']=>(match args.toList with
      | [x,y]=>zAs x x' && zAs y y'
      | _=>false)
  | .makeMap _ none,.mkmap,[]=>true
  | .lookup t m k ok,.mget z ok',[m',k']=>(match P.underlying t with
      | some (.map kt et)=>zCU P kt && (match P.info? et with
        | some i=>(match i.zero with
          | some v=>zDG v z
          | none=>false)
        | none=>false)
      | _=>false) && ok == ok' && zAs m m' && zAs k k'
  | .mapUpdate t m k x,.mset,[m',k',x']=>(match P.underlying t with
      | some (.map kt _)=>zCU P kt
      | _=>false) && zAs m m' && zAs k k' && zAs x x'
  | .insert t m k x,.mset,[m',k',x']=>(match P.underlying t with
      | some (.map kt _)=>zCU P kt
      | _=>false) && zAs m m' && zAs k k' && zAs x x'
  | .call { callee:=.builtin .len,args,argTypes },.mlen,[x']=>(match args.toList,argTypes.toList with
      | [x],[t]=>(match P.underlying t with
        | some (.map _ _)=>true
        | _=>false) && zAs x x'
      | _,_=>false)
  | .call { callee:=.builtin .clear,args,argTypes },.clear k z,[x']=>(match args.toList,argTypes.toList with
      | [x],[t]=>(match P.underlying t with
        | some (.slice e)=>(match P.info? e with
          | some i=>(match i.zero with
            | some v=>zDG v z && v.cells.size == k
            | none=>false)
          | none=>false)
        | _=>false) && zAs x x'
      | _,_=>false)
  | .call { callee:=.value (.func f),args,.. },.call f' _,xs=>f == f' && zA4 args.toList xs
  | .call { callee:=.value x,args,.. },.callv _,xs=>zA4 (x :: args.toList) xs
  | _,_,_=>false
def zE6 (P : Program) (op : Op) (k : AK) (xs : List Opd) : Bool:=match k with
  | .stuck=>true
  | .callp f=>zEO P op (.call f false) xs
  | .callvp=>zEO P op (.callv false) xs
  | .panic=>(match op,xs with
    | .panic x,[x']=>zAs x x'
    | _,_=>false)
  | k=>zEO P op k xs
section
variable {P : Program} {GT : Nat → Option AV} {w : World} {M : AMap} {I : Nat → Prop} {H : Heap} {n : Nat}
theorem zHb {v : Value} {c : AV} (h : zF1 v c = true) : Rel w M I n c v:=by
  unfold zF1 at h
  split at h
  · simp at h; subst h; exact .bool _
  · simp at h; obtain ⟨rfl,rfl⟩:=h; exact .int _ _
  · rename_i s l
    simp at h; subst h
    obtain ⟨⟨l⟩⟩:=s
    exact .str l
  · exact .nili
  · exact .nilp
  · exact .lnil _ _ (by simp)
  · exact .nilf
  · exact .nilm
  · exact .undef _
  · cases h
theorem zCV : ∀ {vs : List Value} {cs : List AV},zGI vs cs = true → zBJ w M I n cs vs
  | [],[],_=>⟨rfl,by simp⟩
  | v :: vs,c :: cs,h=>by
    simp only [zGI,Bool.and_eq_true] at h
    have:=zCV h.2
    refine ⟨by simpa using this.1,fun i c' v' hc hv=>?_⟩
    cases i with
    | zero=>simp at hc hv; subst hc hv; exact zHb h.1
    | succ i=>exact this.2 i c' v' (by simpa using hc) (by simpa using hv)
  | [],_ :: _,h=>by simp [zGI] at h
  | _ :: _,[],h=>by simp [zGI] at h
theorem zEP {v : Value} {c : AV} (h : zDG v c = true) : Rel w M I n c v:=by
  unfold zDG at h
  split at h
  · rename_i vs cs
    have:=zCV (w:=w) (M:=M) (I:=I) (n:=n) h
    obtain ⟨vs⟩:=vs
    exact .agg cs vs this.1 this.2
  · exact zHb h
def zL (P : Program) (GT : Nat → Option AV) (w : World) (M : AMap) (I : Nat → Prop) (H : Heap) (s : Sem Value) (v : AV) (H' : Heap) : Prop:=
  ∃ v' w' M' I',s.run P w = .ok v' w' ∧ Grow w M I H w' M' I' H' ∧ Sim GT w' M' I' H' ∧ Rel w' M' I' H'.length v v'
theorem zL.pure (hS : Sim GT w M I H) {s : Sem Value} {v : AV} {v' : Value} (h : s.run P w = .ok v' w) (hr : Rel w M I H.length v v') : zL P GT w M I H s v H:=
  ⟨v',w,M,I,h,Grow.refl ..,hS,hr⟩
theorem zCW {t : TypeId} {b : Bool} (h : zDr P t = some b) : (isAgg t).run P w = .ok b w:=by
  unfold zDr at h
  unfold isAgg
  split at h <;> simp_all [run_underlying]
theorem zf {t : TypeId} {s : Nat} (h : zBL P t = some s) : (sizeOf t).run P w = .ok s w:=by
  unfold zBL at h
  obtain ⟨i,hi,rfl⟩:=Option.map_eq_some_iff.1 h
  simp [sizeOf,typeInfo,hi]
theorem zAO {cs : List AV} {vs : List Value} (h : zBJ w M I n cs vs) {j : Nat} {c : AV} (hj : cs[j]? = some c) : ∃ v,vs[j]? = some v ∧ Rel w M I n c v:=by
  have hlt:=(zg hj).1
  have hl:=h.1
  exact ⟨vs[j]'tO,List.getElem?_eq_getElem _,h.2 j c _ hj (List.getElem?_eq_getElem _)⟩
theorem zLR {cs : List AV} {vs : List Value} (hr : zBJ w M I n cs vs) {t : TypeId} {o s : Nat} {ag : Bool} {v : AV} (hs : zBL P t = some s) (ha : zDr P t = some ag) (h : part cs o s ag = some v) :
    ∃ v',(Go.part t vs.toArray o).run P w = .ok v' w ∧ Rel w M I n v v':=by
  unfold part at h
  unfold Go.part
  cases ag with
  | true=>
    simp only [if_true] at h
    split at h
    · rename_i hle
      cases h
      refine ⟨.agg ((vs.drop o).take s).toArray, ?_,.agg _ _ ?_ ?_⟩
      · simp only [Sem.run_bind,zCW ha,Result.andThen_ok,if_true,zf hs,Sem.run_pure]
        congr 2
        simp [List.extract_toArray,List.extract_eq_take_drop]
      · have:=hr.1; simp; omega
      · intro i c v hc hv
        rw [List.getElem?_take] at hc hv
        split at hc
        · rw [if_pos ‹_›] at hv
          rw [List.getElem?_drop] at hc hv
          exact hr.2 _ c v hc hv
        · cases hc
    · cases h
  | false=>
    simp only [Bool.false_eq_true,if_false] at h
    obtain ⟨u,hu,hru⟩:=zAO hr h
    refine ⟨u, ?_,hru⟩
    simp only [Sem.run_bind,zCW ha,Result.andThen_ok,Bool.false_eq_true,if_false]
    simp [hu]
theorem zI4 (hS : Sim GT w M I H) {p : AV} {v : Value} (hp : Rel w M I H.length p v) {cs : List AV} {o : Nat} (h : zl H p = some (cs,o)) :
    ∃ g a,v = .pointer (some ⟨g,a,none⟩) ∧ ∀ j c,cs[o + j]? = some c → ∃ u,w.cell? ⟨g,a + j,none⟩ = some u ∧ Rel w M I H.length c u:=by
  cases hp with
  | lref x oo g o' V hI hx hv hr=>
    simp only [zl,Option.some.injEq,Prod.mk.injEq] at h; obtain ⟨rfl,rfl⟩:=h
    exact ⟨g,o',rfl,fun j c hj=>⟨_,hv j c hj,hr j c hj⟩⟩
  | ref b k i oo g o' hb hM=>
    simp only [zl] at h
    refine ⟨g,o' + i * k + oo,rfl, ?_⟩
    split at h
    · rename_i cs' hx
      split at h
      · rename_i hi
        subst hi
        cases h
        obtain ⟨g',o'',cur,h1,h2,h3,h4,h5⟩:=hS.blk b _ hx
        rw [hM] at h1; cases h1
        intro j c hj
        obtain ⟨u,a,r⟩:=h5 _ c hj
        exact ⟨u,by rw [h2.cell?,← a]; congr 1; omega,r⟩
      · cases h
    · rename_i k' xs hx
      split at h
      · rename_i hk; subst hk
        obtain ⟨x,hx',he⟩:=Option.map_eq_some_iff.1 h
        cases he
        obtain ⟨he,⟨_,rfl⟩ | ⟨g',o'',cur,h1,h2,h3,h4,h5⟩⟩:=hS.blk b _ hx
        · simp at hx'
        · rw [hM] at h1; cases h1
          intro j c hj
          obtain ⟨u,a,r⟩:=h5 i _ x c hx' hj
          exact ⟨u,by rw [h2.cell?,← a]; congr 1; omega,r⟩
      · cases h
    · rename_i k' xs hx
      split at h
      · rename_i hk; subst hk
        obtain ⟨x,hx',he⟩:=Option.map_eq_some_iff.1 h
        cases he
        obtain ⟨he,⟨_,rfl⟩ | ⟨g',o'',h1,h3,h5⟩⟩:=hS.blk b _ hx
        · simp at hx'
        · rw [hM] at h1; cases h1
          intro j c hj
          obtain ⟨u,a,r⟩:=h5 i _ x c hx' hj
          exact ⟨u,by rw [← a]; congr 2; omega,r⟩
      · cases h
    · cases h
  | _=>simp [zl] at h
theorem zEQ {t : TypeId} {s : Nat} {ag : Bool} (hs : zBL P t = some s) (ha : zDr P t = some ag) {cs : List AV} {o g a : Nat} {v : AV} (h : part cs o s ag = some v)
    (hc : ∀ j c,cs[o + j]? = some c → ∃ u,w.cell? ⟨g,a + j,none⟩ = some u ∧ Rel w M I n c u) : ∃ v',(loadVar t ⟨g,a,none⟩).run P w = .ok v' w ∧ Rel w M I n v v':=by
  unfold part at h
  unfold loadVar
  cases ag with
  | true=>
    simp only [if_true] at h
    split at h
    · rename_i hle
      cases h
      let vs : List Value:=(List.range s).map fun j=>(w.cell? ⟨g,a + j,none⟩).getD Go.undef
      have hvl : vs.length = s:=by simp [vs]
      have hvs : ∀ j v,vs[j]? = some v → w.cell? ((⟨g,a,none⟩ : Addr).add j) = some v:=fun j v hv=>by
        have hj : j < s:=by have:=(zg hv).1; omega
        obtain ⟨u,hu,_⟩:=hc j _ (List.getElem?_eq_getElem tO)
        rw [Addr.add_lit]
        simp [vs,hj,hu] at hv
        rw [hu,hv]
      have hl:=run_loadCells_list (P:=P) w ⟨g,a,none⟩ vs hvs
      rw [hvl] at hl
      refine ⟨.agg vs.toArray, ?_,.agg _ _ (by simp; omega) fun i c v hci hvi=>?_⟩
      · simp only [Sem.run_bind,zCW ha,Result.andThen_ok,if_true,zf hs,hl,Sem.run_pure]
      · rw [List.getElem?_take] at hci
        split at hci
        · rw [List.getElem?_drop] at hci
          obtain ⟨u,hu,hr⟩:=hc i c hci
          have:=hvs i v hvi
          rw [Addr.add_lit,hu] at this
          rw [← Option.some.inj this]; exact hr
        · cases hci
    · cases h
  | false=>
    simp only [Bool.false_eq_true,if_false] at h
    obtain ⟨u,hu,hr⟩:=hc 0 v (by simpa using h)
    refine ⟨u, ?_,hr⟩
    simp only [Sem.run_bind,zCW ha,Result.andThen_ok,Bool.false_eq_true,if_false]
    simp [show w.cell? ⟨g,a,none⟩ = some u by simpa using hu]
end
end Go.AM
namespace Go.AM
section
variable {P : Program} {GT : Nat → Option AV} {w : World} {M : AMap} {I : Nat → Prop} {H : Heap}
def zCT (P : Program) (GT : Nat → Option AV) (w : World) (M : AMap) (I : Nat → Prop) (H : Heap) (s : Sem Next) (v : AV) (H' : Heap) : Prop:=
  ∃ v' w' M' I',(s.run P w = .ok (.value v') w' ∨ s.run P w = .ok .skip w' ∧ v' = Go.undef) ∧ Grow w M I H w' M' I' H' ∧ Sim GT w' M' I' H' ∧ Rel w' M' I' H'.length v v'
theorem zCT.of_runs {s : Sem Value} {v : AV} {H' : Heap} (h : zL P GT w M I H s v H') : zCT P GT w M I H (do pure (.value (← s))) v H':=by
  obtain ⟨v',w',M',I',h1,h2,h3,h4⟩:=h
  exact ⟨v',w',M',I',.inl (by simp [h1]),h2,h3,h4⟩
theorem zCT.val (hS : Sim GT w M I H) {v : AV} {v' : Value} (h : Rel w M I H.length v v') : zCT P GT w M I H (Pure.pure (.value v')) v H:=
  ⟨v',w,M,I,.inl rfl,Grow.refl ..,hS,h⟩
theorem zJ3 (s : List UInt8) : (⟨s.toArray⟩ : ByteArray).toList = s:=by rw [ByteArray.toList_eq]
theorem zHc (s : List UInt8) : (⟨s.toArray⟩ : ByteArray).size = s.length:=by simp [ByteArray.size]
theorem zLS {op : BinOp} {k : IntKind} {a b : Int} {v : AV} (t : TypeId) (h : zDq op k a b = some v) : ∃ v',(binOp op t (.int k a) (.int k b)).run P w = .ok v' w ∧ ∀ n,Rel w M I n v v':=by
  cases op <;> simp only [zDq,Option.some.injEq,reduceCtorEq] at h <;> simp only [binOp,ne_eq,not_true_eq_false,if_false,Op.intArith,Op.intCmp,Op.intBits,Op.intDiv,Sem.run_ite,Sem.run_pure]
  all_goals first
    | (subst h; exact ⟨_,rfl,fun n=>.int _ _⟩)
    | (subst h; exact ⟨_,rfl,fun n=>.bool _⟩)
    | (split at h
       · cases h
       · rename_i h0
         simp only [Option.some.injEq] at h
         subst h
         rw [if_neg h0]
         exact ⟨_,rfl,fun n=>.int _ _⟩)
theorem zMc {op : BinOp} {k k' : IntKind} {a b : Int} {v : AV} (t : TypeId) (hop : op = .shl ∨ op = .shr) (h : zAj op k a b = some v) : ∃ v',(binOp op t (.int k a) (.int k' b)).run P w = .ok v' w ∧ ∀ n,Rel w M I n v v':=by
  rcases hop with rfl | rfl <;> simp [zAj] at h <;> obtain ⟨h0,rfl⟩:=h
  all_goals
    have h0' : ¬ b < 0:=by omega
    exact ⟨_,by simp only [binOp,Op.shift,if_neg h0',Sem.run_pure],fun n=>.int _ _⟩
theorem zPn {op : BinOp} {a b : List UInt8} {v : AV} (t : TypeId) (h : zHY op a b = some v) : ∃ v',(binOp op t (.string ⟨a.toArray⟩) (.string ⟨b.toArray⟩)).run P w = .ok v' w ∧ ∀ n,Rel w M I n v v':=by
  cases op <;> simp [zHY] at h <;> simp only [binOp,Op.stringOp,zJ3,zHc,Sem.run_ite,Sem.run_pure]
  all_goals first
    | (subst h; exact ⟨_,rfl,fun n=>.bool _⟩)
    | (subst h; exact ⟨_,rfl,fun n=>by rw [Bool.not_or]; exact .bool _⟩)
    | skip
  obtain ⟨h0,rfl⟩:=h
  refine ⟨.string ⟨(a ++ b).toArray⟩, ?_,fun n=>.str _⟩
  rw [if_neg (by rw [IntKind.max_i64]; omega)]
  congr 2
theorem zAk {op : BinOp} {t : TypeId} {x y : Operand} {a b : Value} (h : ∀ vs us,¬ (a = .agg vs ∧ b = .agg us)) (h' : ¬ (a = .nilIface ∧ b = .nilIface)) : (eqGuard op t x y a b).run P w = .ok () w:=by
  unfold eqGuard
  split
  all_goals first
    | rfl
    | (simp only [Bool.not_true,Bool.false_eq_true,if_false]
       split
       · exact absurd ⟨rfl,rfl⟩ h'
       · exact absurd ⟨rfl,rfl⟩ (h _ _)
       · rfl)
def zLT (P : Program) (t : TypeId) (vs : List Value) (v : Value) : Prop:=(zDr P t = some true ∧ v = .agg vs.toArray) ∨ (zDr P t = some false ∧ vs = [v])
theorem zDs : ∀ (s r : List Sc) (xs ys : List AV) (b : Bool),zi (s ++ r) xs ys = some b →
    ∃ p q,zi s (xs.take s.length) (ys.take s.length) = some p ∧ zi r (xs.drop s.length) (ys.drop s.length) = some q ∧ b = (p && q)
  | [],r,xs,ys,b,h=>⟨true,b,by simp [zi],by simpa using h,by simp⟩
  | c :: s,r,[],ys,b,h=>by simp [zi] at h
  | c :: s,r,x :: xs,[],b,h=>by simp [zi] at h
  | c :: s,r,x :: xs,y :: ys,b,h=>by
    simp only [List.cons_append,zi] at h
    split at h
    · rename_i p q h1 h2
      obtain ⟨p',q',e1,e2,rfl⟩:=zDs s r xs ys q h2
      simp only [Option.some.injEq] at h
      subst h
      exact ⟨p && p',q',by simp [zi,h1,e1],by simpa using e2,by cases p <;> cases p' <;> simp⟩
    · cases h
theorem zD6 : ∀ (s : List Sc) (xs ys : List AV) (b : Bool),zi s xs ys = some b → xs.length = s.length ∧ ys.length = s.length
  | [],[],[],_,_=>⟨rfl,rfl⟩
  | [],_ :: _,_,_,h=>by simp [zi] at h
  | [],[],_ :: _,_,h=>by simp [zi] at h
  | _ :: _,[],_,_,h=>by simp [zi] at h
  | _ :: _,_ :: _,[],_,h=>by simp [zi] at h
  | c :: s,x :: xs,y :: ys,b,h=>by
    simp only [zi] at h
    split at h
    · rename_i p q h1 h2
      have:=zD6 s xs ys q h2
      simp [this.1,this.2]
    · cases h
theorem zBJ.drop {n : Nat} {xs : List AV} {vs : List Value} (h : zBJ w M I n xs vs) (k : Nat) : zBJ w M I n (xs.drop k) (vs.drop k):=
  ⟨by have:=h.1; simp; omega,fun i c v hc hv=>by rw [List.getElem?_drop] at hc hv; exact h.2 _ c v hc hv⟩
theorem zBJ.take {n : Nat} {xs : List AV} {vs : List Value} (h : zBJ w M I n xs vs) (k : Nat) : zBJ w M I n (xs.take k) (vs.take k):=
  ⟨by have:=h.1; simp; omega,fun i c v hc hv=>by
    rw [List.getElem?_take] at hc hv
    split at hc
    · rw [if_pos ‹_›] at hv; exact h.2 _ c v hc hv
    · cases hc⟩
theorem zMd {t : TypeId} {s o : Nat} {vs : List Value} (hs : zBL P t = some s) (ha : (zDr P t).isSome = true) (h1 : zDr P t = some false → s = 1) (hl : o + s ≤ vs.length) :
    ∃ v,(Go.part t vs.toArray o).run P w = .ok v w ∧ zLT P t ((vs.drop o).take s) v:=by
  unfold Go.part
  cases hb : zDr P t with
  | none=>simp [hb] at ha
  | some b=>
    cases b with
    | true=>
      refine ⟨.agg ((vs.drop o).take s).toArray, ?_,.inl ⟨hb,rfl⟩⟩
      simp only [Sem.run_bind,zCW hb,Result.andThen_ok,if_true,zf hs,Sem.run_pure]
      congr 2
      simp [List.extract_toArray,List.extract_eq_take_drop]
    | false=>
      obtain rfl:=h1 hb
      refine ⟨vs[o]'tO, ?_,.inr ⟨hb, ?_⟩⟩
      · simp only [Sem.run_bind,zCW hb,Result.andThen_ok,Bool.false_eq_true,if_false]
        simp [List.getElem?_eq_getElem (show o < vs.length by omega)]
      · rw [List.drop_eq_getElem_cons tO]; rfl
theorem zFQ {S : TypeId → Option (List Sc)} {D : Nat}
    (ih : ∀ t sh,S t = some sh → (zDr P t).isSome = true ∧ (zDr P t = some false → sh.length = 1) ∧ ∀ (xs ys : List AV) (vs us : List Value) (b : Bool) (v u : Value) (n : Nat),zBJ w M I n xs vs → zBJ w M I n ys us → zi sh xs ys = some b → zLT P t vs v → zLT P t us u → (Op.equalIn D t v u).run P w = .ok b w) :
    ∀ (fs : List Field) (o : Nat) (sh : List Sc),zGJ P S o fs = some sh → ∀ (xs ys : List AV) (vs us : List Value) (b : Bool) (n : Nat),zBJ w M I n xs vs → zBJ w M I n ys us → zi sh (xs.drop o) (ys.drop o) = some b →
      (Op.eqFields D vs.toArray us.toArray fs).run P w = .ok b w
  | [],o,sh,h,xs,ys,vs,us,b,n,hx,hy,hc=>by
    simp only [zGJ,Option.some.injEq] at h; subst h
    have : b = true:=by
      cases hd : xs.drop o <;> cases he : ys.drop o <;> simp [hd,he,zi] at hc
      exact hc
    subst this
    simp [Op.eqFields]
  | f :: fs,o,sh,h,xs,ys,vs,us,b,n,hx,hy,hc=>by
    simp only [zGJ] at h
    split at h
    · rename_i hn
      obtain ⟨hname,hoff⟩:=hn
      split at h
      · rename_i s hS
        split at h
        · rename_i hsz
          obtain ⟨hsz,hpos⟩:=hsz
          obtain ⟨r,hr,rfl⟩:=Option.map_eq_some_iff.1 h
          obtain ⟨p,q,e1,e2,rfl⟩:=zDs s r _ _ _ hc
          obtain ⟨a1,a2,a3⟩:=ih _ _ hS
          have hlx:=zD6 _ _ _ _ e1
          have hv : o + s.length ≤ vs.length:=by have:=hx.1; have:=hlx.1; simp at this; omega
          have hu : o + s.length ≤ us.length:=by have:=hy.1; have:=hlx.2; simp at this; omega
          obtain ⟨v,rv,iv⟩:=zMd (P:=P) (w:=w) (o:=o) hsz a1 a2 hv
          obtain ⟨u,ru,iu⟩:=zMd (P:=P) (w:=w) (o:=o) hsz a1 a2 hu
          have he:=a3 _ _ _ _ p v u n ((hx.drop o).take s.length) ((hy.drop o).take s.length) e1 iv iu
          rw [List.drop_drop,List.drop_drop] at e2
          have hrest:=zFQ ih fs (o + s.length) r hr xs ys vs us q n hx hy e2
          simp only [Op.eqFields,hname,ne_eq,not_false_eq_true,if_true,hoff,Sem.run_bind,rv,ru,Result.andThen_ok,he,Sem.run_ite,Sem.run_pure,hrest]
          cases p <;> simp
        · cases h
      · cases h
    · cases h
theorem zIB : ∀ (d D : Nat) (t : TypeId) (sh : List Sc),zDH P d t = some sh → d ≤ D →
    (zDr P t).isSome = true ∧ (zDr P t = some false → sh.length = 1) ∧ ∀ (xs ys : List AV) (vs us : List Value) (b : Bool) (v u : Value) (n : Nat),zBJ w M I n xs vs → zBJ w M I n ys us → zi sh xs ys = some b → zLT P t vs v → zLT P t us u → (Op.equalIn D t v u).run P w = .ok b w
  | 0,_,_,_,h,_=>by simp [zDH] at h
  | d + 1,0,_,_,_,h=>absurd h tO
  | d + 1,D + 1,t,sh,h,hd=>by
    have one : ∀ {c : Sc} {xs ys : List AV} {b : Bool},zi [c] xs ys = some b → ∃ x y,xs = [x] ∧ ys = [y] ∧ zHZ c x y = some b:=by
      intro c xs ys b h
      have hl:=zD6 _ _ _ _ h
      match xs,ys,hl with
      | [x],[y],_=>
        simp only [zi] at h
        split at h
        · rename_i p q h1 h2
          simp at h h2; subst h2; simp at h; subst h
          exact ⟨x,y,rfl,rfl,h1⟩
        · cases h
    have sing : ∀ {vs : List Value} {v : Value} {x : AV} {n : Nat},zDr P t = some false → zBJ w M I n [x] vs → zLT P t vs v → Rel w M I n x v:=by
      intro vs v x n ha hr hv
      rcases hv with ⟨h1,_⟩ | ⟨_,rfl⟩
      · rw [ha] at h1; cases h1
      · exact hr.2 0 x v rfl rfl
    simp only [zDH] at h
    split at h
    · rename_i k ht
      cases h
      have ha : zDr P t = some false:=by simp [zDr,ht]
      refine ⟨by simp [ha],fun _=>rfl,fun xs ys vs us b v u n hx hy hc hv hu=>?_⟩
      obtain ⟨x,y,rfl,rfl,he⟩:=one hc
      have rx:=sing ha hx hv
      have ry:=sing ha hy hu
      unfold zHZ at he
      split at he
      · rename_i hs
        cases hs
        cases rx; cases ry
        split at he
        · rename_i hk
          obtain ⟨rfl,rfl⟩:=hk
          cases he
          exact run_equalIn_int w D t _ _ _ _ ht
        · cases he
      · rename_i hs; cases hs
      · rename_i hs; cases hs
      · cases he
    · rename_i ht
      cases h
      have ha : zDr P t = some false:=by simp [zDr,ht]
      refine ⟨by simp [ha],fun _=>rfl,fun xs ys vs us b v u n hx hy hc hv hu=>?_⟩
      obtain ⟨x,y,rfl,rfl,he⟩:=one hc
      have rx:=sing ha hx hv
      have ry:=sing ha hy hu
      unfold zHZ at he
      split at he
      · rename_i hs; cases hs
      · cases rx; cases ry
        cases he
        exact run_equalIn_bool' w D t _ _ ht
      · rename_i hs; cases hs
      · cases he
    · rename_i ht
      cases h
      have ha : zDr P t = some false:=by simp [zDr,ht]
      refine ⟨by simp [ha],fun _=>rfl,fun xs ys vs us b v u n hx hy hc hv hu=>?_⟩
      obtain ⟨x,y,rfl,rfl,he⟩:=one hc
      have rx:=sing ha hx hv
      have ry:=sing ha hy hu
      unfold zHZ at he
      split at he
      · rename_i hs; cases hs
      · rename_i hs; cases hs
      · cases rx; cases ry
        cases he
        rw [run_equalIn_string w D t _ _ ht,zJ3,zJ3]
      · cases he
    · rename_i fs ht
      have ha : zDr P t = some true:=by simp [zDr,ht]
      split at h
      · cases h
      · rename_i hp
        have hf : P.fieldsOf t = fs:=by simp [Program.fieldsOf,ht]
        refine ⟨by simp [ha],fun h=>(by rw [ha] at h; cases h),fun xs ys vs us b v u n hx hy hc hv hu=>?_⟩
        rcases hv with ⟨_,rfl⟩ | ⟨h1,_⟩
        · rcases hu with ⟨_,rfl⟩ | ⟨h1,_⟩
          · rw [run_equalIn_struct w D t _ _ (by rw [hf]; exact ht) (by simpa using hp),hf]
            exact zFQ (fun t sh hsh=>zIB d D t sh hsh tO) fs.toList 0 sh h xs ys vs us b n hx hy (by simpa using hc)
          · rw [ha] at h1; cases h1
        · rw [ha] at h1; cases h1
    · cases h
end
end Go.AM
namespace Go.AM
section
variable {P : Program} {GT : Nat → Option AV} {w : World} {M : AMap} {I : Nat → Prop} {H : Heap}
def zG3 (w : World) (M : AMap) (I : Nat → Prop) (n g p k : Nat) (ys : List AV) : Prop:=
  ∀ i j x c,ys[i]? = some x → x.cells[j]? = some c → ∃ u,w.cell? ⟨g,p + i * k + j,none⟩ = some u ∧ Rel w M I n c u
theorem zG3.cut {n g p k : Nat} {xs : List AV} (h : zG3 w M I n g p k xs) (o l : Nat) : zG3 w M I n g (p + o * k) k ((xs.drop o).take l):=fun i j x c hi hj=>by
  have hi' : i < l:=by
    have:=(zg hi).1
    simp at this; omega
  rw [List.getElem?_take,if_pos hi',List.getElem?_drop] at hi
  obtain ⟨u,a,b⟩:=h _ j x c hi hj
  exact ⟨u,by rw [← a,Nat.add_mul]; congr 2; omega,b⟩
theorem zHd (hS : Sim GT w M I H) {k : Nat} {y : AV} {v : Value} (hy : Rel w M I H.length y v) {ys : List AV} (h : view H k y = some ys) :
    Elems k ys ∧ (((v = .slice none 0 0 ∨ ∃ a,v = .slice (some a) 0 0) ∧ ys = []) ∨ ∃ g p cap,v = .slice (some ⟨g,p,none⟩) ys.length cap ∧ ys.length ≤ cap ∧ cap ≤ maxLen ∧ zG3 w M I H.length g p k ys):=by
  cases hy with
  | lnil q k' hq=>
    simp only [view,List.isEmpty_nil,if_true,ite_self,Option.some.injEq] at h; subst h
    exact ⟨fun _ hx=>absurd hx (by simp),.inl ⟨.inl rfl,rfl⟩⟩
  | lemp q k' a hq=>
    simp only [view,List.isEmpty_nil,if_true,ite_self,Option.some.injEq] at h; subst h
    exact ⟨fun _ hx=>absurd hx (by simp),.inl ⟨.inr ⟨a,rfl⟩,rfl⟩⟩
  | lst q k' xs g o cap V hq hc hm hI he hv hr=>
    simp only [view] at h
    split at h
    · rename_i hk; subst hk
      cases h
      exact ⟨he,.inr ⟨g,o,cap,rfl,hc,hm,fun i j x c hi hj=>⟨_,hv i j x c hi hj,hr i j x c hi hj⟩⟩⟩
    · split at h
      · rename_i hemp
        simp only [List.isEmpty_iff] at hemp
        subst hemp
        cases h
        exact ⟨fun _ hx=>absurd hx (by simp),.inr ⟨g,o,cap,rfl,hc,hm,fun i j x c hi=>by simp at hi⟩⟩
      · cases h
  | sln q b k' off hb hM hq=>
    simp only [view] at h
    split at h
    · have hnil : ys = []:=by
        split at h
        · split at h
          · simp at h; exact h
          · cases h
        · split at h
          · simp at h; exact h
          · cases h
        · cases h
      subst hnil
      exact ⟨fun _ hx=>absurd hx (by simp),.inl ⟨.inl rfl,rfl⟩⟩
    · cases h
  | sl q b k' off len g o p cap hb hM hc hm hq ha=>
    simp only [view] at h
    split at h
    · rename_i hk; subst hk
      have key : ∀ xs,Elems k' xs → off + len ≤ xs.length → zG3 w M I H.length g o k' xs → ys = (xs.drop off).take len →
          Elems k' ys ∧ (((Value.slice (some ⟨g,p,none⟩) len cap = .slice none 0 0 ∨ ∃ a,Value.slice (some ⟨g,p,none⟩) len cap = .slice (some a) 0 0) ∧ ys = []) ∨ ∃ g' p' cap',Value.slice (some ⟨g,p,none⟩) len cap = .slice (some ⟨g',p',none⟩) ys.length cap' ∧ ys.length ≤ cap' ∧ cap' ≤ maxLen ∧ zG3 w M I H.length g' p' k' ys):=by
        intro xs he hle hrow e
        have hlen : ys.length = len:=by rw [e]; simp; omega
        subst e
        refine ⟨zGG he off len,.inr ⟨g,p,cap,by rw [hlen],by omega,hm, ?_⟩⟩
        by_cases h0 : 0 < cap
        · obtain ⟨rfl,_⟩:=ha h0
          exact hrow.cut off len
        · intro i j x c hi
          have:=(zg hi).1
          omega
      split at h
      · rename_i k xs hx
        split at h
        · rename_i hk
          obtain ⟨rfl,hle⟩:=hk
          simp only [Option.some.injEq] at h
          obtain ⟨he,⟨h1,_⟩ | ⟨g',o',cur,h1,h2,h3,h4,h5⟩⟩:=hS.blk b _ hx
          · rw [hM] at h1; cases h1
          · rw [hM] at h1; cases h1
            exact key xs he hle (fun i j x c hi hj=>let ⟨u,a,b⟩:=h5 i j x c hi hj; ⟨u,by rw [h2.cell?]; exact a,b⟩) h.symm
        · cases h
      · rename_i k xs hx
        split at h
        · rename_i hk
          obtain ⟨rfl,hle⟩:=hk
          simp only [Option.some.injEq] at h
          obtain ⟨he,⟨h1,_⟩ | ⟨g',o',h1,h3,h5⟩⟩:=hS.blk b _ hx
          · rw [hM] at h1; cases h1
          · rw [hM] at h1; cases h1
            exact key xs he hle h5 h.symm
        · cases h
      · cases h
    · cases h
  | _=>simp [view] at h
theorem zG3.flat {n g p k : Nat} {ys : List AV} (h : zG3 w M I n g p k ys) (he : Elems k ys) : ∃ news : List Value,news.length = ys.length * k ∧ (∀ j u,news[j]? = some u → w.cell? ⟨g,p + j,none⟩ = some u) ∧
    (∀ u ∈ news,u.oneCell' = true) ∧ ∀ i j x c,ys[i]? = some x → x.cells[j]? = some c → ∃ u,news[i * k + j]? = some u ∧ Rel w M I n c u:=by
  let f : Nat → Value:=fun t=>(w.cell? ⟨g,p + t,none⟩).getD Go.undef
  have hf : ∀ t,t < ys.length * k → ∃ u,w.cell? ⟨g,p + t,none⟩ = some u ∧ u.oneCell' = true:=fun t ht=>by
    have hk : 0 < k:=by rcases Nat.eq_zero_or_pos k with rfl | h; simp at ht; exact h
    have hi : t / k < ys.length:=Nat.div_lt_of_lt_mul (by rw [Nat.mul_comm]; exact ht)
    have hx : ys[t / k]? = some ys[t / k]:=List.getElem?_eq_getElem hi
    have hel:=AV.elem_iff.1 (he _ (List.getElem_mem hi))
    have hj : t % k < ys[t / k].cells.length:=by rw [hel.1]; exact Nat.mod_lt _ hk
    obtain ⟨u,a,b⟩:=h (t / k) (t % k) _ _ hx (List.getElem?_eq_getElem hj)
    refine ⟨u, ?_,b.oneCell (hel.2.2 _ (List.getElem_mem hj))⟩
    rw [← a]
    congr 2
    have:=Nat.div_add_mod t k
    rw [Nat.mul_comm] at this
    omega
  refine ⟨(List.range (ys.length * k)).map f,by simp,fun j u hu=>?_,fun u hu=>?_,fun i j x c hi hj=>?_⟩
  · have hj : j < ys.length * k:=by have:=(zg hu).1; simpa using this
    obtain ⟨u',h1,_⟩:=hf j hj
    simp [hj,f,h1] at hu
    rw [h1,hu]
  · obtain ⟨t,ht,rfl⟩:=List.mem_map.1 hu
    obtain ⟨u',h1,h2⟩:=hf t (List.mem_range.1 ht)
    simp [f,h1,h2]
  · obtain ⟨u,a,b⟩:=h i j x c hi hj
    refine ⟨u, ?_,b⟩
    have hil:=(zg hi).1
    have hjl:=(zg hj).1
    have hel:=AV.elem_iff.1 (he x (List.mem_of_getElem? hi))
    rw [hel.1] at hjl
    have hlt : i * k + j < ys.length * k:=by
      have : (i + 1) * k ≤ ys.length * k:=Nat.mul_le_mul_right _ hil
      rw [Nat.add_mul] at this; omega
    have h1 : w.cell? ⟨g,p + (i * k + j),none⟩ = some u:=by rw [← a]; congr 2; omega
    rw [List.getElem?_map,List.getElem?_range hlt]
    simp [f,h1]
theorem zI5 {g j : Nat} {cur : Array Value} {e : TypeId} {fz : Nat × Nat} (hg : w.heap[g]? = some (.cells cur e fz)) (v : Value) :
    (w.setCell ⟨g,j,none⟩ v).heap = w.heap.setIfInBounds g (.cells (cur.setIfInBounds j v) e fz):=by
  obtain ⟨hlt,hge⟩:=Array.getElem?_eq_some_iff.1 hg
  apply Array.ext_getElem?
  intro k
  simp only [World.setCell,Array.getElem?_modify,Array.getElem?_setIfInBounds]
  by_cases hk : g = k
  · subst hk; simp [hlt,hge]
  · simp [hk]
theorem z7 (g o : Nat) (e : TypeId) (fz : Nat × Nat) : ∀ (vs : List Value) (i : Nat) (cur : Array Value) (w : World),w.heap[g]? = some (.cells cur e fz) → (∀ j,j < cur.size → ¬ (fz.1 ≤ j ∧ j < fz.2)) →
    o + i + vs.length ≤ cur.size → (∀ v ∈ vs,v.oneCell' = true) → ∃ cur' w',(storeCells ⟨g,o,none⟩ vs i).run P w = .ok () w' ∧ w'.heap = w.heap.setIfInBounds g (.cells cur' e fz) ∧ w'.os = w.os ∧ w'.tape = w.tape ∧ w'.output = w.output ∧
      cur'.size = cur.size ∧ (∀ j,j < vs.length → cur'[o + i + j]? = vs[j]?) ∧ (∀ j,(j < o + i ∨ o + i + vs.length ≤ j) → cur'[j]? = cur[j]?)
  | [],i,cur,w,hg,_,_,_=>by
    refine ⟨cur,w,by simp [storeCells], ?_,rfl,rfl,rfl,rfl,by simp,fun _ _=>rfl⟩
    apply Array.ext_getElem?
    intro k
    rw [Array.getElem?_setIfInBounds]
    by_cases hk : g = k
    · subst hk
      obtain ⟨hlt,hge⟩:=Array.getElem?_eq_some_iff.1 hg
      simp [hlt,hge]
    · simp [hk]
  | v :: vs,i,cur,w,hg,hfz,hl,h1=>by
    simp only [List.length_cons] at hl
    have hlt:=(Array.getElem?_eq_some_iff.1 hg).1
    have hcell : w.cell? ⟨g,o + i,none⟩ = some (cur[o + i]'tO):=by simp [World.cell?,hg,show o + i < cur.size by omega]
    have hfrz : w.frozen? ⟨g,o + i,none⟩ = false:=by
      have:=hfz (o + i) tO
      simp only [World.frozen?,hg]
      rcases Nat.lt_or_ge (o + i) fz.1 with h | h
      · simp; omega
      · simp; omega
    have hheap:=zI5 (w:=w) (j:=o + i) hg v
    have hg' : (w.setCell ⟨g,o + i,none⟩ v).heap[g]? = some (.cells (cur.setIfInBounds (o + i) v) e fz):=by rw [hheap,Array.getElem?_setIfInBounds,if_pos rfl,if_pos hlt]
    obtain ⟨cur',w',r1,r2,r3,r4,r5,r6,r7,r8⟩:=z7 g o e fz vs (i + 1) (cur.setIfInBounds (o + i) v) (w.setCell ⟨g,o + i,none⟩ v) hg' (by simpa using hfz) (by simp; omega) (fun u hu=>h1 u (by simp [hu]))
    refine ⟨cur',w', ?_, ?_,r3,r4,r5,by simpa using r6,fun j hj=>?_,fun j hj=>?_⟩
    · simp only [storeCells,Addr.add_lit,Sem.run_bind,run_store P w _ v _ (h1 v (by simp)),hcell,hfrz,Bool.false_eq_true,if_false,Result.andThen_ok]
      exact r1
    · rw [r2,hheap]
      apply Array.ext_getElem?
      intro k
      simp only [Array.getElem?_setIfInBounds,Array.size_setIfInBounds]
      by_cases hk : g = k <;> simp [hk]
    · cases j with
      | zero=>
        rw [r8 _ tO]
        simp [show o + i < cur.size by omega]
      | succ j=>
        have:=r7 j (by simp at hj; omega)
        rw [show o + i + (j + 1) = o + (i + 1) + j by omega,this]
        simp
    · rw [r8 j (by simp at hj; omega),Array.getElem?_setIfInBounds,if_neg (by simp at hj; omega)]
theorem zHe {x : AV} (h : x.cells.all AV.one = true) : x ≠ .undef ∧ ∀ u,x ≠ .raw u:=by
  refine ⟨?_,fun u=>?_⟩ <;> (rintro rfl; simp [AV.cells,AV.one] at h)
theorem zCX {n : Nat} {x : AV} {v : Value} (h : Rel w M I n x v) (hx : x ≠ .undef ∧ ∀ u,x ≠ .raw u) : zBJ w M I n x.cells v.cells.toList:=by
  cases h with
  | raw v=>exact absurd rfl (hx.2 v)
  | agg cs vs hl h=>exact ⟨by simpa [Value.cells,AV.cells] using hl,by simpa [Value.cells,AV.cells] using h⟩
  | undef v=>exact absurd rfl hx.1
  | sca v h=>
    have hc : v.cells = #[v]:=by cases v <;> first | rfl | cases h
    rw [hc]
    refine ⟨by simp [AV.cells],fun i c u hc hu=>?_⟩
    simp only [AV.cells] at hc hu
    cases i with
    | zero=>simp at hc hu; subst hc hu; exact .sca _ h
    | succ i=>simp at hc
  | _=>
    refine ⟨by simp [AV.cells,Value.cells],fun i c u hc hu=>?_⟩
    simp only [AV.cells,Value.cells] at hc hu
    cases i with
    | zero=>simp at hc hu; subst hc hu; first | exact .bool _ | exact .int _ _ | exact .str _ | exact .tup _ _ ‹_› ‹_› | exact .lnil _ _ ‹_› | exact .lemp _ _ _ ‹_› | exact .lst _ _ _ _ _ _ _ ‹_› ‹_› ‹_› ‹_› ‹_› ‹_› ‹_› | exact .lref _ _ _ _ _ ‹_› ‹_› ‹_› ‹_› | exact .ref _ _ _ _ _ _ ‹_› ‹_› | exact .sln _ _ _ _ ‹_› ‹_› ‹_› | exact .sl _ _ _ _ _ _ _ _ _ ‹_› ‹_› ‹_› ‹_› ‹_› ‹_› | exact .nilp | exact .nilf | exact .nili | exact .nilm | exact .fn _ _ _ _ _ ‹_› ‹_› ‹_› ‹_› | exact .iface _ _ _ ‹_› | exact .mp _ _ ‹_› ‹_› | exact .mps _ _ _ _ _ ‹_› ‹_› ‹_› ‹_› ‹_› ‹_›
    | succ i=>simp at hc
theorem zE7 {cs vs : List AV} {o : Nat} (hl : o + vs.length ≤ cs.length) (j : Nat) : (splice cs o vs)[j]? = if o ≤ j ∧ j < o + vs.length then vs[j - o]? else cs[j]?:=by
  unfold splice
  have ho : (cs.take o).length = o:=by simp; omega
  rw [List.append_assoc,List.getElem?_append,ho]
  split
  · rw [if_neg tO,List.getElem?_take,if_pos ‹_›]
  · rw [List.getElem?_append]
    split
    · rw [if_pos tO]
    · rw [if_neg tO,List.getElem?_drop]
      congr 1; omega
theorem zHf {cs vs : List AV} {o : Nat} (hl : o + vs.length ≤ cs.length) : (splice cs o vs).length = cs.length:=by unfold splice; simp; omega
theorem zMe (hS : Sim GT w M I H) {t : TypeId} {b k o s : Nat} {x : AV} {v p : Value} {cs : List AV} (hsz : zBL P t = some s) (hp : Rel w M I H.length (.ref b k 0 o) p) (hv : Rel w M I H.length x v) (hxl : x.cells.length = s)
    (hx1 : x.cells.all AV.one = true) (hb : H[b]? = some (.box cs)) (hle : o + s ≤ cs.length) :
    ∃ w',(Instr.storeAt t p v).run P w = .ok () w' ∧ Grow w M I H w' M I (H.set b (.box (splice cs o x.cells))) ∧ Sim GT w' M I (H.set b (.box (splice cs o x.cells))):=by
  cases hp with
  | ref _ _ _ _ g o' hbn hM=>
  obtain ⟨g',o'',cur,h1,h2,h3,h4,h5⟩:=hS.blk b _ hb
  rw [hM] at h1; cases h1
  have hrl:=zCX hv (zHe hx1)
  have hvl : v.cells.toList.length = s:=by rw [← hrl.1,hxl]
  have hv1 : ∀ u ∈ v.cells.toList,u.oneCell' = true:=fun u hu=>by
    obtain ⟨j,hj⟩:=List.getElem?_of_mem hu
    have hjl:=(zg hj).1
    have hc : x.cells[j]? = some x.cells[j]:=List.getElem?_eq_getElem tO
    exact (hrl.2 j _ _ hc hj).oneCell ((List.all_eq_true.1 hx1) _ (List.getElem_mem _))
  obtain ⟨e,fz,hg,hfz⟩:=h2
  obtain ⟨cur',w',r1,r2,r3,r4,r5,r6,r7,r8⟩:=z7 (P:=P) g (o' + o) e fz v.cells.toList 0 cur w hg hfz (by rw [hvl]; omega) hv1
  have hlt:=(Array.getElem?_eq_some_iff.1 hg).1
  refine ⟨w', ?_, ?_⟩
  · have : v.cells.size = s:=by simpa using hvl
    simp only [Instr.storeAt,Instr.sureAddr,storeVar,Sem.run_bind,Sem.run_pure,Result.andThen_ok,zf hsz,this,ne_eq,not_true_eq_false,if_false,Nat.zero_mul,Nat.add_zero]
    exact r1
  · have hW:=Sim.write (w':=w') (y:=.dead) hS hb rfl hM hg r6 r2 r3 r4 r5 trivial
    refine Sim.write (w':=w') hS hb rfl hM hg r6 r2 r3 r4 r5 ⟨g,o',cur',hM,⟨e,fz, ?_, ?_⟩,h3, ?_,fun j c hj=>?_⟩
    · rw [r2,Array.getElem?_setIfInBounds,if_pos rfl,if_pos hlt]
    · rw [r6]; exact hfz
    · rw [zHf tO,r6]; exact h4
    · have R : ∀ {c v},Rel w M I H.length c v → Rel w' M I H.length c v:=fun h=>by have:=hW.1.rel hS h; simpa using this
      rw [zE7 tO] at hj
      split at hj
      · rename_i hjj
        obtain ⟨u,hu,hr⟩:=zAO hrl hj
        refine ⟨u, ?_,R hr⟩
        have:=r7 (j - o) tO
        rw [show o' + o + 0 + (j - o) = o' + j by omega] at this
        rw [this]; exact hu
      · rename_i hjj
        obtain ⟨u,hu,hr⟩:=h5 j c hj
        exact ⟨u,by rw [r8 _ tO]; exact hu,R hr⟩
theorem zIC {k o s : Nat} {x v : AV} (hx : x.elem k = true) (hv : v.elem s = true) (h0 : 0 < s) (hle : o + s ≤ k) : (zDF x o v).cells = splice x.cells o v.cells ∧ (zDF x o v).elem k = true:=by
  obtain ⟨x1,x2,x3⟩:=AV.elem_iff.1 hx
  obtain ⟨v1,v2,v3⟩:=AV.elem_iff.1 hv
  have main : ∀ y : AV,y.cells = splice x.cells o v.cells → y.noRef = true → y.elem k = true:=fun y hy hn=>by
    refine AV.elem_iff.2 ⟨by rw [hy,zHf tO]; exact x1,hn,fun c hc=>?_⟩
    rw [hy] at hc
    simp only [splice,List.mem_append] at hc
    rcases hc with (hc | hc) | hc
    · exact x3 c (List.mem_of_mem_take hc)
    · exact v3 c hc
    · exact x3 c (List.mem_of_mem_drop hc)
  cases x with
  | agg cs=>
    refine ⟨rfl,main _ rfl ?_⟩
    simp only [zDF,AV.noRef,AV.bel,AV.belL_iff]
    intro c hc
    simp only [splice,List.mem_append] at hc
    rcases hc with (hc | hc) | hc
    · simp only [AV.noRef,AV.bel,AV.belL_iff] at x2; exact x2 c (List.mem_of_mem_take hc)
    · obtain ⟨j,hj⟩:=List.getElem?_of_mem hc; exact AV.noRef_cells v2 hj
    · simp only [AV.noRef,AV.bel,AV.belL_iff] at x2; exact x2 c (List.mem_of_mem_drop hc)
  | _=>
    simp only [AV.cells,List.length_singleton] at x1
    have e : o = 0:=by omega
    subst e
    have hh : ∀ z : AV,v.cells = splice [z] 0 v.cells:=fun z=>by unfold splice; simp; omega
    exact ⟨hh _,main _ (hh _) v2⟩
theorem zMf (hS : Sim GT w M I H) {t : TypeId} {b k i o s : Nat} {x y : AV} {v p : Value} {xs : List AV} (hsz : zBL P t = some s) (hp : Rel w M I H.length (.ref b k i o) p) (hv : Rel w M I H.length x v) (hx : x.elem s = true)
    (h0 : 0 < s) (hb : H[b]? = some (.row k xs)) (hy : xs[i]? = some y) (hle : o + s ≤ k) :
    ∃ w',(Instr.storeAt t p v).run P w = .ok () w' ∧ Grow w M I H w' M I (H.set b (.row k (xs.set i (zDF y o x)))) ∧ Sim GT w' M I (H.set b (.row k (xs.set i (zDF y o x)))):=by
  cases hp with
  | ref _ _ _ _ g o' hbn hM=>
  obtain ⟨he,⟨h1,_⟩ | ⟨g',o'',cur,h1,h2,h3,h4,h5⟩⟩:=hS.blk b _ hb
  · rw [hM] at h1; cases h1
  rw [hM] at h1; cases h1
  obtain ⟨x1,x2,x3⟩:=AV.elem_iff.1 hx
  have hye:=he y (List.mem_of_getElem? hy)
  have hyl:=(AV.elem_iff.1 hye).1
  obtain ⟨u1,u2⟩:=zIC hye hx h0 hle
  have hil:=(zg hy).1
  have hrl:=zCX hv (zHe (List.all_eq_true.2 x3))
  have hvl : v.cells.toList.length = s:=by rw [← hrl.1,x1]
  have hv1 : ∀ u ∈ v.cells.toList,u.oneCell' = true:=fun u hu=>by
    obtain ⟨j,hj⟩:=List.getElem?_of_mem hu
    have hjl:=(zg hj).1
    have hc : x.cells[j]? = some x.cells[j]:=List.getElem?_eq_getElem tO
    exact (hrl.2 j _ _ hc hj).oneCell (x3 _ (List.getElem_mem _))
  obtain ⟨e,fz,hg,hfz⟩:=h2
  have hin : (i + 1) * k ≤ xs.length * k:=Nat.mul_le_mul_right _ hil
  rw [Nat.add_mul] at hin
  obtain ⟨cur',w',r1,r2,r3,r4,r5,r6,r7,r8⟩:=z7 (P:=P) g (o' + i * k + o) e fz v.cells.toList 0 cur w hg (fun j hj=>hfz j tO) (by rw [hvl]; omega) hv1
  have hlt:=(Array.getElem?_eq_some_iff.1 hg).1
  refine ⟨w', ?_, ?_⟩
  · have : v.cells.size = s:=by simpa using hvl
    simp only [Instr.storeAt,Instr.sureAddr,storeVar,Sem.run_bind,Sem.run_pure,Result.andThen_ok,zf hsz,this,ne_eq,not_true_eq_false,if_false]
    exact r1
  · have hW:=Sim.write (w':=w') (y:=.dead) hS hb rfl hM hg r6 r2 r3 r4 r5 trivial
    have R : ∀ {c v},Rel w M I H.length c v → Rel w' M I H.length c v:=fun h=>by have:=hW.1.rel hS h; simpa using this
    have hel' : Elems k (xs.set i (zDF y o x)):=fun z hz=>by
      rcases List.mem_or_eq_of_mem_set hz with hz | rfl
      · exact he z hz
      · exact u2
    refine Sim.write (w':=w') hS hb rfl hM hg r6 r2 r3 r4 r5 ⟨hel',.inr ⟨g,o',cur',hM,⟨e,fz, ?_, ?_⟩,h3, ?_,fun i' j z c hz hj=>?_⟩⟩
    · rw [r2,Array.getElem?_setIfInBounds,if_pos rfl,if_pos hlt]
    · rw [r6]; exact hfz
    · rw [List.length_set,r6]; exact h4
    · by_cases hi : i' = i
      · subst hi
        rw [List.getElem?_set_self hil] at hz
        obtain rfl:=Option.some.inj hz
        rw [u1,zE7 tO] at hj
        split at hj
        · rename_i hjj
          obtain ⟨u,hu,hr⟩:=zAO hrl hj
          refine ⟨u, ?_,R hr⟩
          have:=r7 (j - o) tO
          rw [show o' + i' * k + o + 0 + (j - o) = o' + i' * k + j by omega] at this
          rw [this]; exact hu
        · obtain ⟨u,hu,hr⟩:=h5 i' j y c hy hj
          exact ⟨u,by rw [r8 _ tO]; exact hu,R hr⟩
      · rw [List.getElem?_set_ne (Ne.symm hi)] at hz
        obtain ⟨u,hu,hr⟩:=h5 i' j z c hz hj
        refine ⟨u, ?_,R hr⟩
        have hjl:=(zg hj).1
        rw [(AV.elem_iff.1 (he z (List.mem_of_getElem? hz))).1] at hjl
        rw [r8 _ ?_]; exact hu
        rcases Nat.lt_or_gt_of_ne hi with hlt' | hgt
        · have : (i' + 1) * k ≤ i * k:=Nat.mul_le_mul_right _ hlt'
          rw [Nat.add_mul] at this; omega
        · have : (i + 1) * k ≤ i' * k:=Nat.mul_le_mul_right _ hgt
          rw [Nat.add_mul] at this; omega
end
end Go.AM
namespace Go.AM
section
variable {P : Program} {GT : Nat → Option AV} {w : World} {M : AMap} {I : Nat → Prop} {H : Heap}
theorem Sim.regrow {w' : World} (hS : Sim GT w M I H) {b g o o2 : Nat} {x y : ABlk} (hx : H[b]? = some x) (hxm : x.mut = true) (hM : M b = some (g,o)) {cur cur' : Array Value} {e : TypeId} {fz : Nat × Nat}
    (hg : w.heap[g]? = some (.cells cur e fz)) (hsz : cur'.size = cur.size) (hh : w'.heap = w.heap.setIfInBounds g (.cells cur' e fz)) (ho : w'.os = w.os) (ht : w'.tape = w.tape) (hq : w'.output = w.output)
    (hy : zGF w' (more M H.length (some (g,o2))) I (H.length + 1) H.length y) :
    Grow w M I H w' (more M H.length (some (g,o2))) I (H.set b .dead ++ [y]) ∧ Sim GT w' (more M H.length (some (g,o2))) I (H.set b .dead ++ [y]):=by
  obtain ⟨G,S⟩:=Sim.write (y:=.dead) hS hx hxm hM hg hsz hh ho ht hq trivial
  have hlive : zC2 H M g:=⟨b,x,o,hx,hxm,hM⟩
  have hnI : ¬ I g:=fun h=>hS.notLive h hlive
  have hlen : (H.set b .dead).length = H.length:=by simp
  have hold : ∀ c,c < H.length → more M H.length (some (g,o2)) c = M c:=fun c hc=>zDd hc
  have hnone : ¬ zC2 (H.set b .dead) M g:=by
    rintro ⟨c,z,p,h1,h2,h3⟩
    by_cases hc : b = c
    · subst hc
      have hbl:=(zg hx).1
      rw [List.getElem?_set_self hbl] at h1
      obtain rfl:=Option.some.inj h1
      simp [ABlk.mut] at h2
    · rw [List.getElem?_set_ne hc] at h1
      exact hc (hS.inj c b z x g p o h1 h2 hx hxm h3 hM).symm
  have hget : ∀ c z,(H.set b .dead ++ [y])[c]? = some z → (c < H.length ∧ (H.set b .dead)[c]? = some z) ∨ (c = H.length ∧ z = y):=fun c z hz=>by
    by_cases hc : c < H.length
    · rw [List.getElem?_append_left (by simpa using hc)] at hz; exact .inl ⟨hc,hz⟩
    · have hlt:=(zg hz).1
      simp at hlt
      obtain rfl : c = H.length:=by omega
      rw [← hlen] at hz
      simp at hz
      exact .inr ⟨rfl,hz.symm⟩
  refine ⟨⟨G.os,G.tape,G.output,G.size,hold,G.imm,G.imm',G.frame,fun k hk hl=>?_,G.shape,by simp⟩,⟨S.glob' hold,S.idom,fun c z hz=>?_,fun c c' z z' g' p p' h1 h2 h3 h4 h5 h6=>?_,S.shp⟩⟩
  · obtain ⟨c,z,p,h1,h2,h3⟩:=hl
    rcases hget c z h1 with ⟨hc,h1⟩ | ⟨rfl,rfl⟩
    · exact G.live k hk ⟨c,z,p,h1,h2,by rwa [hold c hc] at h3⟩
    · rw [zP] at h3
      simp only [Option.some.injEq,Prod.mk.injEq] at h3
      obtain ⟨rfl,_⟩:=h3
      exact hlive
  · rcases hget c z hz with ⟨hc,h1⟩ | ⟨rfl,rfl⟩
    · refine (S.blk c z h1).mono (by simpa using hc) (fun _ h=>h) (fun _ _=>rfl) (fun b hb=>hold b (by simpa using hb)) (by simp) (fun _ _ h=>h) (fun _ _ _ _=>rfl) (fun _ _ _ _ h=>h)
    · simpa using hy
  · rcases hget c z h1 with ⟨hc,k1⟩ | ⟨rfl,rfl⟩
    · rw [hold c hc] at h5
      rcases hget c' z' h3 with ⟨hc',k3⟩ | ⟨rfl,rfl⟩
      · rw [hold c' hc'] at h6
        exact S.inj c c' z z' g' p p' k1 h2 k3 h4 h5 h6
      · rw [zP] at h6
        simp only [Option.some.injEq,Prod.mk.injEq] at h6
        obtain ⟨rfl,_⟩:=h6
        exact absurd ⟨c,z,p,k1,h2,h5⟩ hnone
    · rw [zP] at h5
      simp only [Option.some.injEq,Prod.mk.injEq] at h5
      obtain ⟨rfl,_⟩:=h5
      rcases hget c' z' h3 with ⟨hc',k3⟩ | ⟨rfl,rfl⟩
      · rw [hold c' hc'] at h6
        exact absurd ⟨c',z',p',k3,h4,h6⟩ hnone
      · rfl
theorem zER {k m : Nat} {yv : Value} {news : List Value} {w' : World} (hw : ∀ a,w'.cell? a = w.cell? a)
    (hy : ((yv = .slice none 0 0 ∨ ∃ a,yv = .slice (some a) 0 0) ∧ m = 0 ∧ news = []) ∨ ∃ g p cap,yv = .slice (some ⟨g,p,none⟩) m cap ∧ news.length = m * k ∧ ∀ j u,news[j]? = some u → w.cell? ⟨g,p + j,none⟩ = some u) :
    (Builtin.firstCells k m yv).run P w' = .ok news.toArray w' ∧ (Builtin.lenOf yv).run P w' = .ok m w':=by
  rcases hy with ⟨rfl | ⟨a,rfl⟩,rfl,rfl⟩ | ⟨g,p,cap,rfl,hl,hc⟩
  · exact ⟨by simp [Builtin.firstCells],by simp [Builtin.lenOf]⟩
  · exact ⟨by simp [Builtin.firstCells,loadCells,loadCellsFrom],by simp [Builtin.lenOf]⟩
  · exact ⟨run_firstCells_some w' k m _ m cap news hl (fun j u hu=>by rw [hw,Addr.add_lit]; exact hc j u hu),by simp [Builtin.lenOf]⟩
structure Src (P : Program) (w : World) (k m : Nat) (u : TypeId) (yv : Value) (news : List Value) : Prop where
  ty : (∃ e,P.underlying u = some (.slice e)) ∨ P.underlying u = some .string
  len : ∀ w' : World,(∀ a,w'.cell? a = w.cell? a) → (Builtin.lenOf yv).run P w' = .ok m w'
  first : ∀ w' : World,(∀ a,w'.cell? a = w.cell? a) → (Builtin.firstCells k m yv).run P w' = .ok news.toArray w'
theorem Src.of_slice {k m : Nat} {u e : TypeId} {yv : Value} {news : List Value} (hu : P.underlying u = some (.slice e))
    (hy : ((yv = .slice none 0 0 ∨ ∃ a,yv = .slice (some a) 0 0) ∧ m = 0 ∧ news = []) ∨ ∃ g p cap,yv = .slice (some ⟨g,p,none⟩) m cap ∧ news.length = m * k ∧ ∀ j u,news[j]? = some u → w.cell? ⟨g,p + j,none⟩ = some u) :
    Src P w k m u yv news:=by
  refine ⟨.inl ⟨e,hu⟩,fun w' hw=>(zER hw hy).2,fun w' hw=>(zER hw hy).1⟩
theorem Src.of_str {u : TypeId} (hu : P.underlying u = some .string) (s : List UInt8) : Src P w 1 s.length u (.string ⟨s.toArray⟩) (s.map fun b=>.int .u8 b.toNat):=by
  have hz : (⟨s.toArray⟩ : ByteArray).size = s.length:=by simp [ByteArray.size]
  refine ⟨.inr hu,fun w' _=>by simp [Builtin.lenOf,hz],fun w' _=>?_⟩
  have he : (⟨s.toArray⟩ : ByteArray).extract 0 s.length = ⟨s.toArray⟩:=by
    rw [← hz]; exact ByteArray.extract_zero_size
  simp only [Builtin.firstCells,he,Sem.run_pure]
  congr 1
  simp
section
variable {t u ty e : TypeId} {i : TypeInfo}
include t u ty e i
theorem zES {z : Value} (ht : P.underlying t = some (.slice e)) (hi : P.info? e = some i) (hz : i.zero = some z) {m : Nat} {yv : Value} {news : List Value}
    (hs : Src P w i.size m u yv news) (h0 : 0 < m) (h63 : (m : Int) ≤ 9223372036854775807) (h48 : m * i.bytes ≤ 281474976710656) :
    (Builtin.append_ #[t,u] ty #[.slice none 0 0,yv]).run P w =
      .ok (.slice (some ⟨w.heap.size,0,none⟩) m (grownCap w m 0 e)) (w.drew.alloc (.cells (news.toArray ++ Builtin.zeroCells z.cells (grownCap w m 0 e - m)) e)):=by
  have hn : m ≠ 0:=by omega
  have h63' : ¬ (9223372036854775807 < (m : Int)):=by omega
  have h48' : ¬ (281474976710656 < Builtin.nextslicecap m 0 * i.bytes):=by rw [nextslicecap_zero h0]; omega
  have hl:=hs.len w (fun _=>rfl)
  have hf:=hs.first w.drew (fun _=>rfl)
  rcases hs.ty with ⟨e',hu⟩ | hu
  · simp [Builtin.append_,run_underlying ht,run_underlying hu,sizeOf,typeInfo,zeroValue,hi,hz,hl,hn,h63',h48',Question.forced,run_firstCells_none,hf,newRow,grownCap]
  · simp [Builtin.append_,run_underlying ht,run_underlying hu,sizeOf,typeInfo,zeroValue,hi,hz,hl,hn,h63',h48',Question.forced,run_firstCells_none,hf,newRow,grownCap]
theorem z8 (ht : P.underlying t = some (.slice e)) (hi : P.info? e = some i) {yv : Value}
    (hs : Src P w i.size 0 u yv []) : (Builtin.append_ #[t,u] ty #[.slice none 0 0,yv]).run P w = .ok (.slice none 0 0) w:=by
  have hl:=hs.len w (fun _=>rfl)
  have hf:=hs.first w (fun _=>rfl)
  rcases hs.ty with ⟨e',hu⟩ | hu
  · simp [Builtin.append_,run_underlying ht,run_underlying hu,sizeOf,typeInfo,hi,hl,hf]
  · simp [Builtin.append_,run_underlying ht,run_underlying hu,sizeOf,typeInfo,hi,hl,hf]
theorem zBe (ht : P.underlying t = some (.slice e)) (hi : P.info? e = some i) {yv : Value} {a : Addr} {n c : Nat} (hc : n ≤ c)
    (hs : Src P w i.size 0 u yv []) : (Builtin.append_ #[t,u] ty #[.slice (some a) n c,yv]).run P w = .ok (.slice (some a) n c) w:=by
  have hl:=hs.len w (fun _=>rfl)
  have hf:=hs.first w (fun _=>rfl)
  rcases hs.ty with ⟨e',hu⟩ | hu
  · simp [Builtin.append_,run_underlying ht,run_underlying hu,sizeOf,typeInfo,hi,hl,hf,hc,storeCells]
  · simp [Builtin.append_,run_underlying ht,run_underlying hu,sizeOf,typeInfo,hi,hl,hf,hc,storeCells]
theorem zD7 {z : Value} (ht : P.underlying t = some (.slice e)) (hi : P.info? e = some i) (hz : i.zero = some z)
    (b : Addr) (sLen sCap : Nat) (olds : List Value) (hlo : olds.length = sLen * i.size) (holds : ∀ j v,olds[j]? = some v → w.cell? (b.add j) = some v)
    {n : Nat} {yv : Value} {news : List Value} (hs : Src P w i.size n u yv news)
    (hg : sCap < sLen + n) (h63 : ((sLen + n : Nat) : Int) ≤ 9223372036854775807) (hfit : Builtin.nextslicecap (sLen + n) sCap * i.bytes ≤ 281474976710656) :
    (Builtin.append_ #[t,u] ty #[.slice (some b) sLen sCap,yv]).run P w =
      .ok (.slice (some ⟨w.heap.size,0,none⟩) (sLen + n) (grownCap w (sLen + n) sCap e))
        (w.drew.alloc (.cells (olds.toArray ++ news.toArray ++ Builtin.zeroCells z.cells (grownCap w (sLen + n) sCap e - (sLen + n))) e)):=by
  have hn : ¬ (sLen + n ≤ sCap):=by omega
  have h63' : ¬ (9223372036854775807 < ((sLen : Int) + (n : Int))):=by omega
  have h48' : ¬ (281474976710656 < Builtin.nextslicecap (sLen + n) sCap * i.bytes):=by omega
  have hl:=hs.len w (fun _=>rfl)
  have hf:=hs.first w.drew (fun _=>rfl)
  have hfo:=run_firstCells_some (P:=P) w.drew i.size sLen b sLen sCap olds hlo (by simpa using holds)
  rcases hs.ty with ⟨e',hu⟩ | hu
  · simp [Builtin.append_,run_underlying ht,run_underlying hu,sizeOf,typeInfo,zeroValue,hi,hz,hl,hn,h63',h48',Question.forced,hf,hfo,newRow,grownCap]
    congr 2
    apply Array.ext'
    simp [List.append_assoc]
  · simp [Builtin.append_,run_underlying ht,run_underlying hu,sizeOf,typeInfo,zeroValue,hi,hz,hl,hn,h63',h48',Question.forced,hf,hfo,newRow,grownCap]
    congr 2
    apply Array.ext'
    simp [List.append_assoc]
end
theorem zCY {w' : World} {M' : AMap} {n b k g o : Nat} {cur : Array Value} {ys : List AV} {cells : List Value} (he : Elems k ys) (hM : M' b = some (g,o)) (hC : Cells w' g cur k) (hI : ¬ I g) (hlen : o + ys.length * k ≤ cur.size)
    (hcur : ∀ j,j < ys.length * k → cur[o + j]? = cells[j]?) (hcl : cells.length = ys.length * k) (hr : ∀ i j x c,ys[i]? = some x → x.cells[j]? = some c → ∃ u,cells[i * k + j]? = some u ∧ Rel w' M' I n c u) : zGF w' M' I n b (.row k ys):=by
  refine ⟨he,.inr ⟨g,o,cur,hM,hC,hI,hlen,fun i j x c hi hj=>?_⟩⟩
  obtain ⟨u,hu,hru⟩:=hr i j x c hi hj
  have:=(zg hu).1
  exact ⟨u,by rw [Nat.add_assoc,hcur _ tO]; exact hu,hru⟩
def zGL (P : Program) (GT : Nat → Option AV) (w : World) (M : AMap) (I : Nat → Prop) (H : Heap) (s : Sem Value) (v : AV) (H' : Heap) (Q : World → AMap → Prop) : Prop:=
  ∃ v' w' M' I',s.run P w = .ok v' w' ∧ Grow w M I H w' M' I' H' ∧ Sim GT w' M' I' H' ∧ Rel w' M' I' H'.length v v' ∧ Q w' M'
theorem zGL.runs {P : Program} {GT : Nat → Option AV} {w : World} {M : AMap} {I : Nat → Prop} {H H' : Heap} {s : Sem Value} {v : AV} {Q : World → AMap → Prop} (h : zGL P GT w M I H s v H' Q) : zL P GT w M I H s v H':=
  let ⟨v',w',M',I',a,b,c,d,_⟩:=h
  ⟨v',w',M',I',a,b,c,d⟩
section
variable (hS : Sim GT w M I H) {t u ty e : TypeId} {i : TypeInfo} {z : Value} {k bytes : Nat} (ht : P.underlying t = some (.slice e)) (hi : P.info? e = some i) (hk : i.size = k) (hb : i.bytes = bytes) (hz : i.zero = some z) (hzc : z.cells.size = k) (hk0 : 0 < k) {yv : Value} {ys : List AV} {news : List Value} (he : Elems k ys) (hsrc : Src P w k ys.length u yv news) (n1 : news.length = ys.length * k) (n4 : ∀ i j x c,ys[i]? = some x → x.cells[j]? = some c → ∃ u,news[i * k + j]? = some u ∧ Rel w M I H.length c u) (h1 : ys.length ≤ 9223372036854775807) (h2 : ys.length * bytes ≤ 140737488355328) (q : Option Bool) (hq : q ≠ some false)
include hS t u ty e i z k bytes ht hi hk hb hz hzc hk0 yv ys news he hsrc n1 n4 h1 h2 q hq
theorem zBu :
    zGL P GT w M I H (Builtin.append_ #[t,u] ty #[.slice none 0 0,yv]) (.sl q H.length k 0 ys.length) (H ++ [.row k ys]) (fun w' M'=>ys ≠ [] → ∃ g c,M' H.length = some (g,0) ∧ w'.shape? g = some (e,c)):=by
  by_cases hemp : ys = []
  · subst hemp
    obtain rfl : news = []:=List.eq_nil_of_length_eq_zero (by simpa using n1)
    subst hk
    have hrun:=z8 (ty:=ty) ht hi hsrc
    obtain ⟨G,S⟩:=hS.pushNone (blk:=.row i.size []) (fun _=>⟨fun _ h=>absurd h (by simp),.inl ⟨zP,rfl⟩⟩) (.inr rfl)
    exact ⟨_,w,_,I,hrun,G,S,.sln q H.length _ 0 (by simp) zP hq,fun h=>absurd rfl h⟩
  · have hpos : 0 < ys.length:=List.length_pos_iff.2 hemp
    subst hk hb
    have hr:=zES (ty:=ty) ht hi hz hsrc hpos tO tO
    have hge:=grownCap_ge w ys.length 0 e
    have hcm' : grownCap w ys.length 0 e ≤ maxLen:=grownCap_le_maxLen w ys.length 0 e (by simp only [maxLen]; omega)
    have hsize : (news.toArray ++ Builtin.zeroCells z.cells (grownCap w ys.length 0 e - ys.length)).size = grownCap w ys.length 0 e * i.size:=by
      simp only [Array.size_append,List.size_toArray,size_zeroCells,hzc,n1,← Nat.add_mul]
      congr 1; omega
    have hheap : (w.drew.alloc (.cells (news.toArray ++ Builtin.zeroCells z.cells (grownCap w ys.length 0 e - ys.length)) e)).heap = w.heap.push (.cells (news.toArray ++ Builtin.zeroCells z.cells (grownCap w ys.length 0 e - ys.length)) e):=rfl
    have R : ∀ {c v},Rel w M I H.length c v → c.noRef = true → Rel (w.drew.alloc (.cells (news.toArray ++ Builtin.zeroCells z.cells (grownCap w ys.length 0 e - ys.length)) e)) (more M H.length (some (w.heap.size,0))) I (H.length + 1) c v:=fun h hn=>by
      have:=(Sim.push (blk:=.dead) hS hheap rfl rfl rfl trivial).1.rel hS h
      simpa using this
    obtain ⟨G,S⟩:=hS.push (blk:=.row i.size ys) hheap rfl rfl rfl (zCY (cells:=news) (o:=0) he zP ⟨e,(0,0),by rw [hheap,Array.getElem?_push,if_pos rfl],fun j _ h=>absurd h.2 (Nat.not_lt_zero _)⟩
      (fun h=>absurd (hS.idom _ h) (Nat.lt_irrefl _)) (by rw [hsize]; simpa using Nat.mul_le_mul_right _ hge)
      (fun j hj=>by rw [Nat.zero_add,Array.getElem?_append_left (by simp; omega)]; simp) n1 (fun a j x c hx hj=>by
        obtain ⟨u,h1,h2⟩:=n4 a j x c hx hj
        exact ⟨u,h1,R h2 (AV.noRef_cells (AV.elem_iff.1 (he x (List.mem_of_getElem? hx))).2.1 hj)⟩))
    refine ⟨_,_,_,I,hr,G,S, ?_,fun _=>⟨w.heap.size,_,zP,by simp [World.shape?,hheap]; rfl⟩⟩
    exact .sl q H.length i.size 0 ys.length w.heap.size 0 0 _ (by simp) zP hge hcm' (fun _=>hpos) (fun _=>⟨by simp,e,_,by simp [World.shape?,hheap]; rfl,by have h:=hsize; rw [Array.size_append,List.size_toArray] at h; simp only [Nat.zero_add]; omega⟩)
theorem zDt :
    zL P GT w M I H (Builtin.append_ #[t,u] ty #[.slice none 0 0,yv]) (.sl q H.length k 0 ys.length) (H ++ [.row k ys]):=
  (zBu hS ht hi hk hb hz hzc hk0 he hsrc n1 n4 h1 h2 q hq).runs
end
theorem zD8 (hS : Sim GT w M I H) {u e : TypeId} (hu : P.underlying u = some (.slice e)) {k : Nat} {yv : Value} {y : AV} (hy : Rel w M I H.length y yv) {ys : List AV} (hv : view H k y = some ys) :
    Elems k ys ∧ ∃ news : List Value,Src P w k ys.length u yv news ∧ news.length = ys.length * k ∧ (∀ u ∈ news,u.oneCell' = true) ∧ ∀ i j x c,ys[i]? = some x → x.cells[j]? = some c → ∃ u,news[i * k + j]? = some u ∧ Rel w M I H.length c u:=by
  obtain ⟨he,hyv⟩:=zHd hS hy hv
  refine ⟨he, ?_⟩
  rcases hyv with ⟨hyv,rfl⟩ | ⟨g1,p1,cap1,rfl,_,_,hr1⟩
  · exact ⟨[],.of_slice hu (.inl ⟨hyv,rfl,rfl⟩),by simp,by simp,by simp⟩
  · obtain ⟨news,n1,n2,n3,n4⟩:=hr1.flat he
    exact ⟨news,.of_slice hu (.inr ⟨g1,p1,cap1,rfl,n1,n2⟩),n1,n3,n4⟩
theorem zFl (hS : Sim GT w M I H) {t ty e : TypeId} {i : TypeInfo} {z : Value} {k bytes : Nat} (ht : P.underlying t = some (.slice e)) (hi : P.info? e = some i) (hk : i.size = k) (hb : i.bytes = bytes) (hz : i.zero = some z) (hzc : z.cells.size = k) (hk0 : 0 < k)
    {yv : Value} {y : AV} (hy : Rel w M I H.length y yv) {ys : List AV} (hv : view H k y = some ys) (h1 : ys.length ≤ 9223372036854775807) (h2 : ys.length * bytes ≤ 140737488355328) (q : Option Bool) (hq : q ≠ some false) :
    zL P GT w M I H (Builtin.append_ #[t,t] ty #[.slice none 0 0,yv]) (.sl q H.length k 0 ys.length) (H ++ [.row k ys]):=by
  obtain ⟨he,news,hs,n1,_,n4⟩:=zD8 hS ht hy hv
  exact zDt hS ht hi hk hb hz hzc hk0 he hs n1 n4 h1 h2 q hq
section
variable (hS : Sim GT w M I H) {t u ty e : TypeId} {i : TypeInfo} {z : Value} {k bytes : Nat} (ht : P.underlying t = some (.slice e)) (hi : P.info? e = some i) (hk : i.size = k) (hb : i.bytes = bytes) (hz : i.zero = some z) (hzc : z.cells.size = k) (hk0 : 0 < k) {yv s : Value} {ys xs : List AV} {news : List Value} (he : Elems k ys) (hsrc : Src P w k ys.length u yv news) (n1 : news.length = ys.length * k) (n3 : ∀ u ∈ news,u.oneCell' = true) (n4 : ∀ i j x c,ys[i]? = some x → x.cells[j]? = some c → ∃ u,news[i * k + j]? = some u ∧ Rel w M I H.length c u) {q : Option Bool} {b off len : Nat} (hs : Rel w M I H.length (.sl q b k off len) s) (hx : H[b]? = some (.row k xs)) (hle : off + len ≤ xs.length) (h1 : len + ys.length ≤ 9223372036854775807) (h2 : (len + ys.length) * bytes ≤ 140737488355328)
include hS t u ty e i z k bytes ht hi hk hb hz hzc hk0 yv s ys xs news he hsrc n1 n3 n4 q b off len hs hx hle h1 h2
theorem zDI :
    zGL P GT w M I H (Builtin.append_ #[t,u] ty #[s,yv]) (.sl q H.length k 0 (len + ys.length)) (H.set b .dead ++ [.row k ((xs.drop off).take len ++ ys)]) (fun w' M'=>ys ≠ [] → off = 0 → (∀ g o,M b = some (g,o) → o = 0 ∧ ∃ c,w.shape? g = some (e,c)) → ∃ g c,M' H.length = some (g,0) ∧ w'.shape? g = some (e,c)):=by
  have hbl : b < H.length:=(zg hx).1
  cases hs with
  | sln _ _ _ _ hbn hM hq=>
    obtain ⟨Gk,Sk⟩:=hS.kill b
    simp only [List.take_zero,List.nil_append,Nat.zero_add]
    rw [show H.length = (H.set b .dead).length by simp]
    obtain ⟨v',w',M',I',r,G,S,R,Q⟩:=zBu (P:=P) (ty:=ty) Sk ht hi hk hb hz hzc hk0 he hsrc n1 (fun i j x c hi hj=>let ⟨u,a,b⟩:=n4 i j x c hi hj; ⟨u,a,by simpa using b⟩) (by simpa using h1) (by simpa using h2) q hq
    exact ⟨v',w',M',I',r,Gk.trans G,S,R,fun h _ _=>Q h⟩
  | sl _ _ _ _ _ g o p cap hbn hM hc hm hq ha=>
    obtain ⟨hex,⟨h1',_⟩ | ⟨g',o',cur,h1',h2',h3,h4,h5⟩⟩:=hS.blk b _ hx
    · rw [hM] at h1'; cases h1'
    rw [hM] at h1'; simp only [Option.some.injEq,Prod.mk.injEq] at h1'; obtain ⟨rfl,rfl⟩:=h1'
    have hrow : zG3 w M I H.length g o k xs:=fun i j x c hi hj=>let ⟨u,a,b⟩:=h5 i j x c hi hj; ⟨u,by rw [h2'.cell?]; exact a,b⟩
    have hcut:=hrow.cut off len
    have hec:=zGG hex off len
    have hlen : ((xs.drop off).take len).length = len:=by simp; omega
    obtain ⟨olds,o1,o2,o3,o4⟩:=hcut.flat hec
    rw [hlen] at o1
    have hall : ∀ (cells : List Value),cells = olds ++ news → ∀ i j x c,((xs.drop off).take len ++ ys)[i]? = some x → x.cells[j]? = some c → ∃ u,cells[i * k + j]? = some u ∧ Rel w M I H.length c u ∧ c.noRef = true:=by
      rintro cells rfl i j x c hi hj
      by_cases hil : i < len
      · rw [List.getElem?_append_left tO] at hi
        obtain ⟨u,a,r⟩:=o4 i j x c hi hj
        have:=(zg a).1
        exact ⟨u,by rw [List.getElem?_append_left this]; exact a,r,AV.noRef_cells (AV.elem_iff.1 (hec x (List.mem_of_getElem? hi))).2.1 hj⟩
      · rw [List.getElem?_append_right tO,hlen] at hi
        obtain ⟨u,a,r⟩:=n4 _ j x c hi hj
        refine ⟨u, ?_,r,AV.noRef_cells (AV.elem_iff.1 (he x (List.mem_of_getElem? hi))).2.1 hj⟩
        have hik : len * k ≤ i * k:=Nat.mul_le_mul_right _ tO
        rw [List.getElem?_append_right tO,o1,← a]
        congr 1
        rw [Nat.sub_mul]; omega
    have heall : Elems k ((xs.drop off).take len ++ ys):=fun x hx=>by
      rcases List.mem_append.1 hx with hx | hx
      · exact hec x hx
      · exact he x hx
    have hcl : (olds ++ news).length = ((xs.drop off).take len ++ ys).length * k:=by rw [List.length_append,List.length_append,o1,n1,hlen,Nat.add_mul]
    have hall' : ((xs.drop off).take len ++ ys).length = len + ys.length:=by rw [List.length_append,hlen]
    by_cases hroom : len + ys.length ≤ cap
    · -- there is room
      obtain ⟨e',fz,hg,hfz⟩:=h2'
      have hf : (Builtin.firstCells k ys.length yv).run P w = .ok news.toArray w ∧ (Builtin.lenOf yv).run P w = .ok ys.length w:=⟨hsrc.first w (fun _=>rfl),hsrc.len w (fun _=>rfl)⟩
      have hlt:=(Array.getElem?_eq_some_iff.1 hg).1
      have hfit : o + off * k + len * k + news.length ≤ cur.size ∨ news = []:=by
        rcases Nat.eq_zero_or_pos cap with h0 | h0
        · right
          exact List.eq_nil_of_length_eq_zero (by rw [n1,show ys.length = 0 by omega,Nat.zero_mul])
        · left
          obtain ⟨_,e1,sz,hsh,hsz⟩:=ha h0
          simp only [World.shape?,hg,Option.some.injEq,Prod.mk.injEq] at hsh
          obtain ⟨_,rfl⟩:=hsh
          have : (off + (len + ys.length)) * k ≤ (off + cap) * k:=Nat.mul_le_mul_right _ tO
          rw [Nat.add_mul,Nat.add_mul] at this
          rw [n1]; omega
      have hbase : o + off * k + len * k ≤ cur.size:=by
        have : (off + len) * k ≤ xs.length * k:=Nat.mul_le_mul_right _ hle
        rw [Nat.add_mul] at this; omega
      obtain ⟨cur',w',r1,r2,r3,r4,r5,r6,r7,r8⟩ : ∃ (cur' : Array Value) (w' : World),(storeCells ⟨g,p + len * k,none⟩ news 0).run P w = .ok () w' ∧ w'.heap = w.heap.setIfInBounds g (.cells cur' e' fz) ∧ w'.os = w.os ∧ w'.tape = w.tape ∧ w'.output = w.output ∧
          cur'.size = cur.size ∧ (∀ j,j < news.length → cur'[o + off * k + len * k + j]? = news[j]?) ∧ (∀ j,(j < o + off * k + len * k ∨ o + off * k + len * k + news.length ≤ j) → cur'[j]? = cur[j]?):=by
        rcases hfit with hfit | rfl
        · rcases Nat.eq_zero_or_pos cap with h0 | h0
          · obtain rfl : news = []:=List.eq_nil_of_length_eq_zero (by rw [n1,show ys.length = 0 by omega,Nat.zero_mul])
            obtain ⟨cur',w',r1,r2,r3,r4,r5,r6,r7,r8⟩:=z7 (P:=P) g (o + off * k + len * k) e' fz [] 0 cur w hg (fun j hj=>hfz j tO) (by simpa using hbase) (by simp)
            exact ⟨cur',w',by simpa [storeCells] using r1,r2,r3,r4,r5,r6,by simp,fun j hj=>r8 j (by simpa using hj)⟩
          · obtain ⟨rfl,_⟩:=ha h0
            obtain ⟨cur',w',r1,r2,r3,r4,r5,r6,r7,r8⟩:=z7 (P:=P) g (o + off * k + len * k) e' fz news 0 cur w hg (fun j hj=>hfz j tO) tO n3
            exact ⟨cur',w',r1,r2,r3,r4,r5,r6,fun j hj=>by simpa using r7 j hj,fun j hj=>r8 j (by simpa using hj)⟩
        · obtain ⟨cur',w',r1,r2,r3,r4,r5,r6,r7,r8⟩:=z7 (P:=P) g (o + off * k + len * k) e' fz [] 0 cur w hg (fun j hj=>hfz j tO) (by simpa using hbase) (by simp)
          exact ⟨cur',w',by simpa [storeCells] using r1,r2,r3,r4,r5,r6,by simp,fun j hj=>r8 j (by simpa using hj)⟩
      have hrun : (Builtin.append_ #[t,u] ty #[.slice (some ⟨g,p,none⟩) len cap,yv]).run P w = .ok (.slice (some ⟨g,p,none⟩) (len + ys.length) cap) w':=by
        have hp : (⟨g,p,none⟩ : Addr).add (len * k) = ⟨g,p + len * k,none⟩:=Addr.add_lit _ _ _
        subst hk
        rcases hsrc.ty with ⟨e',hu⟩ | hu
        · simp [Builtin.append_,run_underlying ht,run_underlying hu,sizeOf,typeInfo,hi,hf.1,hf.2,hroom,hp,r1]
        · simp [Builtin.append_,run_underlying ht,run_underlying hu,sizeOf,typeInfo,hi,hf.1,hf.2,hroom,hp,r1]
      have hlt' : w'.heap[g]? = some (.cells cur' e' fz):=by rw [r2,Array.getElem?_setIfInBounds,if_pos rfl,if_pos hlt]
      obtain ⟨G0,S0⟩:=Sim.write (w':=w') (y:=.dead) hS hx rfl hM hg r6 r2 r3 r4 r5 trivial
      have R : ∀ {c v},Rel w M I H.length c v → c.noRef = true → Rel w' (more M H.length (some (g,o + off * k))) I (H.length + 1) c v:=fun h hn=>(G0.rel hS h).free hn
      obtain ⟨G,S⟩:=Sim.regrow (w':=w') (o2:=o + off * k) (y:=.row k ((xs.drop off).take len ++ ys)) hS hx rfl hM hg r6 r2 r3 r4 r5
        (zCY (cells:=olds ++ news) heall zP ⟨e',fz,hlt',by rw [r6]; exact hfz⟩ h3 (by
          rw [hall',Nat.add_mul,r6]
          rcases hfit with h | h
          · omega
          · rw [h] at n1; simp at n1; rw [← n1]; omega) (fun j hj=>by
          rw [hall',Nat.add_mul] at hj
          by_cases hjl : j < len * k
          · rw [r8 _ tO,List.getElem?_append_left tO]
            obtain ⟨u,hu⟩ : ∃ u,olds[j]? = some u:=⟨_,List.getElem?_eq_getElem tO⟩
            have:=o2 j u hu
            rw [hu,← this]
            simp [World.cell?,hg]
          · rw [List.getElem?_append_right tO,o1]
            have:=r7 (j - len * k) tO
            rw [← this]; congr 1; omega) hcl (fun a j x c hx hj=>by
          obtain ⟨u,h1,h2,h3⟩:=hall _ rfl a j x c hx hj
          exact ⟨u,h1,R h2 h3⟩))
      refine ⟨_,w',_,I,hrun,G,S,.sl q H.length k 0 _ g (o + off * k) p cap (by simp) zP hroom hm (fun h=>by have:=hq h; omega) (fun h0=>?_),fun _ h0 hT=>?_⟩
      rotate_left
      · obtain ⟨rfl,c,hc'⟩:=hT g o hM
        subst h0
        exact ⟨g,c,by rw [zP]; simp,G.shape g _ hc'⟩
      obtain ⟨rfl,e1,sz,hsh,hsz⟩:=ha h0
      refine ⟨by simp,e',cur'.size,by simp [World.shape?,hlt'], ?_⟩
      simp only [World.shape?,hg,Option.some.injEq,Prod.mk.injEq] at hsh
      obtain ⟨_,rfl⟩:=hsh
      rw [r6,Nat.zero_add,Nat.add_assoc,← Nat.add_mul]
      exact hsz
    · -- it grows
      have hpos : 0 < ys.length:=by omega
      have hpo : len = 0 ∨ p = o + off * k:=by
        rcases Nat.eq_zero_or_pos cap with h0 | h0
        · left; omega
        · exact .inr (ha h0).1
      subst hk hb
      have hr:=zD7 (P:=P) (ty:=ty) ht hi hz ⟨g,p,none⟩ len cap olds o1 (fun j u hu=>by
          rw [Addr.add_lit]
          rcases hpo with h0 | rfl
          · have:=(zg hu).1
            rw [o1,h0] at this; simp at this
          · exact o2 j u hu) hsrc tO tO (growslice_fits tO h2)
      have hge:=grownCap_ge w (len + ys.length) cap e
      have hcm' : grownCap w (len + ys.length) cap e ≤ maxLen:=grownCap_le_maxLen w _ cap e (by simp only [maxLen]; omega)
      generalize hgc : grownCap w (len + ys.length) cap e = gc at hr hge hcm'
      have hsize : (olds.toArray ++ news.toArray ++ Builtin.zeroCells z.cells (gc - (len + ys.length))).size = gc * i.size:=by
        simp only [Array.size_append,List.size_toArray,size_zeroCells,hzc,n1,o1,← Nat.add_mul]
        congr 1; omega
      generalize hcur' : olds.toArray ++ news.toArray ++ Builtin.zeroCells z.cells (gc - (len + ys.length)) = cur1 at hr hsize
      have hheap : (w.drew.alloc (.cells cur1 e)).heap = w.heap.push (.cells cur1 e):=rfl
      obtain ⟨Gk,Sk⟩:=hS.kill b
      have hlk : (H.set b .dead).length = H.length:=by simp
      have R : ∀ {c v},Rel w M I H.length c v → c.noRef = true → Rel (w.drew.alloc (.cells cur1 e)) (more M (H.set b .dead).length (some (w.heap.size,0))) I ((H.set b .dead).length + 1) c v:=fun h hn=>by
        have:=(Sim.push (blk:=.dead) Sk hheap rfl rfl rfl trivial).1.rel Sk (by simpa using h)
        simpa using this
      obtain ⟨G,S⟩:=Sk.push (blk:=.row i.size ((xs.drop off).take len ++ ys)) hheap rfl rfl rfl (zCY (cells:=olds ++ news) (o:=0) heall zP ⟨e,(0,0),by rw [hheap,Array.getElem?_push,if_pos rfl],fun j _ h=>absurd h.2 (Nat.not_lt_zero _)⟩
        (fun h=>absurd (hS.idom _ h) (Nat.lt_irrefl _)) (by rw [hsize,hall']; simpa using Nat.mul_le_mul_right _ hge)
        (fun j hj=>by
          rw [← hcl] at hj
          rw [Nat.zero_add,← hcur',Array.getElem?_append_left (by simpa using hj)]
          simp) hcl (fun a j x c hx hj=>by
          obtain ⟨u,h1,h2,h3⟩:=hall _ rfl a j x c hx hj
          exact ⟨u,h1,R h2 h3⟩))
      refine ⟨_,_,_,I,hr,Gk.trans G,S, ?_,fun _ _ _=>⟨w.heap.size,cur1.size,by rw [← hlk]; exact zP,by simp [World.shape?,hheap]⟩⟩
      exact .sl q H.length i.size 0 _ w.heap.size 0 0 gc (by simp) (by rw [hlk]; exact zP) hge hcm' (fun h=>by have:=hq h; omega) (fun _=>⟨by simp,e,cur1.size,by simp [World.shape?,hheap],by rw [hsize]; simp⟩)
theorem zDu :
    zL P GT w M I H (Builtin.append_ #[t,u] ty #[s,yv]) (.sl q H.length k 0 (len + ys.length)) (H.set b .dead ++ [.row k ((xs.drop off).take len ++ ys)]):=
  (zDI hS ht hi hk hb hz hzc hk0 he hsrc n1 n3 n4 hs hx hle h1 h2).runs
end
theorem zFm (hS : Sim GT w M I H) {t ty e : TypeId} {i : TypeInfo} {z : Value} {k bytes : Nat} (ht : P.underlying t = some (.slice e)) (hi : P.info? e = some i) (hk : i.size = k) (hb : i.bytes = bytes) (hz : i.zero = some z) (hzc : z.cells.size = k) (hk0 : 0 < k)
    {yv s : Value} {y : AV} (hy : Rel w M I H.length y yv) {ys xs : List AV} (hv : view H k y = some ys) {q : Option Bool} {b off len : Nat} (hs : Rel w M I H.length (.sl q b k off len) s) (hx : H[b]? = some (.row k xs)) (hle : off + len ≤ xs.length)
    (h1 : len + ys.length ≤ 9223372036854775807) (h2 : (len + ys.length) * bytes ≤ 140737488355328) :
    zL P GT w M I H (Builtin.append_ #[t,t] ty #[s,yv]) (.sl q H.length k 0 (len + ys.length)) (H.set b .dead ++ [.row k ((xs.drop off).take len ++ ys)]):=by
  obtain ⟨he,news,hsrc,n1,n3,n4⟩:=zD8 hS ht hy hv
  exact zDu hS ht hi hk hb hz hzc hk0 he hsrc n1 n3 n4 hs hx hle h1 h2
end
end Go.AM
namespace Go.AM
section
variable {P : Program} {GT : Nat → Option AV} {w : World} {M : AMap} {I : Nat → Prop} {H : Heap}
theorem zAl {l : Nat} {lo hi : Option AV} {vlo vhi : Option Value} (hlo : ∀ a v,lo = some a → vlo = some v → Rel w M I H.length a v) (hhi : ∀ a v,hi = some a → vhi = some v → Rel w M I H.length a v)
    (h1 : lo.isSome = vlo.isSome) (h2 : hi.isSome = vhi.isSome) {a b : Nat} (h : zAe l lo hi = some (a,b)) (isSlice : Bool) (cap : Nat) (hc : l ≤ cap) :
    (Instr.sliceBounds isSlice l cap vlo vhi none).run P w = .ok (a,b,cap) w ∧ a ≤ b ∧ b ≤ l:=by
  have hB : ∀ k (i : Int) (y : Nat) (code : BoundsCode),0 ≤ i → i ≤ y → (Instr.sliceBound (.int k i) y code).run P w = .ok i.toNat w:=fun k i y code a b=>run_sliceBound w k i y code a b
  obtain ⟨hh0,hl0⟩ : aHi l hi = some b ∧ aLo b lo = some a:=by
    unfold zAe at h
    split at h
    · cases h
    · split at h
      · cases h
      · simp only [Option.some.injEq,Prod.mk.injEq] at h
        obtain ⟨rfl,rfl⟩:=h
        exact ⟨‹_›,‹_›⟩
  have hh : (vhi = none ∧ b = l) ∨ ∃ k n,vhi = some (.int k n) ∧ 0 ≤ n ∧ n ≤ (l : Int) ∧ b = n.toNat:=by
    cases hi with
    | none=>
      simp only [aHi,Option.some.injEq] at hh0
      left; exact ⟨by cases vhi <;> simp at h2 ⊢,hh0.symm⟩
    | some x=>
      cases hv : vhi with
      | none=>rw [hv] at h2; simp at h2
      | some v=>
        have hr:=hhi x v rfl hv
        right
        cases x <;> simp only [aHi,reduceCtorEq] at hh0
        split at hh0
        · rename_i hn
          simp only [Option.some.injEq] at hh0
          cases hr
          exact ⟨_,_,rfl,hn.1,hn.2,hh0.symm⟩
        · cases hh0
  have hbl : b ≤ l:=by rcases hh with ⟨_,rfl⟩ | ⟨_,n,_,_,_,rfl⟩ <;> omega
  have hlo2 : (vlo = none ∧ a = 0) ∨ ∃ k n,vlo = some (.int k n) ∧ 0 ≤ n ∧ n ≤ (b : Int) ∧ a = n.toNat:=by
    cases lo with
    | none=>
      simp only [aLo,Option.some.injEq] at hl0
      left; exact ⟨by cases vlo <;> simp at h1 ⊢,hl0.symm⟩
    | some x=>
      cases hv : vlo with
      | none=>rw [hv] at h1; simp at h1
      | some v=>
        have hr:=hlo x v rfl hv
        right
        cases x <;> simp only [aLo,reduceCtorEq] at hl0
        split at hl0
        · rename_i hn
          simp only [Option.some.injEq] at hl0
          cases hr
          exact ⟨_,_,rfl,hn.1,hn.2,hl0.symm⟩
        · cases hl0
  refine ⟨?_, ?_,hbl⟩
  · unfold Instr.sliceBounds
    rcases hh with ⟨rfl,rfl⟩ | ⟨k,n,rfl,n0,n1,rfl⟩
    · rcases hlo2 with ⟨rfl,rfl⟩ | ⟨k',n',rfl,m0,m1,rfl⟩
      · simp
      · simp [hB k' n' b .sliceB m0 m1]
    · have hb1:=hB k n cap (if isSlice then .sliceAcap else .sliceAlen) n0 tO
      rcases hlo2 with ⟨rfl,rfl⟩ | ⟨k',n',rfl,m0,m1,rfl⟩
      · simp [hb1]
      · have hb2:=hB k' n' n.toNat .sliceB m0 tO
        simp [hb1,hb2]
  · rcases hlo2 with ⟨_,rfl⟩ | ⟨_,n',_,_,m1,rfl⟩ <;> omega
theorem zPo {s : List UInt8} {l h : Nat} : (⟨s.toArray⟩ : ByteArray).extract l h = ⟨((s.take h).drop l).toArray⟩:=by
  apply ByteArray.ext
  simp [ByteArray.data_extract,List.extract_toArray,List.extract_eq_take_drop,List.drop_take]
def zMg (P : Program) (t : TypeId) : Option Nat → Prop
  | none=>zDA P t = true
  | some k=>zBB P t k = true
theorem zJ4 (hS : Sim GT w M I H) {t : TypeId} {k : Option Nat} {x v : AV} {xv : Value} {lo hi : Option AV} {vlo vhi : Option Value} (hx : Rel w M I H.length x xv)
    (hlo : ∀ a v,lo = some a → vlo = some v → Rel w M I H.length a v) (hhi : ∀ a v,hi = some a → vhi = some v → Rel w M I H.length a v) (h1 : lo.isSome = vlo.isSome) (h2 : hi.isSome = vhi.isSome)
    (hk : zMg P t k) (h : zAN k x lo hi = some v) : zL P GT w M I H (Instr.sliceAt t xv vlo vhi none) v H:=by
  unfold zAN at h
  split at h
  · -- a string
    rename_i s
    obtain ⟨⟨a,b⟩,hb,rfl⟩:=Option.map_eq_some_iff.1 h
    cases hx
    have ht : P.underlying t = some .string:=by
      simp only [zMg,zDA] at hk
      split at hk
      · assumption
      · cases hk
    obtain ⟨r,hab,hbl⟩:=zAl (P:=P) hlo hhi h1 h2 hb false s.length (Nat.le_refl _)
    refine zL.pure hS (v':=.string ⟨((s.take b).drop a).toArray⟩) ?_ (.str _)
    simp only [Instr.sliceAt,Sem.run_bind,run_underlying ht,Result.andThen_ok]
    simp [Instr.slice,run_underlying ht,zHc,r,zPo]
  · -- an immutable slice
    rename_i k q k' xs
    split at h
    · rename_i hkk
      obtain ⟨⟨a,b⟩,hb,rfl⟩:=Option.map_eq_some_iff.1 h
      obtain ⟨e,ht,hse⟩ : ∃ e,P.underlying t = some (.slice e) ∧ zBL P e = some k:=by
        simp only [zMg,zBB] at hk
        split at hk
        · rename_i e he; exact ⟨e,he,by simpa using hk⟩
        · cases hk
      cases hx with
      | lnil _ _ hq=>
        obtain ⟨r,hab,hbl⟩:=zAl (P:=P) hlo hhi h1 h2 hb true 0 (Nat.le_refl _)
        simp at hbl
        obtain rfl : b = 0:=by omega
        obtain rfl : a = 0:=by omega
        refine zL.pure hS (v':=.slice none 0 0) ?_ ?_
        · simp only [Instr.sliceAt,Sem.run_bind,run_underlying ht,Result.andThen_ok]
          simp at r
          simp [Instr.slice,run_underlying ht,r,zf hse]
        · simp only [List.take_nil,List.drop_nil]
          refine .lnil _ _ ?_
          unfold zH7; split <;> simp_all
      | lemp _ _ ad hq=>
        obtain ⟨r,hab,hbl⟩:=zAl (P:=P) hlo hhi h1 h2 hb true 0 (Nat.le_refl _)
        simp at hbl
        obtain rfl : b = 0:=by omega
        obtain rfl : a = 0:=by omega
        refine zL.pure hS (v':=.slice (some ad) 0 0) ?_ ?_
        · simp only [Instr.sliceAt,Sem.run_bind,run_underlying ht,Result.andThen_ok]
          simp at r
          simp [Instr.slice,run_underlying ht,r,zf hse]
        · simp only [List.take_nil,List.drop_nil]
          refine .lemp _ _ _ ?_
          unfold zH7; split <;> simp_all
      | lst _ _ _ g o cap V hq hc hm hI he hv hr=>
        obtain ⟨r,hab,hbl⟩:=zAl (P:=P) hlo hhi h1 h2 hb true cap hc
        have hlen : ((xs.take b).drop a).length = b - a:=by simp; omega
        have hrow : zG3 w M I H.length g o k' xs:=fun i j x c hi hj=>⟨_,hv i j x c hi hj,hr i j x c hi hj⟩
        have hcq : zH7 q a b ≠ some true:=by unfold zH7; split <;> simp_all
        have hrun : ∀ p,(if cap = a then (⟨g,o,none⟩ : Addr) else ⟨g,o + a * k,none⟩) = ⟨g,p,none⟩ → (Instr.sliceAt t (.slice (some ⟨g,o,none⟩) xs.length cap) vlo vhi none).run P w = .ok (.slice (some ⟨g,p,none⟩) (b - a) (cap - a)) w:=fun p hp=>by
          simp only [Instr.sliceAt,Sem.run_bind,run_underlying ht,Result.andThen_ok]
          simp only [Instr.slice,Sem.run_bind,run_underlying ht,Result.andThen_ok,r,zf hse,Sem.run_pure,Option.map_some,Addr.add_lit]
          split at hp
          · rename_i hca; rw [if_pos hca]; congr 2; rw [← hp]
          · rename_i hca; rw [if_neg hca]; congr 2; rw [← hp]
        have hrel : ∀ p,(a = b ∨ p = o + a * k') → Rel w M I H.length (.lst (zH7 q a b) k' ((xs.take b).drop a)) (.slice (some ⟨g,p,none⟩) (b - a) (cap - a)):=fun p hp=>by
          have:=Rel.mk_lst (w:=w) (M:=M) (I:=I) (n:=H.length) (q:=zH7 q a b) (xs:=(xs.take b).drop a) (g:=g) (o:=p) (cap:=cap - a) (k:=k') hcq tO (Nat.le_trans (Nat.sub_le _ _) hm) hI
            (fun x hx=>he x (List.mem_of_mem_take (List.mem_of_mem_drop hx))) (fun i j x c hi hj=>by
              have hil:=(zg hi).1
              rcases hp with hp | rfl
              · omega
              · rw [List.getElem?_drop,List.getElem?_take,if_pos tO] at hi
                obtain ⟨u,e1,e2⟩:=hrow _ j x c hi hj
                exact ⟨u,by rw [← e1,Nat.add_mul]; congr 2; omega,e2⟩)
          rwa [hlen] at this
        by_cases hca : cap = a
        · exact zL.pure hS (hrun o (by rw [if_pos hca])) (hrel o (.inl tO))
        · refine zL.pure hS (hrun (o + a * k) (by rw [if_neg hca])) (hrel _ ?_)
          rcases hkk with rfl | hemp
          · exact .inr rfl
          · simp at hemp; subst hemp; left; simp at hbl; omega
    · cases h
  · -- a row of one's own
    rename_i k q b0 k' off len
    split at h
    · rename_i hkk; subst hkk
      obtain ⟨⟨a,b⟩,hb,rfl⟩:=Option.map_eq_some_iff.1 h
      obtain ⟨e,ht,hse⟩ : ∃ e,P.underlying t = some (.slice e) ∧ zBL P e = some k':=by
        simp only [zMg,zBB] at hk
        split at hk
        · rename_i e he; exact ⟨e,he,by simpa using hk⟩
        · cases hk
      cases hx with
      | sln _ _ _ _ hbn hM hq=>
        obtain ⟨r,hab,hbl⟩:=zAl (P:=P) hlo hhi h1 h2 hb true 0 (Nat.le_refl _)
        obtain rfl : b = 0:=by omega
        obtain rfl : a = 0:=by omega
        refine zL.pure hS (v':=.slice none 0 0) ?_ (.sln _ _ _ _ hbn hM ?_)
        · simp only [Instr.sliceAt,Sem.run_bind,run_underlying ht,Result.andThen_ok]
          simp [Instr.slice,run_underlying ht,r,zf hse]
        · unfold zPU; split <;> simp_all
      | sl _ _ _ _ _ g o p cap hbn hM hc hm hq ha=>
        obtain ⟨r,hab,hbl⟩:=zAl (P:=P) hlo hhi h1 h2 hb true cap hc
        have hrun : ∀ p',(if cap = a then (⟨g,p,none⟩ : Addr) else ⟨g,p + a * k',none⟩) = ⟨g,p',none⟩ → (Instr.sliceAt t (.slice (some ⟨g,p,none⟩) len cap) vlo vhi none).run P w = .ok (.slice (some ⟨g,p',none⟩) (b - a) (cap - a)) w:=fun p' hp=>by
          simp only [Instr.sliceAt,Sem.run_bind,run_underlying ht,Result.andThen_ok]
          simp only [Instr.slice,Sem.run_bind,run_underlying ht,Result.andThen_ok,r,zf hse,Sem.run_pure,Option.map_some,Addr.add_lit]
          split at hp
          · rename_i hca; rw [if_pos hca]; congr 2; rw [← hp]
          · rename_i hca; rw [if_neg hca]; congr 2; rw [← hp]
        have hcq : zPU q a b = some true → 0 < b - a:=by
          unfold zPU
          split
          · simp
          · split
            · intro _; omega
            · simp
          · simp
        by_cases hca : cap = a
        · refine zL.pure hS (hrun p (by rw [if_pos hca])) (.sl _ _ _ _ _ g o p (cap - a) hbn hM tO (Nat.le_trans (Nat.sub_le _ _) hm) hcq (fun h0=>by omega))
        · refine zL.pure hS (hrun (p + a * k') (by rw [if_neg hca])) (.sl _ _ _ _ _ g o _ (cap - a) hbn hM tO (Nat.le_trans (Nat.sub_le _ _) hm) hcq (fun h0=>?_))
          have hac : off + a + (cap - a) = off + cap:=by omega
          have h00 : 0 < cap:=by omega
          obtain ⟨hp,e1,sz,hsh,hsz⟩:=ha h00
          exact ⟨by rw [Nat.add_mul,hp]; omega,e1,sz,hsh,by rw [hac]; exact hsz⟩
    · cases h
  · cases h
end
end Go.AM
