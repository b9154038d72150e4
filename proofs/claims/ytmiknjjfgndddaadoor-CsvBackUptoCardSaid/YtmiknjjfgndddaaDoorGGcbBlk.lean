/- Several texts of mine in one (Gcb, Am26, Am32, Blk). Own work. -/
import Derived.Test.YtmiknjjfgndddaaDoorGCvwGcw
import Derived.Test.YtmiknjjfgndddaaDoorGToldQAm24
import Derived.SizedLaws
import Derived.Handed
import Derived.DataWitness
import Derived.Test.YtmiknjjfgndddaaDoorRows
set_option linter.all false
set_option maxRecDepth 100000
namespace Go.Proofs.YtmiknjjfgndddaaDoor
open Go.AM Go.RowKit
section
variable {m : Int} {ev : Value}
theorem zHW (s p : List UInt8) (H : Heap) : GQ m ev zR [.str s,.str p] H (.bool (p.isPrefixOf s)) H:=zu mixed zA0 (zFZ s p H)
theorem zJm (s p : List UInt8) (H : Heap) : GQ m ev zf [.str s,.str p] H (.bool (p.isPrefixOf s)) H:=zu mixed zBj (zIv zHW s p H)
theorem zKv (s : List UInt8) (H : Heap) (h : s ≠ []) : GQ m ev zAC [.str s] H (.bool (endsL s)) H:=zu mixed zHF (zKQ zJm s H h)
theorem zKw : RdC (GQ m ev):=fun s H=>zu mixed zHE (zKS zKv s H)
theorem zKx : SmC (GQ m ev):=fun va vb t u H ha hb hl hl2=>zu mixed zDU (zFY va vb t u H ha hb hl hl2) (hn:=by obtain ⟨xs,⟨q,k,rfl,_⟩,_⟩:=ha; obtain ⟨ys,⟨q2,k2,rfl,_⟩,_⟩:=hb; rfl)
theorem g_law (va : AV) (t : List (List Fld)) (ha : zBU va t) (hb : Bnd t) (s : Fld) (H : Heap) : GQ m ev zAm [va,.str s] H (.bool true) H:=zu mixed zCI (zF7 zKT zKw zKx va t ha hb s H) (hn:=by obtain ⟨xs,⟨q,k,rfl,_⟩,_⟩:=ha; rfl)
end
end Go.Proofs.YtmiknjjfgndddaaDoor
namespace Go.AM
section
variable {H : Type} {enc : TypeId × Value → H} {P : Program} {w : World} {held : Bool} {base : Nat} {sp : Nat → Bool}
end
end Go.AM
namespace Go.AM
section
variable {H : Type} {enc : TypeId × Value → H} {P : Program} {w : World} {held : Bool}
end
end Go.AM
namespace Go.Proofs
open Go.RowKit Go.AM
section
variable {H : Type} {enc : TypeId × Value → H}
end
end Go.Proofs
set_option maxRecDepth 100000
namespace Go.Proofs.YtmiknjjfgndddaaDoor
open Go.AM
theorem zIw {H : Type} (d : DataW H) : 1 ≤ Rows.uptoBulk d:=by
 cases d with
 | lit l=>cases l <;> simp [Rows.uptoBulk]
 | nil=>simp [Rows.uptoBulk]
 | ptr d=>simp [Rows.uptoBulk]
 | slice elems spare=>simp [Rows.uptoBulk]
 | agg parts=>simp [Rows.uptoBulk]
 | iface t d=>simp [Rows.uptoBulk]
 | map entries=>simp [Rows.uptoBulk]
 | held h=>simp [Rows.uptoBulk]
theorem zIx {H : Type} {d : DataW H} {l : List (DataW H)} (h : d ∈ l) : Rows.uptoBulk d ≤ Rows.uptoBulkAll l:=by
 induction l with
 | nil=>cases h
 | cons x r ih=>
  simp only [Rows.uptoBulkAll]
  cases List.mem_cons.1 h with
  | inl e=>subst e; omega
  | inr e=>have:=ih e; omega
theorem zIy {H : Type} (l : List (DataW H)) : l.length ≤ Rows.uptoBulkAll l:=by
 induction l with
 | nil=>simp [Rows.uptoBulkAll]
 | cons x r ih=>have:=zIw x; simp only [Rows.uptoBulkAll,List.length_cons]; omega
section
variable {H : Type} {enc : TypeId × Value → H} {P : Program} {w : World} {held : Bool} {sp : Nat → Bool} {M : AMap} {I : Nat → Prop} {n : Nat}
theorem zKy {fuel : Nat} {t : TypeId} {c : Value} {d : DataW H} {ps : List MemPlace} {s : List UInt8} (hu : P.underlying t = some .string) (h : DataW.trod enc P w 0 sp held fuel t [c] = some (d,ps)) (hr : Rel w M I n (.str s) c) : Rows.uptoBulk d = s.length + 1:=by
 obtain rfl:=zBJ hr
 cases fuel with
 | zero=>simp [DataW.trod] at h
 | succ fuel=>
  simp only [DataW.trod,hu] at h
  split at h
  ·simp only [Option.some.injEq,Prod.mk.injEq] at h
   rw [← h.1]
   simp [Rows.uptoBulk]
  ·cases h
theorem zIz {fuel : Nat} {t e : TypeId} {c : Value} {d : DataW H} {ps : List MemPlace} {q : Option Bool} {xs : List AV} (hu : P.underlying t = some (.slice e)) (hc : P.cellsOf e = 1) (h : DataW.trod enc P w 0 sp held fuel t [c] = some (d,ps)) (hr : Rel w M I n (.lst q 1 xs) c) :
  xs.length + 1 ≤ Rows.uptoBulk d ∧ ∀ (i : Nat) (x : AV),xs[i]? = some x → x.cells = [x] → ∃ V f' ps' di,Rel w M I n x V ∧ DataW.trod enc P w 0 sp held f' e [V] = some (di,ps') ∧ Rows.uptoBulk di ≤ Rows.uptoBulk d:=by
 cases hr with
 | lnil=>exact ⟨zIw d,fun i x hx=>by simp at hx⟩
 | lemp=>exact ⟨zIw d,fun i x hx=>by simp at hx⟩
 | lst q k xs g o cap V hq hcap hm hI he hv hr=>
  cases fuel with
  | zero=>simp [DataW.trod] at h
  | succ fuel=>
   simp only [DataW.trod,hu] at h
   split at h
   case isFalse=>cases h
   obtain ⟨elems,h1,h⟩:=Option.bind_eq_some_iff.1 h
   obtain ⟨rest,h2,h⟩:=Option.map_eq_some_iff.1 h
   obtain ⟨l1,l2⟩:=zAq h1
   rw [List.length_range] at l1
   simp only [Prod.mk.injEq] at h
   have hd:=h.1
   subst hd
   have hb : Rows.uptoBulk (DataW.slice (elems.map (·.1)) (rest.map (·.1))) = Rows.uptoBulkAll (elems.map (·.1)) + Rows.uptoBulkAll (rest.map (·.1)) + 1:=by simp [Rows.uptoBulk]
   rw [hb]
   refine ⟨?_,fun i x hx hxc=>?_⟩
   ·have:=zIy (elems.map (·.1))
    rw [List.length_map,l1] at this
    omega
   ·have hi:=(zg hx).1
    obtain ⟨y,hy,hy2⟩:=l2 i i (by rw [List.getElem?_range hi])
    obtain ⟨ci,e1,e2⟩:=Option.bind_eq_some_iff.1 hy2
    rw [hc] at e1
    have hcell : w.cell? ⟨g,o + i * 1 + 0,none⟩ = some (V i 0):=hv i 0 x x hx (by rw [hxc]; rfl)
    have hci : ci = [V i 0]:=by
     unfold World.cells? at e1
     rw [if_pos (Nat.zero_le _)] at e1
     obtain ⟨m1,m2⟩:=zAq e1
     rw [List.length_range] at m1
     obtain ⟨z,hz,hz2⟩:=m2 0 0 rfl
     have ea : ((⟨g,o,none⟩ : Addr).add (i * 1)).add 0 = ⟨g,o + i * 1 + 0,none⟩:=by
      have ap : ∀ b o j : Nat,(⟨b,o,none⟩ : Addr).add j = ⟨b,o + j,none⟩:=fun b o j=>by
       unfold Addr.add
       split
       ·rename_i h; subst h; rfl
       ·rfl
      rw [ap,ap]
     rw [ea,hcell] at hz2
     obtain ⟨c0,rfl⟩:=List.length_eq_one_iff.1 m1
     simp only [List.getElem?_cons_zero,Option.some.injEq] at hz
     rw [hz,← Option.some.inj hz2]
    rw [hci] at e2
    refine ⟨V i 0,fuel,y.2,y.1,hr i 0 x x hx (by rw [hxc]; rfl),e2, ?_⟩
    have:=zIx (d:=y.1) (l:=elems.map (·.1)) (List.mem_map.2 ⟨y,List.mem_of_getElem? hy,rfl⟩)
    omega
theorem zJn {t e e2 : TypeId} {v : Value} {d : DataW H} {ps : List MemPlace} {x : AV} {tt : List (List Fld)} (hu : P.underlying t = some (.slice e)) (hc : P.cellsOf e = 1) (hu2 : P.underlying e = some (.slice e2)) (hc2 : P.cellsOf e2 = 1) (hu3 : P.underlying e2 = some .string)
  (h : DataW.Trod enc P w 0 sp held t v d ps) (hcs : v.cells.toList = [v]) (hx : zBU x tt) (hq : ∃ q xs,x = .lst q 1 xs) (hxs : ∀ y,(∃ q xs,x = .lst q 1 xs ∧ y ∈ xs) → ∃ q zs,y = .lst q 1 zs) (hr : Rel w M I n x v) (hb : Rows.uptoBulk d ≤ 1048576) : Bnd tt:=by
 obtain ⟨fuel,h⟩:=h
 rw [hcs] at h
 obtain ⟨q,xs,rfl⟩:=hq
 obtain ⟨xs',⟨q',k',e1,_⟩,hl,hrow⟩:=hx
 cases e1
 obtain ⟨b1,b2⟩:=zIz hu hc h hr
 have row : ∀ r ∈ tt,r.length ≤ 1048576 ∧ ∀ f ∈ r,f.length ≤ 1048576:=fun r hm=>by
  obtain ⟨i,hi⟩:=List.getElem?_of_mem hm
  obtain ⟨y,hy,hyo⟩:=hrow i r hi
  obtain ⟨qy,zs,rfl⟩:=hxs y ⟨_,_,rfl,List.mem_of_getElem? hy⟩
  obtain ⟨q2,k2,e2,_⟩:=hyo
  cases e2
  obtain ⟨V,f',ps',di,hV,hdi,hle⟩:=b2 i _ hy rfl
  obtain ⟨c1,c2⟩:=zIz hu2 hc2 hdi hV
  rw [List.length_map] at c1
  refine ⟨by omega,fun f hf=>?_⟩
  obtain ⟨j,hj⟩:=List.getElem?_of_mem hf
  obtain ⟨V2,f2,ps2,d2,hV2,hd2,hle2⟩:=c2 j (.str f) (by rw [List.getElem?_map,hj]; rfl) rfl
  have:=zKy hu3 hd2 hV2
  omega
 exact ⟨by omega,fun r hr=>(row r hr).1,fun r hr=>(row r hr).2⟩
end
theorem zKU {x : AV} (h : Fits (.sl false [.sl false [.str]]) x) : ∃ t,zBU x t ∧ (∃ q xs,x = .lst q 1 xs) ∧ ∀ y,(∃ q xs,x = .lst q 1 xs ∧ y ∈ xs) → ∃ q zs,y = .lst q 1 zs:=by
 have one : ∀ y,Fits (.sl false [.str]) y → ∃ (r : List Fld) (q : Option Bool),y = .lst q 1 (r.map AV.str):=fun y hy=>by
  cases hy with
  | sl ag es q xs hl hq h1 h2=>
   have : ∀ (zs : List AV),(∀ z ∈ zs,∃ s,z = AV.str s) → ∃ r : List Fld,zs = r.map AV.str:=fun zs=>by
    induction zs with
    | nil=>exact fun _=>⟨[],rfl⟩
    | cons z zs ih=>
     intro hz
     obtain ⟨s,rfl⟩:=hz z (by simp)
     obtain ⟨r,rfl⟩:=ih fun y hy=>hz y (List.mem_cons_of_mem _ hy)
     exact ⟨s :: r,rfl⟩
   obtain ⟨r,rfl⟩:=this xs fun z hz=>by
    have hc : z.cells = [z]:=(h1 z hz).2
    have:=h2 z hz 0 .str z rfl (by rw [hc]; rfl)
    cases this with
    | str s _=>exact ⟨s,rfl⟩
   exact ⟨r,_,rfl⟩
 cases h with
 | sl ag es q xs hl hq h1 h2=>
  have each : ∀ y ∈ xs,∃ (r : List Fld) (q : Option Bool),y = .lst q 1 (r.map AV.str):=fun y hy=>by
   have hc : y.cells = [y]:=(h1 y hy).2
   exact one y (h2 y hy 0 _ y rfl (by rw [hc]; rfl))
  have all : ∀ (zs : List AV),(∀ z ∈ zs,∃ (r : List Fld) (q : Option Bool),z = .lst q 1 (r.map AV.str)) → ∃ t : List (List Fld),zs.length = t.length ∧ ∀ (i : Nat) (r : List Fld),t[i]? = some r → ∃ z,zs[i]? = some z ∧ zB5 z 1 (r.map AV.str):=fun zs=>by
   induction zs with
   | nil=>exact fun _=>⟨[],rfl,fun i r h=>by simp at h⟩
   | cons z zs ih=>
    intro hz
    obtain ⟨r,qz,rfl⟩:=hz z (by simp)
    obtain ⟨t,e1,e2⟩:=ih fun y hy=>hz y (List.mem_cons_of_mem _ hy)
    refine ⟨r :: t,by simp [e1],fun i r' h=>?_⟩
    match i,h with
    | 0,h=>cases h; exact ⟨_,rfl,_,_,rfl,.inl rfl⟩
    | i + 1,h=>exact e2 i r' h
  obtain ⟨t,e1,e2⟩:=all xs each
  refine ⟨t,⟨xs,⟨_,_,rfl,.inl rfl⟩,e1,e2⟩,⟨_,_,rfl⟩,fun y hy=>?_⟩
  obtain ⟨q',xs',e,hm⟩:=hy
  cases e
  obtain ⟨r,q2,rfl⟩:=each y hm
  exact ⟨_,_,rfl⟩
end Go.Proofs.YtmiknjjfgndddaaDoor
