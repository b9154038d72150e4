/- Several texts of mine in one (Gq, Am33, Sk0, Sk1, Be0). Own work. -/
import Derived.Test.YthpjgjdeogodjaaGreatDoorLdQ3
import Derived.Test.YthpjgjdeogodjaaGreatDoorGRffRfi
import Derived.Test.YthpjgjdeogodjaaGreatDoorGRf5Rf3
import Derived.Test.YthpjgjdeogodjaaGreatDoorGFmAm24
import Derived.Shelf.Spec.SlicesInsert
import Derived.Lib.AppendZerosOnto
import Derived.Laws.NewBlocks
import Derived.Test.YthpjgjdeogodjaaGreatDoorGAm23Am29
set_option linter.all false
set_option maxRecDepth 100000
namespace Go.Proofs.YthpjgjdeogodjaaGreatDoor
open Go.AM
theorem parK : ParK Tryz.prog:={ hm:=mixed,contains:=zCR,mkSet:=zEZ,trimR:=zDm,trimL:=zEA,trim:=k_strings_Trim,slPre:=zD9,pre:=zFh,slTrim:=zDn,trimP:=zFA,wrong:=k_value_Wrong,is:=k_value_Is,whole:=k_value_Whole,lit:=zIz,ref:=k_addr_Ref,dollar:=k_addr_Ref_c1,wordly:=zHo,called:=zHp,plain:=zI0,opOf:=k_formula_opOf,fail:=zET,blanks:=zDj,word:=zEX,want:=zEV,within:=zDk,text:=zEW,neg:=zEq,negc:=zDl,prim:=zEU,prim1:=zDR,prim2:=zDS,call:=zEY,argument:=zC2,two:=zEp }
theorem parK2 : ParK2 Tryz.prog:={ parK with const:=zGN,parse:=zIy,clos:=zGP,dfr:=by kernel_rfl,rcv:=by kernel_rfl }
section
variable {m : Int} {ev : Value}
theorem parG (hev : ∃ te pe,ev = .iface te pe) : ParG Tryz.prog (gtQ m ev):={ atoi:=atoi_ok,atoi2:=atoi_bad hev,texts:=rfl,loose:=rfl }
end
section
variable {GT : Nat → Option AV}
theorem g_aok (c r : Int) (H : Heap) : Go.AM.Good Tryz.prog GT zF9 [zAa c r] H (.bool (okC c r)) H:=zN mixed k_addr_ok (aok_ev c r H)
theorem g_acheck (c r : Int) (H : Heap) : Go.AM.Good Tryz.prog GT zAs [zAa c r] H (if okC c r = true then .nili else zEJ 1) H:=zN mixed k_addr_Check (acheck_ev g_aok c r H)
theorem g_nan (a : Int) (H : Heap) : Go.AM.Good Tryz.prog GT zBJ [zl a] H (.bool false) H:=zN mixed zHn (nan_ev a H)
theorem g_ccmp (a b : Int) (H : Heap) : Go.AM.Good Tryz.prog GT zAt [zl a,zl b] H (zl (cmp3 a b)) H:=zN mixed zGO (ccmp_ev g_nan a b H)
theorem g_cor (b : Nat) (x y : Int) (H : Heap) (hb : H[b]? = some (.row 1 [zl x,zl y])) : Go.AM.Good Tryz.prog GT zCe [.sl (some false) b 1 0 2] H (zl (if x ≠ 0 then x else y)) H:=zN mixed k_cmp_Or_int_ (cor_ev b x y H hb)
theorem g_acomp (c1 r1 c2 r2 : Int) (H : Heap) : Go.AM.Good Tryz.prog GT zBK [zAa c1 r1,zAa c2 r2] H (zl (cmpC c1 r1 c2 r2)) H:=zN mixed k_addr_Compare (acomp_ev g_ccmp g_cor c1 r1 c2 r2 H)
theorem g_aless (a b : Fil) (H : Heap) : Go.AM.Good Tryz.prog GT zD0 [zAa a.col a.row,zAa b.col b.row] H (.bool (zFC a b)) H:=zN mixed k_addr_Less (aless_ev g_acomp a b H)
end
section
variable {m : Int} {ev : Value} (hev : ∃ te pe,ev = .iface te pe)
abbrev GQ (m : Int) (ev : Value) : CSpec:=Go.AM.Good Tryz.prog (gtQ m ev)
include hev in
theorem g_text (s : Bs) (H : Heap) : GQ m ev zAg [.str s] H (eV (zCA s)) H:=zN mixed k_graph_Text (gtext_ev (p_const parK2) (p_parse parK2 (parG hev)) s H)
include hev in
theorem g_check (lv : AV) (l : List Fil) (H : Heap) (hv : view H 3 lv = some (l.map zd)) : GQ m ev zB0 [lv] H (eV (zBD l)) H:=zN mixed k_graph_Check (gcheck_ev g_acheck g_aless (g_text hev) lv l H hv)
end
end Go.Proofs.YthpjgjdeogodjaaGreatDoor
namespace Go.AM
section
variable {P : Program} {GT : Nat → Option AV} {w w' : World} {M : AMap} {I : Nat → Prop} {H : Heap}
theorem Sim.mut_at (hS : Sim GT w M I H) {b : Nat} {x : ABlk} (hb : H[b]? = some x) (hm : x.mut = true) {g o : Nat} (hM : M b = some (g,o)) : ∃ cur,Cells w g cur ∧ ¬ I g ∧ g < w.heap.size:=by
 have h:=hS.blk b x hb
 cases x with
 | dead=>simp [ABlk.mut] at hm
 | frz=>simp [ABlk.mut] at hm
 | box cs=>
  obtain ⟨g1,o1,cur,h1,h2,h3,_⟩:=h
  rw [hM] at h1
  cases h1
  obtain ⟨e,fz,h4,h5⟩:=h2
  exact ⟨cur,⟨e,fz,h4,h5⟩,h3,(Array.getElem?_eq_some_iff.1 h4).1⟩
 | row k xs=>
  obtain ⟨_,⟨h1,_⟩ | ⟨g1,o1,cur,h1,h2,h3,_⟩⟩:=h
  ·rw [hM] at h1; cases h1
  ·rw [hM] at h1
   cases h1
   obtain ⟨e,fz,h4,h5⟩:=h2
   exact ⟨cur,⟨e,fz,h4,fun j hj=>h5 j (Nat.lt_of_lt_of_le hj (Nat.le_add_right _ _))⟩,h3,(Array.getElem?_eq_some_iff.1 h4).1⟩
theorem row_turned (hS : Sim GT w M I H) {b : Nat} {x : ABlk} (hb : H[b]? = some x) (hm : x.mut = true) {g o : Nat} (hM : M b = some (g,o)) (hos : w'.os = w.os) (htape : w'.tape = w.tape) (hout : w'.output = w.output) (hsize : w.heap.size ≤ w'.heap.size)
  (hfr : ∀ j,j < w.heap.size → j ≠ g → w'.heap[j]? = w.heap[j]?) (hshape : ∀ s,w.shape? g = some s → w'.shape? g = some s) {y : ABlk} {G : Nat → Prop} (hG : ∀ j,G j → (j = g ∧ y.mut = false) ∨ w.heap.size ≤ j) (hGl : ∀ j,G j → j < w'.heap.size)
  (hy : BlkOK w' M (fun j=>I j ∨ G j) H.length b y) :
  Grow w M I H w' M (fun j=>I j ∨ G j) (H.set b y) ∧ Sim GT w' M (fun j=>I j ∨ G j) (H.set b y):=by
 obtain ⟨cur,hcur,hnI,hglt⟩:=hS.mut_at hb hm hM
 have hblt:=(zg hb).1
 have live : zFE H M g:=⟨b,x,o,hb,hm,hM⟩
 have shp : ∀ j s,w.shape? j = some s → w'.shape? j = some s:=fun j s hs=>by
  by_cases hj : j = g
  ·subst hj; exact hshape s hs
  ·have hlt : j < w.heap.size:=by
    rcases Nat.lt_or_ge j w.heap.size with h | h
    ·exact h
    ·simp [World.shape?,Array.getElem?_eq_none h] at hs
   rw [zAe (hfr j hlt hj)]; exact hs
 have hIh : ∀ k,I k → w'.heap[k]? = w.heap[k]?:=fun k hk=>hfr k (hS.idom k hk) (fun e=>hnI (e ▸ hk))
 have other : ∀ b' x',(H.set b y)[b']? = some x' → b' ≠ b → H[b']? = some x':=fun b' x' h hne=>by rwa [List.getElem?_set_ne (Ne.symm hne)] at h
 have at_b : (H.set b y)[b]? = some y:=List.getElem?_set_self hblt
 refine ⟨⟨hos,htape,hout,hsize,fun _ _=>rfl,fun _ h=>.inl h,fun j hj hlt=>?_,fun j hlt hn=>hfr j hlt (fun e=>hn (e ▸ live)),fun j hlt hl=>?_,shp,by rw [List.length_set]; exact Nat.le_refl _⟩, ?_⟩
 ·rcases hj with hj | hj
  ·exact .inl hj
  ·rcases hG j hj with ⟨rfl,_⟩ | h
   ·exact .inr live
   ·omega
 ·obtain ⟨b',x',o',h1,h2,h3⟩:=hl
  by_cases e : b' = b
  ·subst e
   rw [hM] at h3
   cases h3
   exact live
  ·exact ⟨b',x',o',other b' x' h1 e,h2,h3⟩
 ·refine ⟨fun q z hz=>?_,fun k hk=>?_,fun b' x' hx=>?_,fun b1 b2 x1 x2 g1 o1 o2 h1 m1 h2 m2 e1 e2=>?_,fun q z hz=>?_⟩
  ·exact (hS.glob q z hz).mono (M':=M) (n:=0) (fun _ h=>.inl h) hIh (fun _ h=>absurd h (Nat.not_lt_zero _)) (Nat.zero_le _) shp
  ·rcases hk with hk | hk
   ·exact Nat.lt_of_lt_of_le (hS.idom k hk) hsize
   ·exact hGl k hk
  ·rw [List.length_set]
   by_cases e : b' = b
   ·subst e
    rw [at_b] at hx
    cases hx
    exact hy
   ·have hx':=other b' x' hx e
    have far : ∀ g1 o1,M b' = some (g1,o1) → x'.mut = true → g1 ≠ g ∧ g1 < w.heap.size:=fun g1 o1 h1 hm1=>by
     refine ⟨fun eg=>?_,(hS.mut_at hx' hm1 h1).choose_spec.2.2⟩
     subst eg
     exact e (hS.inj b' b x' x g1 o1 o hx' hm1 hb hm h1 hM)
    refine (hS.blk b' x' hx').mono (zg hx').1 (fun _ h=>.inl h) hIh (fun _ _=>rfl) (Nat.le_refl _) shp (fun g1 o1 h1 hm1=>?_) (fun g1 o1 h1 hm1 hn=>?_)
    ·exact hfr g1 (far g1 o1 h1 hm1).2 (far g1 o1 h1 hm1).1
    ·rintro (h | h)
     ·exact hn h
     ·rcases hG g1 h with ⟨rfl,_⟩ | h'
      ·exact (far _ o1 h1 hm1).1 rfl
      ·have:=(far g1 o1 h1 hm1).2
       omega
  ·have key : ∀ {b1 b2 : Nat} {x1 x2 : ABlk} {g1 o1 o2 : Nat},(H.set b y)[b1]? = some x1 → x1.mut = true → (H.set b y)[b2]? = some x2 → x2.mut = true → M b1 = some (g1,o1) → M b2 = some (g1,o2) → b1 = b → b2 = b:=by
    intro b1 b2 x1 x2 g1 o1 o2 h1 m1 h2 m2 e1 e2 e
    subst e
    by_cases e' : b2 = b1
    ·exact e'
    ·rw [hM] at e1
     cases e1
     exact hS.inj b2 b1 x2 x g o2 o (other b2 x2 h2 e') m2 hb hm e2 hM
   by_cases c1 : b1 = b
   ·exact c1.trans (key h1 m1 h2 m2 e1 e2 c1).symm
   ·by_cases c2 : b2 = b
    ·exact absurd (key h2 m2 h1 m1 e2 e1 c2) c1
    ·exact hS.inj b1 b2 x1 x2 g1 o1 o2 (other b1 x1 h1 c1) m1 (other b2 x2 h2 c2) m2 e1 e2
  ·obtain ⟨e,h⟩:=hS.shp q z hz
   exact ⟨e,shp q _ h⟩
theorem row_gone (hS : Sim GT w M I H) {b k : Nat} {xs : List AV} (hb : H[b]? = some (.row k xs)) {g o : Nat} (hM : M b = some (g,o)) (hos : w'.os = w.os) (htape : w'.tape = w.tape) (hout : w'.output = w.output) (hsize : w.heap.size ≤ w'.heap.size)
  (hfr : ∀ j,j < w.heap.size → j ≠ g → w'.heap[j]? = w.heap[j]?) (hshape : ∀ s,w.shape? g = some s → w'.shape? g = some s) {ys : List AV} (he : Elems k ys) {g' o' cap : Nat} (hg : g' = g ∨ w.heap.size ≤ g') (hlt : g' < w'.heap.size) (hc : ys.length ≤ cap) (hm : cap ≤ maxLen)
  (hcells : ∀ i j y c,ys[i]? = some y → y.cells[j]? = some c → ∃ v,w'.cell? ⟨g',o' + i * k + j,none⟩ = some v ∧ ∀ M I n,Rel w' M I n c v) :
  ∃ M' I',Grow w M I H w' M' I' (H.set b .dead) ∧ Sim GT w' M' I' (H.set b .dead) ∧ Rel w' M' I' (H.set b .dead).length (.lst (some false) k ys) (.slice (some ⟨g',o',none⟩) ys.length cap):=by
 obtain ⟨h1,h2⟩:=row_turned (y:=.dead) (G:=fun j=>j = g') hS hb rfl hM hos htape hout hsize hfr hshape (fun j hj=>by
  rcases hg with h | h
  ·exact .inl ⟨hj.trans h,rfl⟩
  ·exact .inr tO) (fun j hj=>by omega) trivial
 refine ⟨M,_,h1,h2, ?_⟩
 exact Rel.mk_lst (by simp) hc hm (.inr rfl) he fun i j x c hx hj=>by
  obtain ⟨v,e1,e2⟩:=hcells i j x c hx hj
  exact ⟨v,e1,e2 _ _ _⟩
end
end Go.AM
namespace Go.AM
open Go Go.Lib Go.Proofs
theorem zE4 {P : Program} (w : World) (dT sT ty elem : TypeId) (size b o dLen dCap : Nat) (a : Addr) (sLen sCap : Nat) (cs : List Value)
  (hu : P.underlying dT = some (.slice elem)) (hs : (P.info? elem).map (·.size) = some size) (hn : cs.length = Nat.min sLen dLen * size)
  (hsrc : ∀ j v,cs[j]? = some v → w.cell? (a.add j) = some v) (hc : ∀ j,j < cs.length → (w.cell? ⟨b,o + j,none⟩).isSome = true) (hf : ∀ j,j < cs.length → w.frozen? ⟨b,o + j,none⟩ = false) (h1 : ∀ v ∈ cs,v.oneCell' = true) :
  (Builtin.copy_ #[dT,sT] ty #[.slice (some ⟨b,o,none⟩) dLen dCap,.slice (some a) sLen sCap]).run P w = .ok (goInt (Nat.min sLen dLen)) (w.setCells b o cs):=by
 have hl:=run_loadCells_list (P:=P) w a cs hsrc
 have hst:=run_storeCells_cells (P:=P) b o cs 0 w (by simpa using hc) (by simpa using hf) h1
 cases hq : P.info? elem with
 | none=>simp [hq] at hs
 | some i=>
  have hi : i.size = size:=by simpa [hq] using hs
  simp [Builtin.copy_,run_underlying hu,Builtin.lenOf,Builtin.firstCells,sizeOf,typeInfo,hq,hi,← hn,hl,hst]
theorem run_clear_k {P : Program} (w : World) (t e ty : TypeId) (z : Value) (zs : List Value) (ht : P.underlying t = some (.slice e)) (hv : ∀ w,(zeroValue e).run P w = .ok z w) (b o n c : Nat) (hn : 0 < n) (hz : (Builtin.zeroCells z.cells n).toList = zs) (h1 : ∀ v ∈ zs,v.oneCell' = true)
  (hc : ∀ j,j < zs.length → (w.cell? ⟨b,o + j,none⟩).isSome = true) (hf : ∀ j,j < zs.length → w.frozen? ⟨b,o + j,none⟩ = false) :
  (Builtin.clear_ #[t] ty #[.slice (some ⟨b,o,none⟩) n c]).run P w = .ok (.tuple #[]) (w.setCells b o zs):=by
 have hst:=run_storeCells_cells (P:=P) b o zs 0 w (by simpa using hc) (by simpa using hf) h1
 simp only [Nat.add_zero] at hst
 obtain ⟨m,rfl⟩ : ∃ m,n = m + 1:=⟨n - 1,by omega⟩
 simp [Builtin.clear_,run_underlying ht,hv,hz,hst]
end Go.AM
namespace Go.AM
open Go Go.Lib Go.Proofs
structure SameBut (g : Nat) (w w' : World) : Prop where
 os : w'.os = w.os
 tape : w'.tape = w.tape
 out : w'.output = w.output
 size : w.heap.size ≤ w'.heap.size
 other : ∀ j,j < w.heap.size → j ≠ g → w'.heap[j]? = w.heap[j]?
 shape : ∀ j s,w.shape? j = some s → w'.shape? j = some s
theorem SameBut.refl (g : Nat) (w : World) : SameBut g w w:=⟨rfl,rfl,rfl,Nat.le_refl _,fun _ _ _=>rfl,fun _ _ h=>h⟩
theorem SameBut.trans {g : Nat} {w w1 w2 : World} (h : SameBut g w w1) (k : SameBut g w1 w2) : SameBut g w w2:=
 ⟨k.os.trans h.os,k.tape.trans h.tape,k.out.trans h.out,Nat.le_trans h.size k.size,fun j hj hn=>(k.other j (Nat.lt_of_lt_of_le hj h.size) hn).trans (h.other j hj hn),fun j s hs=>k.shape j s (h.shape j s hs)⟩
theorem SameBut.drew {g : Nat} (w : World) : SameBut g w w.drew:=⟨rfl,rfl,rfl,Nat.le_refl _,fun _ _ _=>rfl,fun _ _ h=>h⟩
theorem SameBut.setCell (w : World) (g o : Nat) (v : Value) : SameBut g w (w.setCell ⟨g,o,none⟩ v):=by
 refine ⟨rfl,rfl,rfl,by simp [World.setCell],fun j _ hn=>?_,fun j s hs=>?_⟩
 ·simp only [World.setCell,Array.getElem?_modify]
  rw [if_neg (Ne.symm hn)]
 ·simp only [World.shape?,World.setCell,Array.getElem?_modify] at hs ⊢
  by_cases e : g = j
  ·rw [if_pos e]
   cases hq : w.heap[j]? with
   | none=>rw [hq] at hs; cases hs
   | some ob=>
    rw [hq] at hs
    cases ob <;> simp_all
  ·rw [if_neg e]; exact hs
theorem SameBut.setCells (g : Nat) : ∀ (vs : List Value) (o : Nat) (w : World),SameBut g w (w.setCells g o vs)
 | [],_,w=>SameBut.refl g w
 | v :: r,o,w=>by
  rw [World.setCells]
  exact (SameBut.setCell w g o v).trans (SameBut.setCells g r (o + 1) _)
theorem SameBut.alloc (g : Nat) (w : World) (ob : Obj) : SameBut g w (w.alloc ob):=by
 have hh : (w.alloc ob).heap = w.heap.push ob:=rfl
 refine ⟨rfl,rfl,rfl,by rw [hh]; simp,fun j hj _=>?_,fun j s hs=>?_⟩
 ·rw [hh,Array.getElem?_push]
  rw [if_neg tO]
 ·have hlt : j < w.heap.size:=by
   rcases Nat.lt_or_ge j w.heap.size with h | h
   ·exact h
   ·simp [World.shape?,Array.getElem?_eq_none h] at hs
  simp only [World.shape?] at hs ⊢
  rw [hh,Array.getElem?_push,if_neg tO]
  exact hs
theorem zFO {P : Program} {GT : Nat → Option AV} {f : FuncId} {fn : Func} {args : List AV} {H H' : Heap} {v : AV} (hf : P.funcs[f]? = some fn) (hname : (fn.name == "runtime.NumGoroutine") = false) (hb : fn.body.isSome = true) (hn : zFU args = true)
  (h : ∀ (w : World) (M : AMap) (I : Nat → Prop) (cargs : List Value),Sim GT w M I H → zBx w M I H.length args cargs → Calls P f cargs.toArray w fun e w'=>∃ v',e = .returned v' ∧ ∃ M' I',Grow w M I H w' M' I' H' ∧ Sim GT w' M' I' H' ∧ Rel w' M' I' H'.length v v') : Good P GT f args H v H':=by
 refine zEh hn ?_
 intro w M I cargs hS hA
 have h1 : fn.name ≠ "runtime.NumGoroutine" := by simpa using hname
 obtain ⟨c,hb⟩:=Option.isSome_iff_exists.1 hb
 have hrun : (callFunc f cargs.toArray).run P w = .ok (.enter f cargs.toArray) w:=by simp [callFunc,hf,h1,hb]
 rw [hrun]
 exact h w M I cargs hS hA
def zFn (f : Fil) : List Value:=[.int .i64 f.col,.int .i64 f.row,.string ⟨f.text.toArray⟩]
def zAd (l : List Fil) : List Value:=l.flatMap zFn
theorem zCB (l : List Fil) : (zAd l).length = l.length * 3:=by
 unfold zAd
 induction l with
 | nil=>rfl
 | cons f r ih=>simp only [List.flatMap_cons,List.length_append,List.length_cons,ih,zFn,List.length_nil]; omega
theorem filCs_get (l : List Fil) (i j : Nat) (f : Fil) (v : Value) (hf : l[i]? = some f) (hv : (zFn f)[j]? = some v) : (zAd l)[i * 3 + j]? = some v:=by
 unfold zAd
 induction l generalizing i with
 | nil=>simp at hf
 | cons g r ih=>
  have hj : j < 3:=by have:=(zg hv).1; simpa [zFn] using this
  cases i with
  | zero=>
   simp only [List.getElem?_cons_zero,Option.some.injEq] at hf
   subst hf
   rw [List.flatMap_cons,List.getElem?_append_left (by simp [zFn]; omega)]
   simpa using hv
  | succ i=>
   rw [List.flatMap_cons,List.getElem?_append_right (by simp [zFn]; omega)]
   have:=ih i (by simpa using hf)
   have e : (i + 1) * 3 + j - (zFn g).length = i * 3 + j:=by simp [zFn]; omega
   rw [e]; exact this
theorem filCs_split (l : List Fil) (x : Nat) (v : Value) (h : (zAd l)[x]? = some v) : ∃ f,l[x / 3]? = some f ∧ (zFn f)[x % 3]? = some v:=by
 have hx:=(zg h).1
 rw [zCB] at hx
 obtain ⟨f,hf⟩ : ∃ f,l[x / 3]? = some f:=⟨_,List.getElem?_eq_getElem tO⟩
 obtain ⟨u,hu⟩ : ∃ u,(zFn f)[x % 3]? = some u:=⟨_,List.getElem?_eq_getElem (by simp [zFn]; omega)⟩
 have:=filCs_get l (x / 3) (x % 3) f u hf hu
 rw [show x / 3 * 3 + x % 3 = x by omega,h] at this
 cases this
 exact ⟨f,hf,hu⟩
theorem zEu (l : List Fil) : ∀ v ∈ zAd l,v.oneCell' = true:=by
 intro v hv
 unfold zAd at hv
 obtain ⟨f,_,hf⟩:=List.mem_flatMap.1 hv
 simp only [zFn,List.mem_cons,List.not_mem_nil,or_false] at hf
 rcases hf with rfl | rfl | rfl <;> rfl
theorem fil_elems (l : List Fil) : Elems 3 (l.map zd):=by
 intro x hx
 obtain ⟨f,_,rfl⟩:=List.mem_map.1 hx
 rfl
theorem fil_rel {w : World} {M : AMap} {I : Nat → Prop} {n : Nat} (f : Fil) (j : Nat) (c : AV) (v : Value) (hc : (zd f).cells[j]? = some c) (hv : (zFn f)[j]? = some v) : Rel w M I n c v:=by
 match j,hc,hv with
 | 0,hc,hv=>cases hc; cases hv; exact .int _ _
 | 1,hc,hv=>cases hc; cases hv; exact .int _ _
 | 2,hc,hv=>cases hc; cases hv; exact .str _
 | j + 3,hc,hv=>simp [zFn] at hv
theorem rel_fil {w : World} {M : AMap} {I : Nat → Prop} {n : Nat} (f : Fil) (j : Nat) (c : AV) (v : Value) (hc : (zd f).cells[j]? = some c) (h : Rel w M I n c v) : (zFn f)[j]? = some v:=by
 match j,hc with
 | 0,hc=>cases hc; cases h; rfl
 | 1,hc=>cases hc; cases h; rfl
 | 2,hc=>cases hc; cases h; rfl
 | j + 3,hc=>simp [zd,AV.cells] at hc
theorem row_fils {GT : Nat → Option AV} {w : World} {M : AMap} {I : Nat → Prop} {H : Heap} (hS : Sim GT w M I H) {b : Nat} {l : List Fil} (hb : H[b]? = some (.row 3 (l.map zd))) (hl : l ≠ []) :
  ∃ g o e sz,M b = some (g,o) ∧ g < w.heap.size ∧ w.shape? g = some (e,sz) ∧ o + l.length * 3 ≤ sz ∧ (∀ j v,(zAd l)[j]? = some v → w.cell? ⟨g,o + j,none⟩ = some v) ∧ (∀ j,j < sz → (w.cell? ⟨g,j,none⟩).isSome = true) ∧ (∀ j,j ≤ sz → w.frozen? ⟨g,j,none⟩ = false):=by
 obtain ⟨_,⟨_,h⟩ | ⟨g,o,cur,hM,⟨e,fz,h1,h2⟩,_,hfit,hc⟩⟩:=hS.blk b _ hb
 ·exact absurd (List.map_eq_nil_iff.1 h) hl
 ·rw [List.length_map] at hfit
  refine ⟨g,o,e,cur.size,hM,(Array.getElem?_eq_some_iff.1 h1).1,by simp [World.shape?,h1],hfit,fun j v hj=>?_,fun j hj=>?_,fun j hj=>?_⟩
  ·obtain ⟨f,hf,hv⟩:=filCs_split l j v hj
   have hjl : j % 3 < 3:=Nat.mod_lt _ tO
   obtain ⟨c,hcc⟩ : ∃ c,(zd f).cells[j % 3]? = some c:=⟨_,List.getElem?_eq_getElem (by simpa [zd,AV.cells] using hjl)⟩
   obtain ⟨u,hu,hr⟩:=hc (j / 3) (j % 3) (zd f) c (by rw [List.getElem?_map,hf]; rfl) hcc
   have:=rel_fil f (j % 3) c u hcc hr
   rw [hv] at this
   cases this
   have e2 : o + j / 3 * 3 + j % 3 = o + j:=by omega
   rw [e2] at hu
   simp only [World.cell?,h1]
   simpa using hu
  ·simp only [World.cell?,h1]
   simpa using hj
  ·simp only [World.frozen?,h1]
   have:=h2 j tO
   simpa using this
theorem zGY (a b : List Fil) : zAd (a ++ b) = zAd a ++ zAd b:=by unfold zAd; exact List.flatMap_append
theorem zE5 (l : List Fil) (i : Nat) (hi : i ≤ l.length) : zAd (l.take i) = (zAd l).take (i * 3):=by
 have h:=zGY (l.take i) (l.drop i)
 rw [List.take_append_drop] at h
 rw [h,List.take_left' (by rw [zCB,List.length_take]; congr 1; omega)]
theorem filCs_drop (l : List Fil) (i : Nat) (hi : i ≤ l.length) : zAd (l.drop i) = (zAd l).drop (i * 3):=by
 have h:=zGY (l.take i) (l.drop i)
 rw [List.take_append_drop] at h
 rw [h,List.drop_left' (by rw [zCB,List.length_take]; congr 1; omega)]
theorem zEv {GT : Nat → Option AV} {w w' : World} {M : AMap} {I : Nat → Prop} {H : Heap} (hS : Sim GT w M I H) {b k : Nat} {xs : List Fil} (hb : H[b]? = some (.row 3 (xs.map zd))) {g o : Nat} (hM : M b = some (g,o)) (hs : SameBut g w w') {ys : List Fil} {g' o' cap : Nat} (hg : g' = g ∨ w.heap.size ≤ g') (hlt : g' < w'.heap.size)
  (hc : ys.length ≤ cap) (hm : cap ≤ maxLen) (hcells : ∀ x v,(zAd ys)[x]? = some v → w'.cell? ⟨g',o' + x,none⟩ = some v) :
  ∃ M' I',Grow w M I H w' M' I' (H.set b .dead) ∧ Sim GT w' M' I' (H.set b .dead) ∧ Rel w' M' I' (H.set b .dead).length (.lst (some false) 3 (ys.map zd)) (.slice (some ⟨g',o',none⟩) ys.length cap):=by
 have h:=row_gone (ys:=ys.map zd) hS hb hM hs.os hs.tape hs.out hs.size hs.other (fun s h=>hs.shape g s h) (fil_elems ys) hg hlt (by rw [List.length_map]; exact hc) hm (o':=o') fun i j y c hy hc=>by
  rw [List.getElem?_map] at hy
  obtain ⟨f,hf,rfl⟩:=Option.map_eq_some_iff.1 hy
  have hj : j < 3:=by have:=(zg hc).1; simpa [zd,AV.cells] using this
  obtain ⟨v,hv⟩ : ∃ v,(zFn f)[j]? = some v:=⟨_,List.getElem?_eq_getElem (by simp [zFn]; omega)⟩
  refine ⟨v, ?_,fun M I n=>fil_rel f j c v hc hv⟩
  have:=hcells (i * 3 + j) v (filCs_get ys i j f v hf hv)
  rw [← Nat.add_assoc] at this
  exact this
 rw [List.length_map] at h
 exact h
end Go.AM
set_option maxRecDepth 20000
namespace Go.AM
def sumN (s : Nat) : Bs → Nat
 | []=>s
 | c :: r=>sumN ((s * 257 + c.toNat) % 65521) r
theorem sumN_lt (l : Bs) : ∀ s,s < 65521 → sumN s l < 65521:=by
 induction l with
 | nil=>exact fun s h=>h
 | cons c r ih=>exact fun s _=>ih _ (Nat.mod_lt _ (by decide))
theorem sumN_drop (l : Bs) (i : Nat) (c : UInt8) (h : l[i]? = some c) (s : Nat) : sumN s (l.drop i) = sumN ((s * 257 + c.toNat) % 65521) (l.drop (i + 1)):=by
 have hi:=(zg h).1
 rw [List.drop_eq_getElem_cons hi,(zg h).2]
 rfl
def u8N (n : Nat) : UInt8:=UInt8.ofNat n
def zH7 (f : Fil) : Bs:=[u8N f.col.toNat,u8N f.row.toNat,u8N f.text.length] ++ f.text
def zGc (f : Fil) : Bs:=zH7 f ++ [u8N (sumN 1 (zH7 f) % 256),u8N (sumN 1 (zH7 f) / 256)]
def zW : List Fil → Bs
 | []=>[]
 | f :: r=>zGc f ++ zW r
def okF (f : Fil) : Prop:=(1 ≤ f.col ∧ f.col ≤ 26) ∧ (1 ≤ f.row ∧ f.row ≤ 99) ∧ f.text.length ≤ 200
theorem okC_iff (c r : Int) : okC c r = true ↔ (1 ≤ c ∧ c ≤ 26) ∧ (1 ≤ r ∧ r ≤ 99):=by
 unfold okC
 simp only [Bool.and_eq_true,decide_eq_true_eq]
 constructor
 ·rintro ⟨⟨⟨h1,h2⟩,h3⟩,h4⟩; exact ⟨⟨h1,h2⟩,h3,h4⟩
 ·rintro ⟨⟨h1,h2⟩,h3,h4⟩; exact ⟨⟨⟨h1,h2⟩,h3⟩,h4⟩
theorem textN_len {s : Bs} (h : zCA s = 0) : s.length ≤ 200:=by
 unfold zCA at h
 by_cases hl : 200 < s.length
 ·rw [if_pos hl] at h; cases h
 ·omega
def mayN (f : Fil) : Nat:=if okC f.col f.row = true then zCA f.text else 1
theorem okF_of {f : Fil} (h1 : okC f.col f.row = true) (h2 : zCA f.text = 0) : okF f:=⟨((okC_iff _ _).1 h1).1,((okC_iff _ _).1 h1).2,textN_len h2⟩
theorem filsN_ok : ∀ (l : List Fil) (prev : Option Fil),zFD prev l = 0 → ∀ f ∈ l,okF f:=by
 intro l
 induction l with
 | nil=>intro _ _ f h; cases h
 | cons g r ih=>
  intro prev h f hf
  unfold zFD at h
  by_cases h0 : filN prev g = 0
  ·rw [if_pos h0] at h
   rcases List.mem_cons.1 hf with rfl | hf
   ·unfold filN at h0
    by_cases h1 : okC f.col f.row = false
    ·rw [if_pos h1] at h0; cases h0
    ·rw [if_neg h1] at h0
     have h1 : okC f.col f.row = true:=by simpa using h1
     have h2 : zCA f.text = 0:=by
      by_cases he : f.text = []
      ·rw [he]; rfl
      ·cases prev with
       | none=>
        have h0 : (if f.text = [] then 3 else zCA f.text) = 0:=h0
        rwa [if_neg he] at h0
       | some p=>
        have h0 : (if zFC p f = false then 5 else if f.text = [] then 3 else zCA f.text) = 0:=h0
        cases hp : zFC p f with
        | true=>rw [hp,if_neg (by simp),if_neg he] at h0; exact h0
        | false=>rw [hp,if_pos rfl] at h0; cases h0
     exact okF_of h1 h2
   ·exact ih _ h f hf
  ·rw [if_neg h0] at h; exact absurd h h0
theorem zJH {l : List Fil} (h : zBD l = 0) : l.length ≤ 200 ∧ ∀ f ∈ l,okF f:=by
 unfold zBD at h
 by_cases hl : 200 < l.length
 ·rw [if_pos hl] at h; cases h
 ·rw [if_neg hl] at h
  exact ⟨by omega,filsN_ok l none h⟩
theorem zCh (f : Fil) : (zGc f).length = f.text.length + 5:=by simp [zGc,zH7]
theorem entsB_take (l : List Fil) (i : Nat) (f : Fil) (h : l[i]? = some f) : zW (l.take (i + 1)) = zW (l.take i) ++ zGc f:=by
 have hi:=(zg h).1
 have e : ∀ a b,zW (a ++ b) = zW a ++ zW b:=by
  intro a b
  induction a with
  | nil=>rfl
  | cons x r ih=>simp only [List.cons_append,zW,ih,List.append_assoc]
 rw [List.take_succ,h,e]
 simp [zW]
theorem zJI (n : Nat) (h : n < 256) : zO (u8N n) = .int .u8 n:=by
 unfold zO u8N
 rw [UInt8.toNat_ofNat',Nat.mod_eq_of_lt tO]
theorem zH8 (l : List Fil) (h : ∀ f ∈ l,okF f) : (zW l).length ≤ 205 * l.length:=by
 induction l with
 | nil=>simp [zW]
 | cons f r ih=>
  have:=ih fun g hg=>h g (List.mem_cons_of_mem _ hg)
  have:=(h f (List.mem_cons_self ..)).2.2
  simp only [zW,List.length_append,zCh,List.length_cons]
  omega
end Go.AM
