/- Several texts of mine in one (Am33, Sk0, Skg, Fcb, Cw2). Own work. -/
import Derived.Test.YtmiknjjfgndddaaDoorGToldQAm24
import Derived.Shelf.Spec.SlicesInsert
import Derived.Lib.AppendZerosOnto
import Derived.Laws.NewBlocks
import Derived.Test.YtmiknjjfgndddaaDoorGAm22Fc
import Derived.Test.YtmiknjjfgndddaaDoorGItQFnp
import Derived.Test.YtmiknjjfgndddaaDoorGFp1Cw1
import Derived.Shelf.Strings.Replace
import Derived.Shelf.Strings.Builder1
import Derived.KernelRfl
set_option linter.all false
namespace Go.AM
section
variable {P : Program} {GT : Nat → Option AV} {w w' : World} {M : AMap} {I : Nat → Prop} {H : Heap}
theorem Sim.mut_at (hS : Sim GT w M I H) {b : Nat} {x : ABlk} (hb : H[b]? = some x) (hm : x.mut = true) {g o : Nat} (hM : M b = some (g,o)) : ∃ _cur : Array Value,True ∧ ¬ I g ∧ g < w.heap.size:=by
 have h:=hS.blk b x hb
 cases x with
 | dead=>simp [ABlk.mut] at hm
 | shp=>simp [ABlk.mut] at hm
 | ty=>simp [ABlk.mut] at hm
 | hd=>simp [ABlk.mut] at hm
 | frz=>simp [ABlk.mut] at hm
 | box cs=>
  obtain ⟨g1,o1,cur,h1,h2,h3,_⟩:=h
  rw [hM] at h1
  cases h1
  obtain ⟨e,fz,h4,h5⟩:=h2
  exact ⟨cur,trivial,h3,(Array.getElem?_eq_some_iff.1 h4).1⟩
 | mp ks vs=>
  obtain ⟨g1,es,cl,h1,h2,h3,_⟩:=h
  rw [hM] at h1
  simp only [Option.some.injEq,Prod.mk.injEq] at h1
  obtain ⟨rfl,_⟩:=h1
  exact ⟨#[],trivial,h3,(Array.getElem?_eq_some_iff.1 h2).1⟩
 | row k xs=>
  obtain ⟨_,⟨h1,_⟩ | ⟨g1,o1,cur,h1,h2,h3,_⟩⟩:=h
  ·rw [hM] at h1; cases h1
  ·rw [hM] at h1
   cases h1
   obtain ⟨e,fz,h4,h5⟩:=h2
   exact ⟨cur,trivial,h3,(Array.getElem?_eq_some_iff.1 h4).1⟩
theorem zHO (hS : Sim GT w M I H) {b : Nat} {x : ABlk} (hb : H[b]? = some x) (hm : x.mut = true) {g o : Nat} (hM : M b = some (g,o)) (hos : w'.os = w.os) (htape : w'.tape = w.tape) (hout : w'.output = w.output) (hsize : w.heap.size ≤ w'.heap.size)
  (hfr : ∀ j,j < w.heap.size → j ≠ g → w'.heap[j]? = w.heap[j]?) (hshape : ∀ s,w.shape? g = some s → w'.shape? g = some s) {y : ABlk} {G : Nat → Prop} (hG : ∀ j,G j → (j = g ∧ y.mut = false) ∨ w.heap.size ≤ j) (hGl : ∀ j,G j → j < w'.heap.size)
  (hy : zCm w' M (fun j=>I j ∨ G j) H.length b y) :
  Grow w M I H w' M (fun j=>I j ∨ G j) (H.set b y) ∧ Sim GT w' M (fun j=>I j ∨ G j) (H.set b y):=by
 obtain ⟨cur,hcur,hnI,hglt⟩:=hS.mut_at hb hm hM
 have hblt:=(zg hb).1
 have live : zA3 H M g:=⟨b,x,o,hb,hm,hM⟩
 have shp : ∀ j s,w.shape? j = some s → w'.shape? j = some s:=fun j s hs=>by
  by_cases hj : j = g
  ·subst hj; exact hshape s hs
  ·have hlt : j < w.heap.size:=by
    rcases Nat.lt_or_ge j w.heap.size with h | h
    ·exact h
    ·simp [World.shape?,Array.getElem?_eq_none h] at hs
   rw [zL (hfr j hlt hj)]; exact hs
 have hIh : ∀ k,I k → w'.heap[k]? = w.heap[k]?:=fun k hk=>hfr k (hS.idom k hk) (fun e=>hnI (e ▸ hk))
 have other : ∀ b' x',(H.set b y)[b']? = some x' → b' ≠ b → H[b']? = some x':=fun b' x' h hne=>by rwa [List.getElem?_set_ne (Ne.symm hne)] at h
 have at_b : (H.set b y)[b]? = some y:=List.getElem?_set_self hblt
 refine ⟨⟨hos,htape,hout,hsize,fun _ _=>rfl,fun _ h=>.inl h,fun j hj hlt=>?_,fun j hlt hn=>hfr j hlt (fun e=>hn (e ▸ live)),fun j hlt hl=>?_,shp,by rw [List.length_set]; exact Nat.le_refl _⟩, ?_⟩
 ·rcases hj with hj | hj
  ·exact .inl hj
  ·rcases hG j hj with ⟨rfl,_⟩ | h
   ·exact .inr live
   ·omega
 ·obtain ⟨b',x',o',h1,h2,h3⟩:=hl
  by_cases e : b' = b
  ·subst e
   rw [hM] at h3
   cases h3
   exact live
  ·exact ⟨b',x',o',other b' x' h1 e,h2,h3⟩
 ·refine ⟨fun q z hz=>?_,fun k hk=>?_,fun b' x' hx=>?_,fun b1 b2 x1 x2 g1 o1 o2 h1 m1 h2 m2 e1 e2=>?_,fun q z hz=>?_⟩
  ·exact (hS.glob q z hz).mono (M':=M) (n:=0) (fun _ h=>.inl h) hIh (fun _ h=>absurd h (Nat.not_lt_zero _)) (Nat.zero_le _) shp
  ·rcases hk with hk | hk
   ·exact Nat.lt_of_lt_of_le (hS.idom k hk) hsize
   ·exact hGl k hk
  ·rw [List.length_set]
   by_cases e : b' = b
   ·subst e
    rw [at_b] at hx
    cases hx
    exact hy
   ·have hx':=other b' x' hx e
    have far : ∀ g1 o1,M b' = some (g1,o1) → x'.mut = true → g1 ≠ g ∧ g1 < w.heap.size:=fun g1 o1 h1 hm1=>by
     refine ⟨fun eg=>?_,(hS.mut_at hx' hm1 h1).choose_spec.2.2⟩
     subst eg
     exact e (hS.inj b' b x' x g1 o1 o hx' hm1 hb hm h1 hM)
    refine (hS.blk b' x' hx').mono (zg hx').1 (fun _ h=>.inl h) hIh (fun _ _=>rfl) (Nat.le_refl _) shp (fun g1 o1 h1 hm1=>?_) (fun g1 o1 h1 hm1 hn=>?_)
    ·exact hfr g1 (far g1 o1 h1 hm1).2 (far g1 o1 h1 hm1).1
    ·rintro (h | h)
     ·exact hn h
     ·rcases hG g1 h with ⟨rfl,_⟩ | h'
      ·exact (far _ o1 h1 hm1).1 rfl
      ·have:=(far g1 o1 h1 hm1).2
       omega
  ·have key : ∀ {b1 b2 : Nat} {x1 x2 : ABlk} {g1 o1 o2 : Nat},(H.set b y)[b1]? = some x1 → x1.mut = true → (H.set b y)[b2]? = some x2 → x2.mut = true → M b1 = some (g1,o1) → M b2 = some (g1,o2) → b1 = b → b2 = b:=by
    intro b1 b2 x1 x2 g1 o1 o2 h1 m1 h2 m2 e1 e2 e
    subst e
    by_cases e' : b2 = b1
    ·exact e'
    ·rw [hM] at e1
     cases e1
     exact hS.inj b2 b1 x2 x g o2 o (other b2 x2 h2 e') m2 hb hm e2 hM
   by_cases c1 : b1 = b
   ·exact c1.trans (key h1 m1 h2 m2 e1 e2 c1).symm
   ·by_cases c2 : b2 = b
    ·exact absurd (key h2 m2 h1 m1 e2 e1 c2) c1
    ·exact hS.inj b1 b2 x1 x2 g1 o1 o2 (other b1 x1 h1 c1) m1 (other b2 x2 h2 c2) m2 e1 e2
  ·obtain ⟨e,h⟩:=hS.shp q z hz
   exact ⟨e,shp q _ h⟩
end
end Go.AM
namespace Go.AM
open Go Go.Lib Go.Proofs
end Go.AM
namespace Go.AM
section
theorem zBW {P : Program} {GT : Nat → Option AV} {f : FuncId} {fn : Func} {args : List AV} {H H' : Heap} {v : AV} (hf : P.funcs[f]? = some fn) (hname : (fn.name == "runtime.NumGoroutine") = false) (hb : fn.body.isSome = true) (hn : zCX args = true)
  (h : ∀ (w : World) (M : AMap) (I : Nat → Prop) (cargs : List Value),Sim GT w M I H → zx w M I H.length args cargs → Calls P f cargs.toArray w fun e w'=>∃ v',e = .returned v' ∧ ∃ M' I',Grow w M I H w' M' I' H' ∧ Sim GT w' M' I' H' ∧ Rel w' M' I' H'.length v v') : Good P GT f args H v H':=by
 refine zC2 hn ?_
 intro w M I cargs hS hA
 have h1 : fn.name ≠ "runtime.NumGoroutine" := by simpa using hname
 obtain ⟨c,hb⟩:=Option.isSome_iff_exists.1 hb
 have hrun : (callFunc f cargs.toArray).run P w = .ok (.enter f cargs.toArray) w:=by simp [callFunc,hf,h1,hb]
 rw [hrun]
 exact h w M I cargs hS hA
end
end Go.AM
set_option maxRecDepth 100000
namespace Go.Proofs
open Go.Shelf Go.RowKit Go.AM
theorem Tryd.check_number : Tryd.ownReplace_ren.f 240 = zI:=by kernel_rfl
theorem Tryd.text_number : Tryd.ownReplace_ren.f 169 = zK:=by kernel_rfl
theorem Tryd.replace_number : Tryd.ownReplace_ren.f 155 = zb:=by kernel_rfl
theorem Tryd.any_number : Tryd.ownAny_ren.f 150 = zi:=by kernel_rfl
theorem Tryd.max_number : Tryd.ownReplace_ren.g 1 = 1:=by kernel_rfl
theorem Tryd.extraReplace : Builder.Extra Tryd.prog Tryd.ownReplace_ren:={
 sizeBuilder:=by kernel_rfl
 liesBuilder:=by kernel_rfl
 t5:=Tryd.ownReplace.t5
 a5:=Tryd.ownReplace.a5
 z5:=Tryd.ownReplace.z5
 v5:=Tryd.ownReplace.v5
 infoByte:=by kernel_rfl
 cellsByte:=by kernel_rfl
 sizeByte:=by kernel_rfl
 neB5:=by decide }
section
variable {GT : Nat → Option AV}
set_option maxHeartbeats 1000000 in
theorem zJf {P : Program} {ρ : Ren} (L : Lays.n169 P ρ) (X : Builder.Extra P ρ) (b g cap cells : Nat) (l : List UInt8) (h0 : l ≠ []) (w : World) (hc1 : w.cell? ⟨b,1,none⟩ = some (.slice (some ⟨g,0,none⟩) l.length cap)) (hsh : w.shape? g = some (ρ.t 5,cells)) (hle : l.length ≤ cells) (hcap : l.length ≤ cap) (hm : l.length ≤ 9223372036854775807)
  (hcell : ∀ (j : Nat) x,l[j]? = some x → w.cell? ⟨g,j,none⟩ = some (.int .u8 x.toNat)) :
  Calls P (ρ.f 169) #[.pointer (some ⟨b,0,none⟩)] w fun e w'=>e = .returned (.string ⟨l.toArray⟩) ∧ w' = w.drew.freeze ⟨g,0,none⟩ l.length:=by
 have hl0 : l.length ≠ 0:=by simpa using h0
 have c1 : w.drew.cell? ⟨b,1,none⟩ = some (.slice (some ⟨g,0,none⟩) l.length cap):=hc1
 have hSD : (Builtin.unsafeSliceData_ #[(ρ.t 37)] (ρ.t 127) #[.slice (some ⟨g,0,none⟩) l.length cap]).run P w.drew = .ok (.pointer (some ⟨g,0,none⟩)) w.drew:=
  Lib.run_unsafeSliceData_row _ _ _ _ _ _ tO
 have hUS : (Builtin.unsafeString_ #[(ρ.t 127),(ρ.t 3)] (ρ.t 9) #[.pointer (some ⟨g,0,none⟩),.int .i64 l.length]).run P w.drew = .ok (.string ⟨l.toArray⟩) (w.drew.freeze ⟨g,0,none⟩ l.length):=by
  refine Lib.run_unsafeString_row w.drew (ρ.t 127) (ρ.t 3) (ρ.t 9) (ρ.t 5) L.t127 X.cellsByte g cells hsh l h0 hle hm ?_
  intro j x hx
  rw [Addr.add_lit,Nat.zero_add]
  exact hcell j x hx
 have mixed:=L.mixed
 have t72:=L.t72; have a72:=L.a72; have z72:=L.z72; have v72:=L.v72; have u72:=run_underlying L.t72
 have t70:=L.t70; have a70:=L.a70; have z70:=L.z70; have v70:=L.v70; have u70:=run_underlying L.t70
 have t37:=L.t37; have a37:=L.a37; have z37:=L.z37; have v37:=L.v37; have u37:=run_underlying L.t37
 have t127:=L.t127; have a127:=L.a127; have z127:=L.z127; have v127:=L.v127; have u127:=run_underlying L.t127
 have t3:=L.t3; have a3:=L.a3; have z3:=L.z3; have v3:=L.v3; have u3:=run_underlying L.t3
 have t9:=L.t9; have a9:=L.a9; have z9:=L.z9; have v9:=L.v9; have u9:=run_underlying L.t9
 have t5:=X.t5; have a5:=X.a5; have z5:=X.z5; have v5:=X.v5; have u5:=run_underlying X.t5
 go_enter L.f169,Body.n169_ntmps ρ
 go_wp2
 go_region_o
 all_goals (go_wp2; go_ret; exact ⟨rfl,rfl⟩)
theorem zFV {w : World} {g o : Nat} {v : Value} {cur : Array Value} {e : TypeId} {fz : Nat × Nat} (h : w.heap[g]? = some (.cells cur e fz)) : (w.setCell ⟨g,o,none⟩ v).heap = w.heap.setIfInBounds g (.cells (cur.setIfInBounds o v) e fz):=by
 apply Array.ext_getElem?
 intro i
 simp only [World.setCell,Array.getElem?_modify,Array.getElem?_setIfInBounds]
 by_cases hi : g = i
 ·subst hi
  have hlt:=(Array.getElem?_eq_some_iff.1 h).1
  rw [if_pos rfl,if_pos rfl,if_pos hlt,h]
  obtain ⟨lo,hi⟩:=fz
  rfl
 ·rw [if_neg hi,if_neg hi]
theorem zHP (b : Nat) (a v : AV) (H : Heap) (hb : H[b]? = some (.box [a,v])) (hs : H[b + 1]? = some (.shp b zA 2)) (ha : a = .ref b 0 0 0 ∨ a = .nilp) :
  Go.AM.Good Tryd.prog GT zI [bR b] H (.tup []) (H.set b (.box [.ref b 0 0 0,v])):=by
 refine zBW Tryd.func18 (by kernel_rfl) (by kernel_rfl) rfl fun w M I cargs hS hA=>?_
 obtain ⟨p,rfl,hp⟩:=zEO hA
 obtain ⟨_,g,hM,hsh⟩:=hS.blk _ _ hs
 obtain ⟨g',o,cur,hM',hC,hI,hsz,hv⟩:=hS.blk _ _ hb
 rw [hM] at hM'
 simp only [Option.some.injEq,Prod.mk.injEq] at hM'
 obtain ⟨rfl,rfl⟩:=hM'
 have hbl:=(zg hb).1
 have hp' : p = .pointer (some ⟨g,0,none⟩):=by
  cases hp with
  | ref _ _ _ _ g1 o1 _ hM1=>
   rw [hM] at hM1
   simp only [Option.some.injEq,Prod.mk.injEq] at hM1
   obtain ⟨rfl,rfl⟩:=hM1
   rfl
 subst hp'
 obtain ⟨c0,h0,r0⟩:=hv 0 a rfl
 obtain ⟨c1,h1,r1⟩:=hv 1 v rfl
 obtain ⟨e,fz,hg,hfz⟩:=hC
 have hcell : w.cell? ⟨g,0,none⟩ = some c0:=by
  simp only [World.cell?,hg]
  exact h0
 rcases ha with rfl | rfl
 ·have hc0 : c0 = .pointer (some ⟨g,0,none⟩):=by
   cases r0 with
   | ref _ _ _ _ g1 o1 _ hM1=>
    rw [hM] at hM1
    simp only [Option.some.injEq,Prod.mk.injEq] at hM1
    obtain ⟨rfl,rfl⟩:=hM1
    rfl
  subst hc0
  have h:=Any.Builder_copyCheck_used { Tryd.ownReplace with } Tryd.extraReplace.toX72 g w hcell
  rw [Tryd.check_number] at h
  rw [zJb hb]
  refine h.mono ?_
  rintro e' w' ⟨he,rfl⟩
  exact ⟨_,he,M,I,Grow.refl ..,hS,.tup [] [] rfl (fun i c v h=>by simp at h)⟩
 ·have hc0 : c0 = .pointer none:=by cases r0; rfl
  subst hc0
  have hfrz : w.frozen? ⟨g,0,none⟩ = false:=by
   obtain ⟨lo,hi⟩:=fz
   simp only [World.frozen?,hg]
   have:=hfz 0 (by simp at hsz; omega)
   simp only [Bool.and_eq_false_iff,decide_eq_false_iff_not]
   by_cases h : lo ≤ 0
   ·right; intro h2; exact this ⟨h,h2⟩
   ·left; exact h
  have h:=Any.Builder_copyCheck_fresh { Tryd.ownReplace with } Tryd.extraReplace.toX72 g w hcell hsh hfrz
  rw [Tryd.check_number] at h
  refine h.mono ?_
  rintro e' w' ⟨he,rfl⟩
  have hh:=zFV (o:=0) (v:=.pointer (some ⟨g,0,none⟩)) hg
  have hsz2 : (cur.setIfInBounds 0 (.pointer (some ⟨g,0,none⟩))).size = cur.size:=by simp
  have hlt:=(Array.getElem?_eq_some_iff.1 hg).1
  have hg2 : (w.setCell ⟨g,0,none⟩ (.pointer (some ⟨g,0,none⟩))).heap[g]? = some (.cells (cur.setIfInBounds 0 (.pointer (some ⟨g,0,none⟩))) e fz):=by
   rw [hh,Array.getElem?_setIfInBounds,if_pos rfl,if_pos hlt]
  have hW:=Sim.write (w':=w.setCell ⟨g,0,none⟩ (.pointer (some ⟨g,0,none⟩))) (y:=.dead) hS hb rfl hM hg hsz2 hh rfl rfl rfl trivial
  have R : ∀ {c v},Rel w M I H.length c v → Rel (w.setCell ⟨g,0,none⟩ (.pointer (some ⟨g,0,none⟩))) M I H.length c v:=fun h=>by have:=hW.1.rel hS h; simpa using this
  simp only [List.length_cons,List.length_nil] at hsz
  obtain ⟨G,S⟩:=Sim.write (w':=w.setCell ⟨g,0,none⟩ (.pointer (some ⟨g,0,none⟩))) (y:=.box [.ref b 0 0 0,v]) hS hb rfl hM hg hsz2 hh rfl rfl rfl ⟨g,0,_,hM,⟨e,fz,hg2,by rw [hsz2]; exact hfz⟩,hI,by rw [hsz2]; exact hsz,fun j c hj=>by
   match j,hj with
   | 0,hj=>
    simp only [List.getElem?_cons_zero,Option.some.injEq] at hj
    subst hj
    exact ⟨.pointer (some ⟨g,0,none⟩),by rw [Array.getElem?_setIfInBounds,if_pos rfl,if_pos tO],.ref b 0 0 0 g 0 hbl hM⟩
   | 1,hj=>
    simp only [List.getElem?_cons_succ,List.getElem?_cons_zero,Option.some.injEq] at hj
    subst hj
    exact ⟨c1,by rw [Array.getElem?_setIfInBounds,if_neg tO]; exact h1,R r1⟩
   | j + 2,hj=>simp at hj⟩
  exact ⟨_,he,M,I,G,S,.tup [] [] rfl (fun i c v h=>by simp at h)⟩
theorem zIp : Tryd.ownReplace_ren.t 5 = zq:=by kernel_rfl
theorem zF5 {w : World} {g n : Nat} {cur : Array Value} {e : TypeId} {lo hi : Nat} (hn : n ≠ 0) (h : w.heap[g]? = some (.cells cur e (lo,hi))) : ∃ hi',n ≤ hi' ∧ (w.drew.freeze ⟨g,0,none⟩ n).heap = w.heap.setIfInBounds g (.cells cur e (0,hi')) ∧ (lo = 0 → n ≤ hi → hi' = hi):=by
 have hlt:=(Array.getElem?_eq_some_iff.1 h).1
 have key : ∀ fz' : Nat × Nat,(if (lo == hi) = true then ((0 : Nat),0 + n) else (min lo 0,max hi (0 + n))) = fz' → (w.drew.freeze ⟨g,0,none⟩ n).heap = w.heap.setIfInBounds g (.cells cur e fz'):=fun fz' hf=>by
  have hd : w.drew.heap = w.heap:=rfl
  unfold World.freeze
  rw [if_neg hn]
  apply Array.ext_getElem?
  intro i
  simp only [hd,Array.getElem?_modify,Array.getElem?_setIfInBounds]
  by_cases hi' : g = i
  ·subst hi'
   rw [if_pos rfl,if_pos rfl,if_pos hlt,h]
   simp only [Option.map_some,hf]
  ·rw [if_neg hi',if_neg hi']
 by_cases hh : (lo == hi) = true
 ·refine ⟨n,Nat.le_refl _,key (0,n) (by rw [if_pos hh,Nat.zero_add]),fun h1 h2=>?_⟩
  have:=beq_iff_eq.1 hh
  omega
 ·exact ⟨max hi n,Nat.le_max_right _ _,key (0,max hi n) (by rw [if_neg hh,Nat.zero_add,Nat.min_zero]),fun _ h2=>Nat.max_eq_left h2⟩
theorem zHQ {w : World} {M : AMap} {I : Nat → Prop} {H : Heap} {GT : Nat → Option AV} (hS : Sim GT w M I H) {b d n : Nat} {a : AV} {p : Value} (hb : H[b]? = some (.box [a,.sl (some true) d 1 0 n])) (hs : H[b + 1]? = some (.shp b zA 2)) (hn : n ≠ 0) (hp : Rel w M I H.length (bR b) p) {gd : Nat} (hd : M d = some (gd,0)) :
  ∃ g cap sz e,p = .pointer (some ⟨g,0,none⟩) ∧ w.cell? ⟨g,1,none⟩ = some (.slice (some ⟨gd,0,none⟩) n cap) ∧ w.shape? gd = some (e,sz) ∧ n ≤ sz ∧ n ≤ cap ∧ n ≤ maxLen:=by
 obtain ⟨_,g,hM,hsh⟩:=hS.blk _ _ hs
 obtain ⟨g',o,cur,hM',hC,hI,hsz,hv⟩:=hS.blk _ _ hb
 rw [hM] at hM'
 simp only [Option.some.injEq,Prod.mk.injEq] at hM'
 obtain ⟨rfl,rfl⟩:=hM'
 have hp' : p = .pointer (some ⟨g,0,none⟩):=by
  cases hp with
  | ref _ _ _ _ g1 o1 _ hM1=>
   rw [hM] at hM1
   simp only [Option.some.injEq,Prod.mk.injEq] at hM1
   obtain ⟨rfl,rfl⟩:=hM1
   rfl
 obtain ⟨c1,h1,r1⟩:=hv 1 _ rfl
 obtain ⟨e,fz,hg,hfz⟩:=hC
 have hcell : w.cell? ⟨g,1,none⟩ = some c1:=by
  simp only [World.cell?,hg]
  exact h1
 cases r1 with
 | sln=>exact absurd rfl hn
 | sl _ _ _ _ _ g2 o2 p2 cap hbn hM2 hc hm hq ha=>
  rw [hd] at hM2
  simp only [Option.some.injEq,Prod.mk.injEq] at hM2
  obtain ⟨rfl,rfl⟩:=hM2
  obtain ⟨rfl,e2,sz,hsh2,hsz2⟩:=ha tO
  exact ⟨g,cap,sz,e2,hp',hcell,hsh2,by omega,hc,by omega⟩
set_option maxHeartbeats 1000000 in
theorem zHR (H0 : Heap) (b : Nat) (u : Bs) (H : Heap) (hB : BAt H0 H b u) (hO : Old H0 H) (hne : u ≠ []) :
  ∃ H',Go.AM.Good Tryd.prog GT zK [bR b] H (.str u) H' ∧ BFz H0 H' b u ∧ Old H0 H' ∧ H.length ≤ H'.length:=by
 obtain ⟨h0,hs,a,v,hb,hw,ha⟩:=hB
 rcases hw with ⟨_,e⟩ | ⟨d,rfl,d0,hrow,hty,_⟩
 ·exact absurd e hne
 have hnb : d ≠ b:=fun e=>by rw [e,hb] at hrow; cases hrow
 have hnb1 : d ≠ b + 1:=fun e=>by rw [e,hs] at hrow; cases hrow
 have hnl : u.length ≠ 0:=by simpa using hne
 refine ⟨H.set d (.frz 1 (u.map zG)) ++ [.hd d zq u.length], ?_,⟨h0,zM (zV hnb1 hs),a,d,_,zM (zV hnb hb),zM (zKi hrow),zc,hne⟩,(hO.set d0 _).push _,by simp⟩
 refine zBW Tryd.func15 (by kernel_rfl) (by kernel_rfl) rfl fun w M I cargs hS hA=>?_
 obtain ⟨p,rfl,hp⟩:=zEO hA
 obtain ⟨_,gd,c,hMd,hshd⟩:=hS.blk _ _ hty
 obtain ⟨g,cap,sz,e',rfl,hcell,hsh,hle,hcap,hm⟩:=zHQ hS hb hs hnl hp hMd
 rw [hshd] at hsh
 simp only [Option.some.injEq,Prod.mk.injEq] at hsh
 obtain ⟨rfl,rfl⟩:=hsh
 obtain ⟨hel,⟨hM1,_⟩ | ⟨g1,o1,cur,hM1,⟨e1,fz,hg,hfz⟩,hI,hfit,hval⟩⟩:=hS.blk _ _ hrow
 ·rw [hMd] at hM1; cases hM1
 rw [hMd] at hM1
 simp only [Option.some.injEq,Prod.mk.injEq] at hM1
 obtain ⟨rfl,rfl⟩:=hM1
 have hdl:=(zg hrow).1
 have hval' : ∀ (j : Nat) x,u[j]? = some x → cur[j]? = some (.int .u8 x.toNat):=fun j x hx=>by
  obtain ⟨v,h1,h2⟩:=hval j 0 (zG x) (.int .u8 x.toNat) (by rw [List.getElem?_map,hx]; rfl) rfl
  rw [zGU h2] at h1
  simpa using h1
 have h:=zJf { Tryd.ownReplace with } Tryd.extraReplace g gd cap c u hne w hcell (by rw [zIp]; exact hshd) hle hcap (by simp only [maxLen] at hm; omega) (fun j x hx=>by
  simp only [World.cell?,hg]
  exact hval' j x hx)
 rw [Tryd.text_number] at h
 refine h.mono ?_
 rintro e'' w' ⟨he,rfl⟩
 obtain ⟨lo,hi⟩:=fz
 obtain ⟨hi',hn',hh,_⟩:=zF5 (n:=u.length) hnl hg
 have hlt:=(Array.getElem?_eq_some_iff.1 hg).1
 have he1 : e1 = zq:=by
  simp only [World.shape?,hg,Option.some.injEq,Prod.mk.injEq] at hshd
  exact hshd.1
 subst he1
 have hg2 : (w.drew.freeze ⟨gd,0,none⟩ u.length).heap[gd]? = some (.cells cur zq (0,hi')):=by
  rw [hh,Array.getElem?_setIfInBounds,if_pos rfl,if_pos hlt]
 have hot : ∀ j,j ≠ gd → (w.drew.freeze ⟨gd,0,none⟩ u.length).heap[j]? = w.heap[j]?:=fun j hj=>by
  rw [hh,Array.getElem?_setIfInBounds,if_neg (Ne.symm hj)]
 obtain ⟨G,S⟩:=zHO (w':=w.drew.freeze ⟨gd,0,none⟩ u.length) (y:=.frz 1 (u.map zG)) (G:=fun j=>j = gd) hS hrow rfl hMd (by unfold World.freeze; split <;> rfl) (by unfold World.freeze; split <;> rfl) (by unfold World.freeze; split <;> rfl) (by rw [hh]; simp)
  (fun j _ hj=>hot j hj) (fun s hs=>by
   simp only [World.shape?,hg] at hs
   simp only [World.shape?,hg2]
   exact hs) (fun j hj=>.inl ⟨hj,rfl⟩) (fun j hj=>by rw [hj,hh]; simpa using hlt)
  ⟨hel,.inr ⟨gd,0,hMd,.inr rfl,fun i j x c hx hj=>by
   rw [List.getElem?_map] at hx
   obtain ⟨y,hy,rfl⟩:=Option.map_eq_some_iff.1 hx
   cases j with
   | succ j=>simp [zG,AV.cells] at hj
   | zero=>
    simp only [zG,AV.cells,List.getElem?_cons_zero,Option.some.injEq] at hj
    subst hj
    refine ⟨.int .u8 y.toNat, ?_,.int _ _⟩
    simp only [World.cell?,hg2]
    have:=hval' i y hy
    simpa using this⟩⟩
 obtain ⟨G2,S2⟩:=S.pushAny (blk:=.hd d zq u.length) ⟨by rw [List.length_set]; exact hdl,gd,cur,hi',by rw [zAs (by rw [List.length_set]; exact hdl)]; exact hMd,.inr rfl,hn',hg2⟩
 exact ⟨_,he,_,_,G.trans G2,S2,.str _⟩
theorem zJx {m : Int} (hG : GT 1 = some (.int .i64 m)) {w : World} {M : AMap} {I : Nat → Prop} {H : Heap} (hS : Sim GT w M I H) : w.cell? ⟨1,0,none⟩ = some (.int .i64 m):=by
 have h0:=hS.glob 1 (.int .i64 m) hG
 cases h0 with
 | lref _ _ _ _ V hI hx hvv hr=>
  have h1:=hvv 0 (.int .i64 m) rfl
  have h2:=hr 0 (.int .i64 m) rfl
  rw [h1,zGU h2]
theorem zHS {w : World} {M : AMap} {I : Nat → Prop} {n : Nat} {x y z : AV} {vs : List Value} (h : zx w M I n [x,y,z] vs) : ∃ v u t,vs = [v,u,t] ∧ Rel w M I n x v ∧ Rel w M I n y u ∧ Rel w M I n z t:=by
 obtain ⟨hl,h⟩:=h
 match vs,hl with
 | [v,u,t],_=>exact ⟨v,u,t,rfl,h 0 x v rfl rfl,h 1 y u rfl rfl,h 2 z t rfl rfl⟩
theorem zA1 (s : Bs) : (⟨s.toArray⟩ : ByteArray).size = s.length:=by simp [ByteArray.size]
theorem zEg (s : Bs) : (⟨s.toArray⟩ : ByteArray).data.toList = s:=rfl
theorem zFW {m : Int} (hG : GT 1 = some (.int .i64 m)) (s part new : Bs) (H : Heap) (hp : 1 ≤ part.length) (hl : s.length ≤ 2000000) (hn : new.length ≤ 1000) : Go.AM.Good Tryd.prog GT zb [.str s,.str part,.str new] H (.str (zDv part new s).2) H:=
 zAy Tryd.func12 (by kernel_rfl) (by kernel_rfl) fun w M I cargs hS hA=>by
  obtain ⟨v,u,x,rfl,hv,hu,hx⟩:=zHS hA
  obtain rfl:=zBJ hv
  obtain rfl:=zBJ hu
  obtain rfl:=zBJ hx
  have hc : Lib.countB ⟨s.toArray⟩ ⟨part.toArray⟩ ≤ 2000000:=by
   have:=Lib.countB_le ⟨part.toArray⟩ (by rw [zA1]; exact hp) _ ⟨s.toArray⟩ (Nat.le_refl _)
   rw [zA1] at this
   omega
  have hm : Lib.countB ⟨s.toArray⟩ ⟨part.toArray⟩ * new.length ≤ 2000000 * 1000:=Nat.mul_le_mul hc hn
  have h:=Any.strings_ReplaceAll Tryd.ownReplace Tryd.extraReplace ⟨s.toArray⟩ ⟨part.toArray⟩ ⟨new.toArray⟩ m w (by rw [zA1]; omega) (by first | exact zJx hG hS | (rw [Tryd.max_number]; exact zJx hG hS)) (by rw [zA1]; exact hp) (by rw [zA1,zA1]; omega)
  rw [Tryd.replace_number,zEg,zEg,zEg,← zKI part new s hp] at h
  refine h.mono ?_
  rintro e w' ⟨he,hB⟩
  exact ⟨_,he,hB,.str _⟩
theorem zF6 : ∀ t : Fld,(zDv [34] [34,34] t).2 = zCa t
 | []=>rfl
 | c :: r=>by
  by_cases hc : c = 34
  ·subst hc
   have hp : ([34] : Bs).isPrefixOf (34 :: r) = true:=by simp [List.isPrefixOf]
   rw [zEY [34] [34,34] (by simp) _ hp]
   show [34,34] ++ (zDv [34] [34,34] r).2 = _
   rw [zF6 r,zCa,if_pos rfl]; rfl
  ·have hp : ([34] : Bs).isPrefixOf (c :: r) = false:=by simp [List.isPrefixOf,Ne.symm hc]
   rw [zDO [34] [34,34] c r hp]
   show c :: (zDv [34] [34,34] r).2 = _
   rw [zF6 r,zCa,if_neg hc]
theorem zEh {m : Int} (hG : GT 1 = some (.int .i64 m)) : RepH (Go.AM.Good Tryd.prog GT):=fun f H hl=>by
 have h:=zFW hG f [34] [34,34] H (by simp) tO (by simp)
 rw [zF6] at h
 exact h
theorem zJy : ∀ f : Fld,Lib.containsAny f [44,34,10,13] = f.any zEl
 | []=>rfl
 | c :: r=>by
  have ih:=zJy r
  unfold Lib.containsAny at ih ⊢
  have hc : ([44,34,10,13] : List UInt8).contains c = zEl c:=by
   unfold zEl
   simp only [List.contains,List.elem]
   cases c == 44 <;> cases c == 34 <;> cases c == 10 <;> cases c == 13 <;> rfl
  have hg:=Lib.indexAny_ge [44,34,10,13] r
  rw [List.any_cons,← ih,← hc]
  have e : Lib.indexAny (c :: r) [44,34,10,13] = if ([44,34,10,13] : List UInt8).contains c then 0 else if Lib.indexAny r [44,34,10,13] == -1 then -1 else Lib.indexAny r [44,34,10,13] + 1:=rfl
  rw [e]
  generalize Lib.indexAny r [44,34,10,13] = z at hg ⊢
  cases h : ([44,34,10,13] : List UInt8).contains c with
  | true=>rfl
  | false=>
   rw [if_neg (by decide),Bool.false_or]
   by_cases h1 : z = -1
   ·rw [h1]; rfl
   ·rw [if_neg (by simpa using h1),Bool.eq_iff_iff,decide_eq_true_iff,decide_eq_true_iff]; omega
theorem zJg : AnyH (Go.AM.Good Tryd.prog GT):=fun f H hl=>
 zAy Tryd.func11 (by kernel_rfl) (by kernel_rfl) fun w M I cargs hS hA=>by
  obtain ⟨v,u,rfl,hv,hu⟩:=zJT hA
  obtain rfl:=zBJ hv
  obtain rfl:=zBJ hu
  have h:=zFO Tryd.ownAny (by kernel_rfl) ⟨f.toArray⟩ w (by rw [zA1]; omega)
  rw [Tryd.any_number] at h
  refine h.mono ?_
  rintro e w' ⟨he,hB⟩
  refine ⟨_,he,hB, ?_⟩
  show Rel _ _ _ _ _ (Value.bool (Lib.containsAny f [44,34,10,13]))
  rw [zJy]
  exact .bool _
set_option maxHeartbeats 1000000 in
theorem zIq {P : Program} {ρ : Ren} (L : Lays.n169 P ρ) (X : Builder.Extra P ρ) (b : Nat) (w : World) (hc1 : w.cell? ⟨b,1,none⟩ = some (.slice none 0 0)) :
  Calls P (ρ.f 169) #[.pointer (some ⟨b,0,none⟩)] w fun e w'=>e = .returned (.string ⟨#[]⟩) ∧ Below w.heap.size w w':=by
 have hUS:=Any.unsafeString_none L X
 have c1 : w.drew.cell? ⟨b,1,none⟩ = some (.slice none 0 0):=hc1
 have hSD : (Builtin.unsafeSliceData_ #[(ρ.t 37)] (ρ.t 127) #[.slice none 0 0]).run P w.drew = .ok (.pointer none) w.drew:=rfl
 have mixed:=L.mixed
 have t72:=L.t72; have a72:=L.a72; have z72:=L.z72; have v72:=L.v72; have u72:=run_underlying L.t72
 have t70:=L.t70; have a70:=L.a70; have z70:=L.z70; have v70:=L.v70; have u70:=run_underlying L.t70
 have t37:=L.t37; have a37:=L.a37; have z37:=L.z37; have v37:=L.v37; have u37:=run_underlying L.t37
 have t127:=L.t127; have a127:=L.a127; have z127:=L.z127; have v127:=L.v127; have u127:=run_underlying L.t127
 have t3:=L.t3; have a3:=L.a3; have z3:=L.z3; have v3:=L.v3; have u3:=run_underlying L.t3
 have t9:=L.t9; have a9:=L.a9; have z9:=L.z9; have v9:=L.v9; have u9:=run_underlying L.t9
 have t5:=X.t5; have a5:=X.a5; have z5:=X.z5; have v5:=X.v5; have u5:=run_underlying X.t5
 go_enter L.f169,Body.n169_ntmps ρ
 go_wp2
 go_region_o
 all_goals (go_wp2; go_ret; exact ⟨rfl,Below.drew (Below.refl _ w)⟩)
theorem zHT : St0H (Go.AM.Good Tryd.prog GT):=fun H0 b H hB=>by
 obtain ⟨h0,hs,a,v,hb,hw,ha⟩:=hB
 obtain rfl : v = .lst (some true) 0 []:=by
  rcases hw with ⟨h,_⟩ | ⟨d,_,_,_,_,h⟩
  ·exact h
  ·exact absurd rfl h
 refine zAy Tryd.func15 (by kernel_rfl) (by kernel_rfl) fun w M I cargs hS hA=>?_
 obtain ⟨p,rfl,hp⟩:=zEO hA
 obtain ⟨_,g,hM,hsh⟩:=hS.blk _ _ hs
 obtain ⟨g',o,cur,hM',hC,hI,hsz,hv⟩:=hS.blk _ _ hb
 rw [hM] at hM'
 simp only [Option.some.injEq,Prod.mk.injEq] at hM'
 obtain ⟨rfl,rfl⟩:=hM'
 have hp' : p = .pointer (some ⟨g,0,none⟩):=by
  cases hp with
  | ref _ _ _ _ g1 o1 _ hM1=>
   rw [hM] at hM1
   simp only [Option.some.injEq,Prod.mk.injEq] at hM1
   obtain ⟨rfl,rfl⟩:=hM1
   rfl
 subst hp'
 obtain ⟨c1,h1,r1⟩:=hv 1 _ rfl
 obtain ⟨e,fz,hg,hfz⟩:=hC
 have hcell : w.cell? ⟨g,1,none⟩ = some c1:=by
  simp only [World.cell?,hg]
  exact h1
 have hc1 : c1 = .slice none 0 0:=by cases r1 <;> first | rfl | simp_all
 subst hc1
 have h:=zIq { Tryd.ownReplace with } Tryd.extraReplace g w hcell
 rw [Tryd.text_number] at h
 refine h.mono ?_
 rintro e' w' ⟨he,hB⟩
 exact ⟨_,he,hB,.str _⟩
end
end Go.Proofs
set_option maxRecDepth 20000
namespace Go.AM
section
variable {C : CSpec} {GT : Nat → Option AV} {H0 : Heap}
end
end Go.AM
