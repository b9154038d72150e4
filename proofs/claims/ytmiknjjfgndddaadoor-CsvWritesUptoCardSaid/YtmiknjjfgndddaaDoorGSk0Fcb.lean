/- Several texts of mine in one (Sk0, Skg, Fcb). Own work. -/
import Derived.Test.YtmiknjjfgndddaaDoorGBu1Am33
import Derived.Shelf.Spec.SlicesInsert
import Derived.Lib.AppendZerosOnto
import Derived.Laws.NewBlocks
import Derived.Test.YtmiknjjfgndddaaDoorGAm22Err
import Derived.Test.YtmiknjjfgndddaaDoorGItQFnp
import Derived.Shelf.Strings.Replace
import Derived.Shelf.Strings.Builder1
import Derived.KernelRfl
set_option linter.all false
namespace Go.AM
open Go Go.Lib Go.Proofs
end Go.AM
namespace Go.AM
section
theorem zBa {P : Program} {GT : Nat → Option AV} {f : FuncId} {fn : Func} {args : List AV} {H H' : Heap} {v : AV} (hf : P.funcs[f]? = some fn) (hname : (fn.name == "runtime.NumGoroutine") = false) (hb : fn.body.isSome = true) (hn : zCa args = true)
  (h : ∀ (w : World) (M : AMap) (I : Nat → Prop) (cargs : List Value),Sim GT w M I H → zAD w M I H.length args cargs → Calls P f cargs.toArray w fun e w'=>∃ v',e = .returned v' ∧ ∃ M' I',Grow w M I H w' M' I' H' ∧ Sim GT w' M' I' H' ∧ Rel w' M' I' H'.length v v') : Good P GT f args H v H':=by
 refine zC4 hn ?_
 intro w M I cargs hS hA
 have h1 : fn.name ≠ "runtime.NumGoroutine" := by simpa using hname
 obtain ⟨c,hb⟩:=Option.isSome_iff_exists.1 hb
 have hrun : (callFunc f cargs.toArray).run P w = .ok (.enter f cargs.toArray) w:=by simp [callFunc,hf,h1,hb]
 rw [hrun]
 exact h w M I cargs hS hA
end
end Go.AM
set_option maxRecDepth 100000
namespace Go.Proofs
open Go.Shelf Go.RowKit Go.AM
theorem Tryd.check_number : Tryd.ownReplace_ren.f 240 = zJ:=by kernel_rfl
theorem Tryd.text_number : Tryd.ownReplace_ren.f 169 = zQ:=by kernel_rfl
theorem Tryd.replace_number : Tryd.ownReplace_ren.f 155 = zm:=by kernel_rfl
theorem Tryd.any_number : Tryd.ownAny_ren.f 150 = zw:=by kernel_rfl
theorem Tryd.max_number : Tryd.ownReplace_ren.g 1 = 1:=by kernel_rfl
theorem Tryd.extraReplace : Builder.Extra Tryd.prog Tryd.ownReplace_ren:={
 sizeBuilder:=by kernel_rfl
 liesBuilder:=by kernel_rfl
 t5:=Tryd.ownReplace.t5
 a5:=Tryd.ownReplace.a5
 z5:=Tryd.ownReplace.z5
 v5:=Tryd.ownReplace.v5
 infoByte:=by kernel_rfl
 cellsByte:=by kernel_rfl
 sizeByte:=by kernel_rfl
 neB5:=by decide }
section
variable {GT : Nat → Option AV}
set_option maxHeartbeats 1000000 in
theorem zJB {P : Program} {ρ : Ren} (L : Lays.n169 P ρ) (X : Builder.Extra P ρ) (b g cap cells : Nat) (l : List UInt8) (h0 : l ≠ []) (w : World) (hc1 : w.cell? ⟨b,1,none⟩ = some (.slice (some ⟨g,0,none⟩) l.length cap)) (hsh : w.shape? g = some (ρ.t 5,cells)) (hle : l.length ≤ cells) (hcap : l.length ≤ cap) (hm : l.length ≤ 9223372036854775807)
  (hcell : ∀ (j : Nat) x,l[j]? = some x → w.cell? ⟨g,j,none⟩ = some (.int .u8 x.toNat)) :
  Calls P (ρ.f 169) #[.pointer (some ⟨b,0,none⟩)] w fun e w'=>e = .returned (.string ⟨l.toArray⟩) ∧ w' = w.drew.freeze ⟨g,0,none⟩ l.length:=by
 have hl0 : l.length ≠ 0:=by simpa using h0
 have c1 : w.drew.cell? ⟨b,1,none⟩ = some (.slice (some ⟨g,0,none⟩) l.length cap):=hc1
 have hSD : (Builtin.unsafeSliceData_ #[(ρ.t 37)] (ρ.t 127) #[.slice (some ⟨g,0,none⟩) l.length cap]).run P w.drew = .ok (.pointer (some ⟨g,0,none⟩)) w.drew:=
  Lib.run_unsafeSliceData_row _ _ _ _ _ _ tO
 have hUS : (Builtin.unsafeString_ #[(ρ.t 127),(ρ.t 3)] (ρ.t 9) #[.pointer (some ⟨g,0,none⟩),.int .i64 l.length]).run P w.drew = .ok (.string ⟨l.toArray⟩) (w.drew.freeze ⟨g,0,none⟩ l.length):=by
  refine Lib.run_unsafeString_row w.drew (ρ.t 127) (ρ.t 3) (ρ.t 9) (ρ.t 5) L.t127 X.cellsByte g cells hsh l h0 hle hm ?_
  intro j x hx
  rw [Addr.add_lit,Nat.zero_add]
  exact hcell j x hx
 have mixed:=L.mixed
 have t72:=L.t72; have a72:=L.a72; have z72:=L.z72; have v72:=L.v72; have u72:=run_underlying L.t72
 have t70:=L.t70; have a70:=L.a70; have z70:=L.z70; have v70:=L.v70; have u70:=run_underlying L.t70
 have t37:=L.t37; have a37:=L.a37; have z37:=L.z37; have v37:=L.v37; have u37:=run_underlying L.t37
 have t127:=L.t127; have a127:=L.a127; have z127:=L.z127; have v127:=L.v127; have u127:=run_underlying L.t127
 have t3:=L.t3; have a3:=L.a3; have z3:=L.z3; have v3:=L.v3; have u3:=run_underlying L.t3
 have t9:=L.t9; have a9:=L.a9; have z9:=L.z9; have v9:=L.v9; have u9:=run_underlying L.t9
 have t5:=X.t5; have a5:=X.a5; have z5:=X.z5; have v5:=X.v5; have u5:=run_underlying X.t5
 go_enter L.f169,Body.n169_ntmps ρ
 go_wp2
 go_region_o
 all_goals (go_wp2; go_ret; exact ⟨rfl,rfl⟩)
theorem zFT {w : World} {g o : Nat} {v : Value} {cur : Array Value} {e : TypeId} {fz : Nat × Nat} (h : w.heap[g]? = some (.cells cur e fz)) : (w.setCell ⟨g,o,none⟩ v).heap = w.heap.setIfInBounds g (.cells (cur.setIfInBounds o v) e fz):=by
 apply Array.ext_getElem?
 intro i
 simp only [World.setCell,Array.getElem?_modify,Array.getElem?_setIfInBounds]
 by_cases hi : g = i
 ·subst hi
  have hlt:=(Array.getElem?_eq_some_iff.1 h).1
  rw [if_pos rfl,if_pos rfl,if_pos hlt,h]
  obtain ⟨lo,hi⟩:=fz
  rfl
 ·rw [if_neg hi,if_neg hi]
theorem zG7 (b : Nat) (a v : AV) (H : Heap) (hb : H[b]? = some (.box [a,v])) (hs : H[b + 1]? = some (.shp b zE 2)) (ha : a = .ref b 0 0 0 ∨ a = .nilp) :
  Go.AM.Good Tryd.prog GT zJ [bR b] H (.tup []) (H.set b (.box [.ref b 0 0 0,v])):=by
 refine zBa Tryd.func18 (by kernel_rfl) (by kernel_rfl) rfl fun w M I cargs hS hA=>?_
 obtain ⟨p,rfl,hp⟩:=zER hA
 obtain ⟨_,g,hM,hsh⟩:=hS.blk _ _ hs
 obtain ⟨g',o,cur,hM',hC,hI,hsz,hv⟩:=hS.blk _ _ hb
 rw [hM] at hM'
 simp only [Option.some.injEq,Prod.mk.injEq] at hM'
 obtain ⟨rfl,rfl⟩:=hM'
 have hbl:=(zg hb).1
 have hp' : p = .pointer (some ⟨g,0,none⟩):=by
  cases hp with
  | ref _ _ _ _ g1 o1 _ hM1=>
   rw [hM] at hM1
   simp only [Option.some.injEq,Prod.mk.injEq] at hM1
   obtain ⟨rfl,rfl⟩:=hM1
   rfl
 subst hp'
 obtain ⟨c0,h0,r0⟩:=hv 0 a rfl
 obtain ⟨c1,h1,r1⟩:=hv 1 v rfl
 obtain ⟨e,fz,hg,hfz⟩:=hC
 have hcell : w.cell? ⟨g,0,none⟩ = some c0:=by
  simp only [World.cell?,hg]
  exact h0
 rcases ha with rfl | rfl
 ·have hc0 : c0 = .pointer (some ⟨g,0,none⟩):=by
   cases r0 with
   | ref _ _ _ _ g1 o1 _ hM1=>
    rw [hM] at hM1
    simp only [Option.some.injEq,Prod.mk.injEq] at hM1
    obtain ⟨rfl,rfl⟩:=hM1
    rfl
  subst hc0
  have h:=Any.Builder_copyCheck_used { Tryd.ownReplace with } Tryd.extraReplace.toX72 g w hcell
  rw [Tryd.check_number] at h
  rw [zI7 hb]
  refine h.mono ?_
  rintro e' w' ⟨he,rfl⟩
  exact ⟨_,he,M,I,Grow.refl ..,hS,.tup [] [] rfl (fun i c v h=>by simp at h)⟩
 ·have hc0 : c0 = .pointer none:=by cases r0; rfl
  subst hc0
  have hfrz : w.frozen? ⟨g,0,none⟩ = false:=by
   obtain ⟨lo,hi⟩:=fz
   simp only [World.frozen?,hg]
   have:=hfz 0 (by simp at hsz; omega)
   simp only [Bool.and_eq_false_iff,decide_eq_false_iff_not]
   by_cases h : lo ≤ 0
   ·right; intro h2; exact this ⟨h,h2⟩
   ·left; exact h
  have h:=Any.Builder_copyCheck_fresh { Tryd.ownReplace with } Tryd.extraReplace.toX72 g w hcell hsh hfrz
  rw [Tryd.check_number] at h
  refine h.mono ?_
  rintro e' w' ⟨he,rfl⟩
  have hh:=zFT (o:=0) (v:=.pointer (some ⟨g,0,none⟩)) hg
  have hsz2 : (cur.setIfInBounds 0 (.pointer (some ⟨g,0,none⟩))).size = cur.size:=by simp
  have hlt:=(Array.getElem?_eq_some_iff.1 hg).1
  have hg2 : (w.setCell ⟨g,0,none⟩ (.pointer (some ⟨g,0,none⟩))).heap[g]? = some (.cells (cur.setIfInBounds 0 (.pointer (some ⟨g,0,none⟩))) e fz):=by
   rw [hh,Array.getElem?_setIfInBounds,if_pos rfl,if_pos hlt]
  have hW:=Sim.write (w':=w.setCell ⟨g,0,none⟩ (.pointer (some ⟨g,0,none⟩))) (y:=.dead) hS hb rfl hM hg hsz2 hh rfl rfl rfl trivial
  have R : ∀ {c v},Rel w M I H.length c v → Rel (w.setCell ⟨g,0,none⟩ (.pointer (some ⟨g,0,none⟩))) M I H.length c v:=fun h=>by have:=hW.1.rel hS h; simpa using this
  simp only [List.length_cons,List.length_nil] at hsz
  obtain ⟨G,S⟩:=Sim.write (w':=w.setCell ⟨g,0,none⟩ (.pointer (some ⟨g,0,none⟩))) (y:=.box [.ref b 0 0 0,v]) hS hb rfl hM hg hsz2 hh rfl rfl rfl ⟨g,0,_,hM,⟨e,fz,hg2,by rw [hsz2]; exact hfz⟩,hI,by rw [hsz2]; exact hsz,fun j c hj=>by
   match j,hj with
   | 0,hj=>
    simp only [List.getElem?_cons_zero,Option.some.injEq] at hj
    subst hj
    exact ⟨.pointer (some ⟨g,0,none⟩),by rw [Array.getElem?_setIfInBounds,if_pos rfl,if_pos tO],.ref b 0 0 0 g 0 hbl hM⟩
   | 1,hj=>
    simp only [List.getElem?_cons_succ,List.getElem?_cons_zero,Option.some.injEq] at hj
    subst hj
    exact ⟨c1,by rw [Array.getElem?_setIfInBounds,if_neg tO]; exact h1,R r1⟩
   | j + 2,hj=>simp at hj⟩
  exact ⟨_,he,M,I,G,S,.tup [] [] rfl (fun i c v h=>by simp at h)⟩
theorem zIO : Tryd.ownReplace_ren.t 5 = z7:=by kernel_rfl
theorem zFz {w : World} {g n : Nat} {cur : Array Value} {e : TypeId} {lo hi : Nat} (hn : n ≠ 0) (h : w.heap[g]? = some (.cells cur e (lo,hi))) : ∃ hi',n ≤ hi' ∧ (w.drew.freeze ⟨g,0,none⟩ n).heap = w.heap.setIfInBounds g (.cells cur e (0,hi')) ∧ (lo = 0 → n ≤ hi → hi' = hi):=by
 have hlt:=(Array.getElem?_eq_some_iff.1 h).1
 have key : ∀ fz' : Nat × Nat,(if (lo == hi) = true then ((0 : Nat),0 + n) else (min lo 0,max hi (0 + n))) = fz' → (w.drew.freeze ⟨g,0,none⟩ n).heap = w.heap.setIfInBounds g (.cells cur e fz'):=fun fz' hf=>by
  have hd : w.drew.heap = w.heap:=rfl
  unfold World.freeze
  rw [if_neg hn]
  apply Array.ext_getElem?
  intro i
  simp only [hd,Array.getElem?_modify,Array.getElem?_setIfInBounds]
  by_cases hi' : g = i
  ·subst hi'
   rw [if_pos rfl,if_pos rfl,if_pos hlt,h]
   simp only [Option.map_some,hf]
  ·rw [if_neg hi',if_neg hi']
 by_cases hh : (lo == hi) = true
 ·refine ⟨n,Nat.le_refl _,key (0,n) (by rw [if_pos hh,Nat.zero_add]),fun h1 h2=>?_⟩
  have:=beq_iff_eq.1 hh
  omega
 ·exact ⟨max hi n,Nat.le_max_right _ _,key (0,max hi n) (by rw [if_neg hh,Nat.zero_add,Nat.min_zero]),fun _ h2=>Nat.max_eq_left h2⟩
theorem zG8 {w : World} {M : AMap} {I : Nat → Prop} {H : Heap} {GT : Nat → Option AV} (hS : Sim GT w M I H) {b d n : Nat} {a : AV} {p : Value} (hb : H[b]? = some (.box [a,.sl (some true) d 1 0 n])) (hs : H[b + 1]? = some (.shp b zE 2)) (hn : n ≠ 0) (hp : Rel w M I H.length (bR b) p) {gd : Nat} (hd : M d = some (gd,0)) :
  ∃ g cap sz e,p = .pointer (some ⟨g,0,none⟩) ∧ w.cell? ⟨g,1,none⟩ = some (.slice (some ⟨gd,0,none⟩) n cap) ∧ w.shape? gd = some (e,sz) ∧ n ≤ sz ∧ n ≤ cap ∧ n ≤ maxLen:=by
 obtain ⟨_,g,hM,hsh⟩:=hS.blk _ _ hs
 obtain ⟨g',o,cur,hM',hC,hI,hsz,hv⟩:=hS.blk _ _ hb
 rw [hM] at hM'
 simp only [Option.some.injEq,Prod.mk.injEq] at hM'
 obtain ⟨rfl,rfl⟩:=hM'
 have hp' : p = .pointer (some ⟨g,0,none⟩):=by
  cases hp with
  | ref _ _ _ _ g1 o1 _ hM1=>
   rw [hM] at hM1
   simp only [Option.some.injEq,Prod.mk.injEq] at hM1
   obtain ⟨rfl,rfl⟩:=hM1
   rfl
 obtain ⟨c1,h1,r1⟩:=hv 1 _ rfl
 obtain ⟨e,fz,hg,hfz⟩:=hC
 have hcell : w.cell? ⟨g,1,none⟩ = some c1:=by
  simp only [World.cell?,hg]
  exact h1
 cases r1 with
 | sln=>exact absurd rfl hn
 | sl _ _ _ _ _ g2 o2 p2 cap hbn hM2 hc hm hq ha=>
  rw [hd] at hM2
  simp only [Option.some.injEq,Prod.mk.injEq] at hM2
  obtain ⟨rfl,rfl⟩:=hM2
  obtain ⟨rfl,e2,sz,hsh2,hsz2⟩:=ha tO
  exact ⟨g,cap,sz,e2,hp',hcell,hsh2,by omega,hc,by omega⟩
set_option maxHeartbeats 1000000 in
theorem zG9 (H0 : Heap) (b : Nat) (u : Bs) (H : Heap) (hB : BAt H0 H b u) (hO : Old H0 H) (hne : u ≠ []) :
  ∃ H',Go.AM.Good Tryd.prog GT zQ [bR b] H (.str u) H' ∧ BFz H0 H' b u ∧ Old H0 H' ∧ H.length ≤ H'.length:=by
 obtain ⟨h0,hs,a,v,hb,hw,ha⟩:=hB
 rcases hw with ⟨_,e⟩ | ⟨d,rfl,d0,hrow,hty,_⟩
 ·exact absurd e hne
 have hnb : d ≠ b:=fun e=>by rw [e,hb] at hrow; cases hrow
 have hnb1 : d ≠ b + 1:=fun e=>by rw [e,hs] at hrow; cases hrow
 have hnl : u.length ≠ 0:=by simpa using hne
 refine ⟨H.set d (.frz 1 (u.map zA)) ++ [.hd d z7 u.length], ?_,⟨h0,zX (zh hnb1 hs),a,d,_,zX (zh hnb hb),zX (zJM hrow),zn,hne⟩,(hO.set d0 _).push _,by simp⟩
 refine zBa Tryd.func15 (by kernel_rfl) (by kernel_rfl) rfl fun w M I cargs hS hA=>?_
 obtain ⟨p,rfl,hp⟩:=zER hA
 obtain ⟨_,gd,c,hMd,hshd⟩:=hS.blk _ _ hty
 obtain ⟨g,cap,sz,e',rfl,hcell,hsh,hle,hcap,hm⟩:=zG8 hS hb hs hnl hp hMd
 rw [hshd] at hsh
 simp only [Option.some.injEq,Prod.mk.injEq] at hsh
 obtain ⟨rfl,rfl⟩:=hsh
 obtain ⟨hel,⟨hM1,_⟩ | ⟨g1,o1,cur,hM1,⟨e1,fz,hg,hfz⟩,hI,hfit,hval⟩⟩:=hS.blk _ _ hrow
 ·rw [hMd] at hM1; cases hM1
 rw [hMd] at hM1
 simp only [Option.some.injEq,Prod.mk.injEq] at hM1
 obtain ⟨rfl,rfl⟩:=hM1
 have hdl:=(zg hrow).1
 have hval' : ∀ (j : Nat) x,u[j]? = some x → cur[j]? = some (.int .u8 x.toNat):=fun j x hx=>by
  obtain ⟨v,h1,h2⟩:=hval j 0 (zA x) (.int .u8 x.toNat) (by rw [List.getElem?_map,hx]; rfl) rfl
  rw [zCj h2] at h1
  simpa using h1
 have h:=zJB { Tryd.ownReplace with } Tryd.extraReplace g gd cap c u hne w hcell (by rw [zIO]; exact hshd) hle hcap (by simp only [maxLen] at hm; omega) (fun j x hx=>by
  simp only [World.cell?,hg]
  exact hval' j x hx)
 rw [Tryd.text_number] at h
 refine h.mono ?_
 rintro e'' w' ⟨he,rfl⟩
 obtain ⟨lo,hi⟩:=fz
 obtain ⟨hi',hn',hh,_⟩:=zFz (n:=u.length) hnl hg
 have hlt:=(Array.getElem?_eq_some_iff.1 hg).1
 have he1 : e1 = z7:=by
  simp only [World.shape?,hg,Option.some.injEq,Prod.mk.injEq] at hshd
  exact hshd.1
 subst he1
 have hg2 : (w.drew.freeze ⟨gd,0,none⟩ u.length).heap[gd]? = some (.cells cur z7 (0,hi')):=by
  rw [hh,Array.getElem?_setIfInBounds,if_pos rfl,if_pos hlt]
 have hot : ∀ j,j ≠ gd → (w.drew.freeze ⟨gd,0,none⟩ u.length).heap[j]? = w.heap[j]?:=fun j hj=>by
  rw [hh,Array.getElem?_setIfInBounds,if_neg (Ne.symm hj)]
 obtain ⟨G,S⟩:=zG6 (w':=w.drew.freeze ⟨gd,0,none⟩ u.length) (y:=.frz 1 (u.map zA)) (G:=fun j=>j = gd) hS hrow rfl hMd (by unfold World.freeze; split <;> rfl) (by unfold World.freeze; split <;> rfl) (by unfold World.freeze; split <;> rfl) (by rw [hh]; simp)
  (fun j _ hj=>hot j hj) (fun s hs=>by
   simp only [World.shape?,hg] at hs
   simp only [World.shape?,hg2]
   exact hs) (fun j hj=>.inl ⟨hj,rfl⟩) (fun j hj=>by rw [hj,hh]; simpa using hlt)
  ⟨hel,.inr ⟨gd,0,hMd,.inr rfl,fun i j x c hx hj=>by
   rw [List.getElem?_map] at hx
   obtain ⟨y,hy,rfl⟩:=Option.map_eq_some_iff.1 hx
   cases j with
   | succ j=>simp [zA,AV.cells] at hj
   | zero=>
    simp only [zA,AV.cells,List.getElem?_cons_zero,Option.some.injEq] at hj
    subst hj
    refine ⟨.int .u8 y.toNat, ?_,.int _ _⟩
    simp only [World.cell?,hg2]
    have:=hval' i y hy
    simpa using this⟩⟩
 obtain ⟨G2,S2⟩:=S.pushAny (blk:=.hd d z7 u.length) ⟨by rw [List.length_set]; exact hdl,gd,cur,hi',by rw [zAx (by rw [List.length_set]; exact hdl)]; exact hMd,.inr rfl,hn',hg2⟩
 exact ⟨_,he,_,_,G.trans G2,S2,.str _⟩
theorem zJP {m : Int} (hG : GT 1 = some (.int .i64 m)) {w : World} {M : AMap} {I : Nat → Prop} {H : Heap} (hS : Sim GT w M I H) : w.cell? ⟨1,0,none⟩ = some (.int .i64 m):=by
 have h0:=hS.glob 1 (.int .i64 m) hG
 cases h0 with
 | lref _ _ _ _ V hI hx hvv hr=>
  have h1:=hvv 0 (.int .i64 m) rfl
  have h2:=hr 0 (.int .i64 m) rfl
  rw [h1,zCj h2]
theorem zHA {w : World} {M : AMap} {I : Nat → Prop} {n : Nat} {x y z : AV} {vs : List Value} (h : zAD w M I n [x,y,z] vs) : ∃ v u t,vs = [v,u,t] ∧ Rel w M I n x v ∧ Rel w M I n y u ∧ Rel w M I n z t:=by
 obtain ⟨hl,h⟩:=h
 match vs,hl with
 | [v,u,t],_=>exact ⟨v,u,t,rfl,h 0 x v rfl rfl,h 1 y u rfl rfl,h 2 z t rfl rfl⟩
theorem zA6 (s : Bs) : (⟨s.toArray⟩ : ByteArray).size = s.length:=by simp [ByteArray.size]
theorem zEi (s : Bs) : (⟨s.toArray⟩ : ByteArray).data.toList = s:=rfl
theorem zFU {m : Int} (hG : GT 1 = some (.int .i64 m)) (s part new : Bs) (H : Heap) (hp : 1 ≤ part.length) (hl : s.length ≤ 2000000) (hn : new.length ≤ 1000) : Go.AM.Good Tryd.prog GT zm [.str s,.str part,.str new] H (.str (zDx part new s).2) H:=
 zA3 Tryd.func12 (by kernel_rfl) (by kernel_rfl) fun w M I cargs hS hA=>by
  obtain ⟨v,u,x,rfl,hv,hu,hx⟩:=zHA hA
  obtain rfl:=zBR hv
  obtain rfl:=zBR hu
  obtain rfl:=zBR hx
  have hc : Lib.countB ⟨s.toArray⟩ ⟨part.toArray⟩ ≤ 2000000:=by
   have:=Lib.countB_le ⟨part.toArray⟩ (by rw [zA6]; exact hp) _ ⟨s.toArray⟩ (Nat.le_refl _)
   rw [zA6] at this
   omega
  have hm : Lib.countB ⟨s.toArray⟩ ⟨part.toArray⟩ * new.length ≤ 2000000 * 1000:=Nat.mul_le_mul hc hn
  have h:=Any.strings_ReplaceAll Tryd.ownReplace Tryd.extraReplace ⟨s.toArray⟩ ⟨part.toArray⟩ ⟨new.toArray⟩ m w (by rw [zA6]; omega) (by first | exact zJP hG hS | (rw [Tryd.max_number]; exact zJP hG hS)) (by rw [zA6]; exact hp) (by rw [zA6,zA6]; omega)
  rw [Tryd.replace_number,zEi,zEi,zEi,← zJn part new s hp] at h
  refine h.mono ?_
  rintro e w' ⟨he,hB⟩
  exact ⟨_,he,hB,.str _⟩
theorem zF0 : ∀ t : Fld,(zDx [34] [34,34] t).2 = zu t
 | []=>rfl
 | c :: r=>by
  by_cases hc : c = 34
  ·subst hc
   have hp : ([34] : Bs).isPrefixOf (34 :: r) = true:=by simp [List.isPrefixOf]
   rw [zEc [34] [34,34] (by simp) _ hp]
   show [34,34] ++ (zDx [34] [34,34] r).2 = _
   rw [zF0 r,zu,if_pos rfl]; rfl
  ·have hp : ([34] : Bs).isPrefixOf (c :: r) = false:=by simp [List.isPrefixOf,Ne.symm hc]
   rw [zDU [34] [34,34] c r hp]
   show c :: (zDx [34] [34,34] r).2 = _
   rw [zF0 r,zu,if_neg hc]
theorem zEj {m : Int} (hG : GT 1 = some (.int .i64 m)) : RepH (Go.AM.Good Tryd.prog GT):=fun f H hl=>by
 have h:=zFU hG f [34] [34,34] H (by simp) tO (by simp)
 rw [zF0] at h
 exact h
theorem zJQ : ∀ f : Fld,Lib.containsAny f [44,34,10,13] = f.any zBZ
 | []=>rfl
 | c :: r=>by
  have ih:=zJQ r
  unfold Lib.containsAny at ih ⊢
  have hc : ([44,34,10,13] : List UInt8).contains c = zBZ c:=by
   unfold zBZ
   simp only [List.contains,List.elem]
   cases c == 44 <;> cases c == 34 <;> cases c == 10 <;> cases c == 13 <;> rfl
  have hg:=Lib.indexAny_ge [44,34,10,13] r
  rw [List.any_cons,← ih,← hc]
  have e : Lib.indexAny (c :: r) [44,34,10,13] = if ([44,34,10,13] : List UInt8).contains c then 0 else if Lib.indexAny r [44,34,10,13] == -1 then -1 else Lib.indexAny r [44,34,10,13] + 1:=rfl
  rw [e]
  generalize Lib.indexAny r [44,34,10,13] = z at hg ⊢
  cases h : ([44,34,10,13] : List UInt8).contains c with
  | true=>rfl
  | false=>
   rw [if_neg (by decide),Bool.false_or]
   by_cases h1 : z = -1
   ·rw [h1]; rfl
   ·rw [if_neg (by simpa using h1),Bool.eq_iff_iff,decide_eq_true_iff,decide_eq_true_iff]; omega
theorem zJC : AnyH (Go.AM.Good Tryd.prog GT):=fun f H hl=>
 zA3 Tryd.func11 (by kernel_rfl) (by kernel_rfl) fun w M I cargs hS hA=>by
  obtain ⟨v,u,rfl,hv,hu⟩:=zGM hA
  obtain rfl:=zBR hv
  obtain rfl:=zBR hu
  have h:=zFL Tryd.ownAny (by kernel_rfl) ⟨f.toArray⟩ w (by rw [zA6]; omega)
  rw [Tryd.any_number] at h
  refine h.mono ?_
  rintro e w' ⟨he,hB⟩
  refine ⟨_,he,hB, ?_⟩
  show Rel _ _ _ _ _ (Value.bool (Lib.containsAny f [44,34,10,13]))
  rw [zJQ]
  exact .bool _
set_option maxHeartbeats 1000000 in
theorem zIP {P : Program} {ρ : Ren} (L : Lays.n169 P ρ) (X : Builder.Extra P ρ) (b : Nat) (w : World) (hc1 : w.cell? ⟨b,1,none⟩ = some (.slice none 0 0)) :
  Calls P (ρ.f 169) #[.pointer (some ⟨b,0,none⟩)] w fun e w'=>e = .returned (.string ⟨#[]⟩) ∧ Below w.heap.size w w':=by
 have hUS:=Any.unsafeString_none L X
 have c1 : w.drew.cell? ⟨b,1,none⟩ = some (.slice none 0 0):=hc1
 have hSD : (Builtin.unsafeSliceData_ #[(ρ.t 37)] (ρ.t 127) #[.slice none 0 0]).run P w.drew = .ok (.pointer none) w.drew:=rfl
 have mixed:=L.mixed
 have t72:=L.t72; have a72:=L.a72; have z72:=L.z72; have v72:=L.v72; have u72:=run_underlying L.t72
 have t70:=L.t70; have a70:=L.a70; have z70:=L.z70; have v70:=L.v70; have u70:=run_underlying L.t70
 have t37:=L.t37; have a37:=L.a37; have z37:=L.z37; have v37:=L.v37; have u37:=run_underlying L.t37
 have t127:=L.t127; have a127:=L.a127; have z127:=L.z127; have v127:=L.v127; have u127:=run_underlying L.t127
 have t3:=L.t3; have a3:=L.a3; have z3:=L.z3; have v3:=L.v3; have u3:=run_underlying L.t3
 have t9:=L.t9; have a9:=L.a9; have z9:=L.z9; have v9:=L.v9; have u9:=run_underlying L.t9
 have t5:=X.t5; have a5:=X.a5; have z5:=X.z5; have v5:=X.v5; have u5:=run_underlying X.t5
 go_enter L.f169,Body.n169_ntmps ρ
 go_wp2
 go_region_o
 all_goals (go_wp2; go_ret; exact ⟨rfl,Below.drew (Below.refl _ w)⟩)
theorem zHB : St0H (Go.AM.Good Tryd.prog GT):=fun H0 b H hB=>by
 obtain ⟨h0,hs,a,v,hb,hw,ha⟩:=hB
 obtain rfl : v = .lst (some true) 0 []:=by
  rcases hw with ⟨h,_⟩ | ⟨d,_,_,_,_,h⟩
  ·exact h
  ·exact absurd rfl h
 refine zA3 Tryd.func15 (by kernel_rfl) (by kernel_rfl) fun w M I cargs hS hA=>?_
 obtain ⟨p,rfl,hp⟩:=zER hA
 obtain ⟨_,g,hM,hsh⟩:=hS.blk _ _ hs
 obtain ⟨g',o,cur,hM',hC,hI,hsz,hv⟩:=hS.blk _ _ hb
 rw [hM] at hM'
 simp only [Option.some.injEq,Prod.mk.injEq] at hM'
 obtain ⟨rfl,rfl⟩:=hM'
 have hp' : p = .pointer (some ⟨g,0,none⟩):=by
  cases hp with
  | ref _ _ _ _ g1 o1 _ hM1=>
   rw [hM] at hM1
   simp only [Option.some.injEq,Prod.mk.injEq] at hM1
   obtain ⟨rfl,rfl⟩:=hM1
   rfl
 subst hp'
 obtain ⟨c1,h1,r1⟩:=hv 1 _ rfl
 obtain ⟨e,fz,hg,hfz⟩:=hC
 have hcell : w.cell? ⟨g,1,none⟩ = some c1:=by
  simp only [World.cell?,hg]
  exact h1
 have hc1 : c1 = .slice none 0 0:=by cases r1 <;> first | rfl | simp_all
 subst hc1
 have h:=zIP { Tryd.ownReplace with } Tryd.extraReplace g w hcell
 rw [Tryd.text_number] at h
 refine h.mono ?_
 rintro e' w' ⟨he,hB⟩
 exact ⟨_,he,hB,.str _⟩
end
end Go.Proofs
