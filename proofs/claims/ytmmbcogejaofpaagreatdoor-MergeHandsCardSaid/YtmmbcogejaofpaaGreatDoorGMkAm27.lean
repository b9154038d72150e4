/- Several texts of mine in one (Mk, Am23, Err, Am25, Am27). Own work. -/
import Derived.Test.YtmmbcogejaofpaaGreatDoorMc
import Derived.Test.YtmmbcogejaofpaaGreatDoorProg
import Derived.Test.YtmmbcogejaofpaaGreatDoorGAm22Mn
import Derived.Below
set_option linter.all false
namespace Go.AM
open Go.Proofs
theorem zGH : zAY Tryz.prog zDM zDN = true:=by kernel_rfl
theorem zFs : zAY Tryz.prog zC7 zC8 = true:=by kernel_rfl
theorem k_merge_Diff : zAY Tryz.prog zo zHp = true:=by kernel_rfl
theorem zJD : zAY Tryz.prog zBN zFR = true:=by kernel_rfl
theorem k_merge_Apply : zAY Tryz.prog zDC zGn = true:=by kernel_rfl
theorem zEx : zAY Tryz.prog zAX zC3 = true:=by kernel_rfl
theorem k_merge_Three : zAY Tryz.prog zc zGp = true:=by kernel_rfl
theorem zJE : zAY Tryz.prog zCV zFS = true:=by kernel_rfl
theorem k_merge_check : zAY Tryz.prog zBF zGq = true:=by kernel_rfl
theorem k_merge_texts : zAY Tryz.prog zBe zGr = true:=by kernel_rfl
theorem k_merge_cells : zAY Tryz.prog zDD zGs = true:=by kernel_rfl
theorem k_scclaw4_cell : zAY Tryz.prog zCD zFz = true:=by kernel_rfl
theorem k_addr_Check : zAY Tryz.prog zBc zHq = true:=by kernel_rfl
theorem k_addr_Less : zAY Tryz.prog zCo zI7 = true:=by kernel_rfl
theorem k_graph_Text : zAY Tryz.prog zAm zHr = true:=by kernel_rfl
theorem k_sheet_With : zAY Tryz.prog zDj zHs = true:=by kernel_rfl
theorem k_graph_Check : zAY Tryz.prog zCW zGt = true:=by kernel_rfl
theorem k_addr_Compare : zAY Tryz.prog zAk zF0 = true:=by kernel_rfl
theorem zAw : zAY Tryz.prog zZ zAD = true:=by kernel_rfl
theorem k_addr_ok : zAY Tryz.prog zGm a_addr_ok = true:=by kernel_rfl
theorem zGx : zAY Tryz.prog zAR zCb = true:=by kernel_rfl
theorem zJF : zAY Tryz.prog zAn zA4 = true:=by kernel_rfl
theorem zAf : zAY Tryz.prog zV zn = true:=by kernel_rfl
theorem zJG : zAY Tryz.prog zAo zFT = true:=by kernel_rfl
theorem zAi : zAY Tryz.prog zQ zy = true:=by kernel_rfl
theorem k_cmp_Or_int_ : zAY Tryz.prog zDE zGv = true:=by kernel_rfl
theorem zGy : zAY Tryz.prog zBG zDk = true:=by kernel_rfl
theorem zGI : zAY Tryz.prog zAA zCK = true:=by kernel_rfl
theorem zGz : zAY Tryz.prog zx zCd = true:=by kernel_rfl
theorem zE9 : zAY Tryz.prog zL zBm = true:=by kernel_rfl
theorem zFV : zAY Tryz.prog zU zBH = true:=by kernel_rfl
theorem zEL : zAY Tryz.prog zN zBO = true:=by kernel_rfl
theorem zIA : zAY Tryz.prog zBk zEw = true:=by kernel_rfl
theorem zEk : zAY Tryz.prog zq zBg = true:=by kernel_rfl
theorem zFW : zAY Tryz.prog zp zB1 = true:=by kernel_rfl
theorem k_formula_opOf : zAY Tryz.prog zBl zDy = true:=by kernel_rfl
theorem zEM : zAY Tryz.prog za zBP = true:=by kernel_rfl
theorem zEN : zAY Tryz.prog zAJ zBQ = true:=by kernel_rfl
theorem zFA : zAY Tryz.prog zAb zf = true:=by kernel_rfl
theorem zD3 : zAY Tryz.prog zu zBJ = true:=by kernel_rfl
theorem zFB : zAY Tryz.prog ze zBn = true:=by kernel_rfl
theorem zFC : zAY Tryz.prog zAc zBo = true:=by kernel_rfl
theorem zJH : zAY Tryz.prog zt zDO = true:=by kernel_rfl
theorem zIB : zAY Tryz.prog zAB zCG = true:=by kernel_rfl
theorem zFD : zAY Tryz.prog zd zBp = true:=by kernel_rfl
theorem zIC : zAY Tryz.prog zBB zC4 = true:=by kernel_rfl
theorem zD4 : zAY Tryz.prog zm zBK = true:=by kernel_rfl
theorem zFE : zAY Tryz.prog zA7 zA8 = true:=by kernel_rfl
theorem zJI : zAY Tryz.prog zAF zDP = true:=by kernel_rfl
theorem k_value_Is : zAY Tryz.prog zCQ zHU = true:=by kernel_rfl
theorem k_value_Wrong : zAY Tryz.prog zCX zEg = true:=by kernel_rfl
theorem k_strings_Trim : zAY Tryz.prog zBI zD1 = true:=by kernel_rfl
theorem zDc : zAY Tryz.prog zAa zBA = true:=by kernel_rfl
theorem k_value_Whole : zAY Tryz.prog zBf zEh = true:=by kernel_rfl
theorem k_addr_Ref : zAY Tryz.prog zAr zHV = true:=by kernel_rfl
theorem zFF : zAY Tryz.prog zAd zBq = true:=by kernel_rfl
theorem zEl : zAY Tryz.prog zAS zBh = true:=by kernel_rfl
theorem zEO : zAY Tryz.prog zAK zBR = true:=by kernel_rfl
theorem zFt : zAY Tryz.prog zAW zB9 = true:=by kernel_rfl
theorem k_addr_Ref_c1 : zAY Tryz.prog zCY zEj = true:=by kernel_rfl
theorem zCz : zAY Tryz.prog zb zAp = true:=by kernel_rfl
theorem zEP : zAY Tryz.prog zAL zBS = true:=by kernel_rfl
end Go.AM
namespace Go.AM
open Go.RowKit
theorem calls_of_good {P : Program} {GT : Nat → Option AV} {w : World} {M : AMap} {I : Nat → Prop} {H H' : Heap} {f : FuncId} {fn : Func} {args : List AV} {cargs : List Value} {v : AV}
  (hf : P.funcs[f]? = some fn) (hname : (fn.name == "runtime.NumGoroutine") = false) (hb : fn.body.isSome = true) (hg : Good P GT f args H v H') (hS : Sim GT w M I H) (hA : zCP w M I H.length args cargs) :
  Calls P f cargs.toArray w fun e w'=>∃ v',e = .returned v' ∧ ∃ M' I',Grow w M I H w' M' I' H' ∧ Sim GT w' M' I' H' ∧ Rel w' M' I' H'.length v v':=by
 have h1 : fn.name ≠ "runtime.NumGoroutine" := by simpa using hname
 obtain ⟨c,hb⟩:=Option.isSome_iff_exists.1 hb
 have hrun : (callFunc f cargs.toArray).run P w = .ok (.enter f cargs.toArray) w:=by simp [callFunc,hf,h1,hb]
 have h:=hg.n hA w M I cargs hS hA
 rw [hrun] at h
 exact h
def zDm (w : World) : Nat → Prop:=fun k=>k < w.heap.size
theorem below_of_grow {w w' : World} {M M' : AMap} {I I' : Nat → Prop} {H' : Heap} (h : Grow w M I [] w' M' I' H') : Below w.heap.size w w':=
 ⟨h.os,h.tape,h.output,h.size,fun k hk=>h.frame k hk (by rintro ⟨b,x,o,hb,_⟩; simp at hb)⟩
theorem relL_nil (w : World) (M : AMap) (I : Nat → Prop) (n : Nat) : zCP w M I n [] []:=⟨rfl,fun i c v h=>by simp at h⟩
theorem zFX {w : World} {M : AMap} {I : Nat → Prop} {n : Nat} {x : AV} {v : Value} {xs : List AV} {vs : List Value} (h : Rel w M I n x v) (hs : zCP w M I n xs vs) : zCP w M I n (x :: xs) (v :: vs):=
 ⟨by rw [List.length_cons,List.length_cons,hs.1],fun i c u hc hu=>by
  cases i with
  | zero=>simp only [List.getElem?_cons_zero,Option.some.injEq] at hc hu; subst hc; subst hu; exact h
  | succ i=>simp only [List.getElem?_cons_succ] at hc hu; exact hs.2 i c u hc hu⟩
theorem rel_str (w : World) (M : AMap) (I : Nat → Prop) (n : Nat) (s : ByteArray) : Rel w M I n (.str s.data.toList) (.string s):=.str s.data.toList
theorem rel_str' {w : World} {M : AMap} {I : Nat → Prop} {n : Nat} {s : List UInt8} {v : Value} (h : Rel w M I n (.str s) v) : v = .string ⟨s.toArray⟩:=by cases h; rfl
theorem relL_one {w : World} {M : AMap} {I : Nat → Prop} {n : Nat} {x : AV} {vs : List Value} (h : zCP w M I n [x] vs) : ∃ v,vs = [v] ∧ Rel w M I n x v:=by
 obtain ⟨hl,h⟩:=h
 obtain ⟨v,rfl⟩:=List.length_eq_one_iff.1 hl.symm
 exact ⟨v,rfl,h 0 x v rfl rfl⟩
theorem relL_two {w : World} {M : AMap} {I : Nat → Prop} {n : Nat} {x y : AV} {vs : List Value} (h : zCP w M I n [x,y] vs) : ∃ v u,vs = [v,u] ∧ Rel w M I n x v ∧ Rel w M I n y u:=by
 obtain ⟨hl,h⟩:=h
 match vs,hl with
 | [v,u],_=>exact ⟨v,u,rfl,h 0 x v rfl rfl,h 1 y u rfl rfl⟩
theorem zG0 {GT : Nat → Option AV} {w w' : World} {M : AMap} {I : Nat → Prop} {H : Heap} (hS : Sim GT w M I H) (h : Below w.heap.size w w') : Grow w M I H w' M I H ∧ Sim GT w' M I H:=by
 have hb : ∀ k,k < w.heap.size → w'.heap[k]? = w.heap[k]?:=fun k hk=>h.block k hk
 have hs : ∀ g s,w.shape? g = some s → w'.shape? g = some s:=fun g s hg=>by
  have hlt : g < w.heap.size:=by
   unfold World.shape? at hg
   split at hg
   ·rename_i e; exact (Array.getElem?_eq_some_iff.1 e).1
   ·cases hg
  rw [zAQ (hb g hlt)]; exact hg
 refine ⟨⟨h.os,h.tape,h.output,h.size,fun _ _=>rfl,fun _ h=>h,fun _ h _=>.inl h,fun k hk _=>hb k hk,fun _ _ h=>h,hs,Nat.le_refl _⟩, ?_⟩
 refine ⟨fun g x hg=>(hS.glob g x hg).mono (fun _ h=>h) (fun k hk=>hb k (hS.idom k hk)) (fun _ _=>rfl) (Nat.le_refl _) hs,fun k hk=>Nat.lt_of_lt_of_le (hS.idom k hk) h.size,fun b x hx=>?_,hS.inj,fun g x hg=>(hS.shp g x hg).imp fun e h=>hs g _ h⟩
 exact (hS.blk b x hx).mono (zg hx).1 (fun _ h=>h) (fun k hk=>hb k (hS.idom k hk)) (fun _ _=>rfl) (Nat.le_refl _) hs (fun g o hM hm=>hb g (hS.live_lt ⟨b,x,o,hx,hm,hM⟩)) (fun _ _ _ _ h=>h)
theorem zG1 {P : Program} {GT : Nat → Option AV} {f : FuncId} {fn : Func} {args : List AV} {H : Heap} {v : AV} (hf : P.funcs[f]? = some fn) (hname : (fn.name == "runtime.NumGoroutine") = false) (hb : fn.body.isSome = true)
  (h : ∀ (w : World) (M : AMap) (I : Nat → Prop) (cargs : List Value),Sim GT w M I H → zCP w M I H.length args cargs → Calls P f cargs.toArray w fun e w'=>∃ v',e = .returned v' ∧ Below w.heap.size w w' ∧ Rel w' M I H.length v v') (hn : zF9 args = true:=by first | rfl | exact Go.AM.zHP (by assumption) | exact Go.AM.noPan_tab (by assumption) | exact Go.AM.noPan_lst (by assumption)) : Good P GT f args H v H:=by
 refine zFO hn ?_
 intro w M I cargs hS hA
 have h1 : fn.name ≠ "runtime.NumGoroutine" := by simpa using hname
 obtain ⟨c,hb⟩:=Option.isSome_iff_exists.1 hb
 have hrun : (callFunc f cargs.toArray).run P w = .ok (.enter f cargs.toArray) w:=by simp [callFunc,hf,h1,hb]
 rw [hrun]
 exact (h w M I cargs hS hA).mono fun e w' ⟨v',he,hB,hR⟩=>⟨v',he,M,I,(zG0 hS hB).1,(zG0 hS hB).2,hR⟩
theorem rel_raw' {w : World} {M : AMap} {I : Nat → Prop} {n : Nat} {a v : Value} (h : Rel w M I n (.raw a) v) : v = a:=by cases h; rfl
end Go.AM
namespace Go.AM
def zEX (n : Int) : AV:=.iface zK (.int .i64 n)
def zr (n : Int) : AV:=.int .i64 n
end Go.AM
namespace Go.AM
structure retQ (F : AF) (H : Heap) (fr : Fr) (H1 : Heap) (Q : AV → Heap → Prop) : Prop where
 h : ∃ v H',zFJ F H fr H1 v H' ∧ Q v H'
def finF (F : AF) (H : Heap) (v : AV) (H' : Heap) : Post:=fun e fr H1=>match e with
  | .normal=>retP F H fr H1 v H'
  | .ret=>retP F H fr H1 v H'
  | _=>False
theorem zW {C : CSpec} {GT : Nat → Option AV} {F : AF} {args : List AV} {H : Heap} {v : AV} {H' : Heap} (h : EW C GT F.body (finF F H v H') (zD5 0 args) H) : EFun C GT F args H v H':=h
def AC.rest : AC → AC
 | .seq _ b=>b
 | c=>c
def AC.first : AC → AC
 | .seq a _=>a
 | c=>c
def AC.body : AC → AC
 | .block _ _ c=>c
 | .loop _ c=>c
 | c=>c
def AC.behind (c : AC) : Nat → AC
 | 0=>c
 | n + 1=>(c.behind n).rest
theorem shr1 (s : Nat) : zEZ .shr .u64 (s : Int) 1 = some (.int .u64 ((s / 2 : Nat) : Int)):=by
 simp only [zEZ]
 rw [if_neg tO]
 have : (2 : Int) ^ Nat.min (1 : Int).toNat IntKind.u64.bits = 2:=by rfl
 rw [this,Int.fdiv_eq_ediv_of_nonneg _ tO]
 rfl
theorem sWu64n {x : Int} {r : Nat} {K : Int → Prop} (h : x = r) (hr : r ≤ 9223372036854775807) (k : K (r : Int)) : valP (IntKind.wrap .u64 x) K:=
 sVal (by rw [IntWalk.u64_in x tO,h]) k
end Go.AM
namespace Go.AM
theorem Owns.apart {H0 H : Heap} {v w : AV} {k k' : Nat} {xs ys : List AV} (h : Owns H0 H v k xs) (g : Owns H0 H w k' ys) (hne : ∀ x y,x ∈ xs → y ∈ ys → x ≠ y) {b : Nat} (hb : w.blk = some b) : v.blk ≠ some b:=by
 intro e
 rcases h with ⟨rfl,_⟩ | ⟨b1,rfl,_,h2,h3⟩
 ·cases e
 ·rcases g with ⟨rfl,_⟩ | ⟨b2,rfl,_,g2,g3⟩
  ·cases hb
  ·simp only [AV.blk,Option.some.injEq] at e hb
   subst e; subst hb
   rw [h2] at g2
   simp only [Option.some.injEq,ABlk.row.injEq] at g2
   obtain ⟨_,rfl⟩:=g2
   cases xs with
   | nil=>exact h3 rfl
   | cons x xs=>exact hne x x (by simp) (by simp) rfl
theorem Owns.after {H0 H H' : Heap} {v w : AV} {k : Nat} {ys : List AV} (hw : Owns H0 H w k ys) (hap : ∀ b,w.blk = some b → v.blk ≠ some b) (hfr : ∀ c x,v.blk ≠ some c → H[c]? = some x → H'[c]? = some x) : Owns H0 H' w k ys:=
 hw.keep fun b x hb hx=>hfr b x (hap b hb) hx
end Go.AM
