/- Several texts of mine in one (Gq, Am33, Sk0, Sk1, Be0). Own work. -/
import Derived.Test.YthllabjbdobpgaaGreatDoorLdQ3
import Derived.Test.YthllabjbdobpgaaGreatDoorGRffRfi
import Derived.Test.YthllabjbdobpgaaGreatDoorGRf5Rf3
import Derived.Test.YthllabjbdobpgaaGreatDoorGAm30Fp1
import Derived.Shelf.Spec.SlicesInsert
import Derived.Lib.AppendZerosOnto
import Derived.Laws.NewBlocks
import Derived.Test.YthllabjbdobpgaaGreatDoorGAm23Am29
set_option linter.all false
set_option maxRecDepth 100000
namespace Go.Proofs.YthllabjbdobpgaaGreatDoor
open Go.AM
theorem parK : ParK Tryz.prog:={ hm:=mixed,contains:=zED,mkSet:=zG4,trimR:=zF5,trimL:=zGb,trim:=k_strings_Trim,slPre:=zGY,pre:=zIe,slTrim:=zF6,trimP:=zH6,wrong:=k_value_Wrong,is:=k_value_Is,whole:=k_value_Whole,lit:=zMQ,ref:=k_addr_Ref,dollar:=k_addr_Ref_c1,wordly:=zLB,called:=zLC,plain:=zMR,opOf:=k_formula_opOf,fail:=zGy,blanks:=zF1,word:=zG2,want:=zG0,within:=zF2,text:=zG1,neg:=zHU,negc:=zF4,prim:=zGz,prim1:=zFd,prim2:=zFe,call:=zG3,argument:=zE3,two:=zHT }
theorem parK2 : ParK2 Tryz.prog:={ parK with const:=zJW,parse:=zMK,clos:=zJZ,dfr:=by kernel_rfl,rcv:=by kernel_rfl }
theorem refK : RefK Tryz.prog:={ hm:=mixed,wordly:=zK7,wrongs:=zK8,bad:=k_sccref1_Bad,named:=zMP,token:=zMM,called:=zLA,whole:=zMO,ref:=k_sccref1_Ref,sign:=k_sccref1_Sign,tight:=zMN,fail:=zKE,deeper:=zIf,close:=zJa,one:=zK6,call:=zKF,loose:=zJX }
theorem refK2 : RefK2 Tryz.prog:={ refK with parse:=zMJ,isIn:=k_sccref1_In,ahead:=zMH,text:=k_sccref2_Text }
theorem refK3 : RefK3 Tryz.prog:={ refK2 with check:=zMG }
section
variable {m : Int} {ev : Value}
theorem parG (hev : ∃ te pe,ev = .iface te pe) : ParG Tryz.prog (gtQ m ev):={ atoi:=atoi_ok,atoi2:=atoi_bad hev,texts:=rfl,loose:=rfl }
end
section
variable {GT : Nat → Option AV}
theorem g_trim (b m : Nat) (ws : List Nat) (H : Heap) (hm : ws.length = m) (hb : H[b]? = some (.row 1 (ws.map zBa))) (hw : Small ws) (hl : m ≤ 1000000) : Go.AM.Good Tryz.prog GT z8 [.sl (some false) b 1 0 m] H (.sl (some false) b 1 0 (wds (wval ws)).length) H:=
 zM mixed zIg (trim_ev b m ws H hm hb hw hl)
theorem g_words (x : Nat) (H : Heap) (hx : x < 18446744073709551616) : Go.AM.Good Tryz.prog GT zB6 [u64V x] H (zEY x) H:=zM mixed zH5 (words_ev g_trim x hx H)
theorem g_badd (av bv : AV) (x y : Nat) (H : Heap) (ha : Mag av x) (hb : Mag bv y) (h1 : (wds x).length ≤ 100000) (h2 : (wds y).length ≤ 100000) : Go.AM.Good Tryz.prog GT zCa [av,bv] H (zEY (x + y)) H:=
 zM mixed zJd (add_ev g_trim av bv x y H ha hb h1 h2)
theorem g_bsub (av bv : AV) (x y : Nat) (H : Heap) (ha : Mag av x) (hb : Mag bv y) (h : y ≤ x) (h1 : (wds x).length ≤ 100000) : Go.AM.Good Tryz.prog GT zBr [av,bv] H (zEY (x - y)) H:=
 zM mixed zJf (sub_ev g_trim av bv x y _ H ha hb h rfl h1)
theorem g_bcmp (av bv : AV) (x y : Nat) (H : Heap) (ha : Mag av x) (hb : Mag bv y) (h1 : (wds x).length ≤ 100000) (h2 : (wds y).length ≤ 100000) : Go.AM.Good Tryz.prog GT zCb [av,bv] H (zJ (cmpN x y)) H:=
 zM mixed zJe (bcmp_ev av bv x y H ha hb h1 h2)
theorem g_bsum (av bv : AV) (xn yn : Bool) (x y : Nat) (H : Heap) (ha : Mag av x) (hb : Mag bv y) (h1 : (wds x).length ≤ 100000) (h2 : (wds y).length ≤ 100000) :
  Go.AM.Good Tryz.prog GT zCZ [.bool xn,av,.bool yn,bv] H (.tup [.bool (sumS xn x yn y).1,zEY (sumS xn x yn y).2]) H:=zM mixed zJc (bsum_ev g_badd g_bsub g_bcmp av bv xn yn x y H ha hb h1 h2)
theorem g_bit (av : AV) (m i : Nat) (H : Heap) (ha : Mag av m) (hl : (wds m).length ≤ 100000) (hi : i ≤ 1000000) : Go.AM.Good Tryz.prog GT zCc [av,zJ i] H (u64V (m / 2 ^ i % 2)) H:=zM mixed zJg (bit_ev av m i H ha hl hi)
theorem g_tzb (b m n : Nat) (x av : AV) (H : Heap) (hb : H[b]? = some (.box [x,av])) (ha : Mag av m) (h0 : m ≠ 0) (hl : (wds m).length ≤ 100) (hn : n ≤ 10000) (h1 : m % 2 ^ n = 0) (h2 : m / 2 ^ n % 2 = 1) :
  Go.AM.Good Tryz.prog GT zAN [.ref b 0 0 0] H (u64V n) H:=zM mixed zC9 (tzb_ev g_bit b m n x av H hb ha h0 hl hn h1 h2)
theorem g_blen (av : AV) (m : Nat) (H : Heap) (ha : Mag av m) (hl : (wds m).length ≤ 1000) : Go.AM.Good Tryz.prog GT zBs [av] H (zK (Go.AM.bits m)) H:=zM mixed zHV (length_ev av m H ha hl)
theorem g_uint64 (b m : Nat) (x av : AV) (H : Heap) (hb : H[b]? = some (.box [x,av])) (ha : Mag av m) (hm : m < 18446744073709551616) : Go.AM.Good Tryz.prog GT zA3 [.ref b 0 0 0] H (u64V m) H:=
 zM mixed zE2 (uint64_ev b m x av H hb ha hm)
theorem g_int64 (b : Nat) (v : Int) (H : Heap) (hb : H[b]? = some (.box (zGF v))) (hv : zDZ v) : Go.AM.Good Tryz.prog GT zAe [.ref b 0 0 0] H (zJ v) H:=zM mixed zFc (int64_ev g_uint64 b v H hb hv)
theorem g_isInt64 (b : Nat) (v : Int) (H : Heap) (hb : H[b]? = some (.box (zGF v))) (hv : (wds v.natAbs).length ≤ 100) : Go.AM.Good Tryz.prog GT zAv [.ref b 0 0 0] H (.bool (decide (zDZ v))) H:=
 zM mixed zEn (isInt64_ev g_blen g_tzb b v H hb hv)
theorem g_give (b n : Nat) (neg : Bool) (x0 x1 : AV) (H : Heap) (hb : H[b]? = some (.box [x0,x1])) : Go.AM.Good Tryz.prog GT zu [.ref b 0 0 0,.bool neg,zEY n] H (.ref b 0 0 0) (H.set b (.box [.bool (neg && decide (0 < n)),zEY n])):=
 zM mixed zDW (give_ev b n neg x0 x1 H hb)
theorem g_setInt64 (b : Nat) (v : Int) (x0 x1 : AV) (H : Heap) (hb : H[b]? = some (.box [x0,x1])) (hv : zDZ v) : Go.AM.Good Tryz.prog GT zAn [.ref b 0 0 0,zJ v] H (.ref b 0 0 0) (H.set b (.box (zGF v))):=
 zM mixed zEW (setInt64_ev g_words g_give b v x0 x1 H hb hv)
theorem k_bigNew : zAE Tryz.prog zAk a_bigNew = true:=by kernel_rfl
theorem g_newInt (v : Int) (H : Heap) (hv : zDZ v) : Go.AM.Good Tryz.prog GT zAk [zJ v] H (.ref H.length 0 0 0) (H ++ [.box (zGF v)]):=zM mixed k_bigNew (newInt_ev g_setInt64 v H hv)
theorem g_fits (b : Nat) (v : Int) (H : Heap) (hb : H[b]? = some (.box (zGF v))) (hv : (wds v.natAbs).length ≤ 100) : Go.AM.Good Tryz.prog GT zC6 [.ref b 0 0 0] H (.bool (decide (zDZ v))) H:=zM mixed k_sccref1_Fits (fits_ev g_isInt64 b v H hb hv)
theorem g_give0 (b : Nat) (xs : List AV) (nv x0 x1 : AV) (H : Heap) (hb : H[b]? = some (.box [x0,x1])) (hv : zBI nv 1 xs) : Go.AM.Good Tryz.prog GT zu [.ref b 0 0 0,.bool false,nv] H (.ref b 0 0 0) (H.set b (.box [.bool false,nv])):=
 zM mixed zDW (give0_ev b xs nv x0 x1 H hb hv) (hn:=by obtain ⟨q,k',rfl,_⟩:=hv; rfl)
theorem g_mul10 (av : AV) (x : Nat) (H : Heap) (ha : Mag av x) (hl : (wds x).length ≤ 100000) : Go.AM.Good Tryz.prog GT zCY [av,zEY 10] H (mulV x) H:=zM mixed zJb (mul10_ev g_trim av x _ H ha rfl hl)
theorem g_bigMul (b t v : Nat) (av : AV) (H : Heap) (hb : H[b]? = some (.box [.bool false,av])) (ht : H[t]? = some (.box (zGF 10))) (ha : Mag av v) (hl : (wds v).length ≤ 1000) : Go.AM.Good Tryz.prog GT zAt [.ref b 0 0 0,.ref b 0 0 0,.ref t 0 0 0] H (.ref b 0 0 0) (H.set b (.box [.bool false,mulV v])):=
 zM mixed zGZ (bigMul_ev g_mul10 g_give0 b t v av H hb ht ha hl)
theorem g_bigAddM (b t v d : Nat) (av : AV) (H : Heap) (hb : H[b]? = some (.box [.bool false,av])) (ht : H[t]? = some (.box (zGF d))) (ha : Mag av v) (hl : (wds v).length ≤ 1000) (hd : (wds d).length ≤ 1000) : Go.AM.Good Tryz.prog GT zAu [.ref b 0 0 0,.ref b 0 0 0,.ref t 0 0 0] H (.ref b 0 0 0) (H.set b (.box (zGF ((v + d : Nat) : Int)))):=
 zM mixed zGa (bigAddM_ev g_bsum g_give b t v d av H hb ht ha hl hd)
theorem bigG : BigG Tryz.prog GT:={ new:=fun v H h=>g_newInt v H h,mul:=fun b t v av H h1 h2 h3 h4=>g_bigMul b t v av H h1 h2 h3 h4,add:=fun b t v d av H h1 h2 h3 h4 h5=>g_bigAddM b t v d av H h1 h2 h3 h4 h5,fit:=fun b v H h1 h2=>g_fits b v H h1 h2,i64:=fun b v H h1 h2=>g_int64 b v H h1 h2 }
theorem g_aok (c r : Int) (H : Heap) : Go.AM.Good Tryz.prog GT zJE [zn c r] H (.bool (okC c r)) H:=zM mixed k_addr_ok (aok_ev c r H)
theorem g_acheck (c r : Int) (H : Heap) : Go.AM.Good Tryz.prog GT zBE [zn c r] H (if okC c r = true then .nili else zEJ 1) H:=zM mixed k_addr_Check (acheck_ev g_aok c r H)
theorem g_nan (a : Int) (H : Heap) : Go.AM.Good Tryz.prog GT zCM [zJ a] H (.bool false) H:=zM mixed zK9 (nan_ev a H)
theorem g_ccmp (a b : Int) (H : Heap) : Go.AM.Good Tryz.prog GT zBq [zJ a,zJ b] H (zJ (cmp3 a b)) H:=zM mixed zJY (ccmp_ev g_nan a b H)
theorem g_cor (b : Nat) (x y : Int) (H : Heap) (hb : H[b]? = some (.row 1 [zJ x,zJ y])) : Go.AM.Good Tryz.prog GT zEU [.sl (some false) b 1 0 2] H (zJ (if x ≠ 0 then x else y)) H:=zM mixed k_cmp_Or_int_ (cor_ev b x y H hb)
theorem g_acomp (c1 r1 c2 r2 : Int) (H : Heap) : Go.AM.Good Tryz.prog GT zBC [zn c1 r1,zn c2 r2] H (zJ (zMd c1 r1 c2 r2)) H:=zM mixed k_addr_Compare (acomp_ev g_ccmp g_cor c1 r1 c2 r2 H)
theorem g_aless (a b : Fil) (H : Heap) : Go.AM.Good Tryz.prog GT zDz [zn a.col a.row,zn b.col b.row] H (.bool (lessC a b)) H:=zM mixed k_addr_Less (aless_ev g_acomp a b H)
theorem g_told_nil (H : Heap) : Go.AM.Good Tryz.prog GT zDT [.nili] H (.int .i64 0) H:=zM mixed zKi (told_nil_ev H)
end
section
variable {m : Int} {ev : Value} (hev : ∃ te pe,ev = .iface te pe)
abbrev GQ (m : Int) (ev : Value) : CSpec:=Go.AM.Good Tryz.prog (gtQ m ev)
include hev in
theorem g_text (s : Bs) (H : Heap) : GQ m ev zA1 [.str s] H (eV (zAo s)) H:=zM mixed k_graph_Text (gtext_ev (p_const parK2) (p_parse parK2 (parG hev)) s H)
include hev in
theorem g_check (lv : AV) (l : List Fil) (H : Heap) (hv : view H 3 lv = some (l.map zR)) : GQ m ev zDe [lv] H (eV (zAP l)) H:=zM mixed k_graph_Check (gcheck_ev g_acheck g_aless (g_text hev) lv l H hv)
theorem g_rcheck (lv : AV) (l : List Fil) (H : Heap) (hv : view H 3 lv = some (l.map zR)) : GQ m ev zAr [lv] H (zK (zAP l)) H:=q_check refK3 bigG lv l H hv
theorem g_rtext (s : Bs) (H : Heap) : GQ m ev zBW [.str s] H (zK (zAo s)) H:=q_text refK2 bigG s H
theorem g_told_err (n : Int) (H : Heap) : GQ m ev zDT [zEJ n] H (.int .i64 n) H:=zM mixed zKi (told_err_ev (fun n old b H hb=>as_good n old b H hb) n H)
theorem g_errN (n : Nat) (H : Heap) : GQ m ev zDd [eV n,zK n] H (.bool true) H:=by
 have h : ErrIs (eV n) n:=by
  unfold eV
  by_cases h0 : n = 0
  ·rw [zMt h0]; exact .inl ⟨rfl,by omega⟩
  ·rw [zMq h0]; exact .inr rfl
 have:=zM (GT:=gtQ m ev) mixed zMI (same_ev g_told_nil g_told_err (eV n) n n h H) (hn:=by rcases h with ⟨h,_⟩ | h <;> rw [h] <;> rfl)
 rwa [show ((n : Int) == (n : Int)) = true from beq_self_eq_true _] at this
end
end Go.Proofs.YthllabjbdobpgaaGreatDoor
namespace Go.AM
section
variable {P : Program} {GT : Nat → Option AV} {w w' : World} {M : AMap} {I : Nat → Prop} {H : Heap}
theorem Sim.mut_at (hS : Sim GT w M I H) {b : Nat} {x : ABlk} (hb : H[b]? = some x) (hm : x.mut = true) {g o : Nat} (hM : M b = some (g,o)) : ∃ _cur : Array Value,True ∧ ¬ I g ∧ g < w.heap.size:=by
 have h:=hS.blk b x hb
 cases x with
 | dead=>simp [ABlk.mut] at hm
 | frz=>simp [ABlk.mut] at hm
 | box cs=>
  obtain ⟨g1,o1,cur,h1,h2,h3,_⟩:=h
  rw [hM] at h1
  cases h1
  obtain ⟨e,fz,h4,h5⟩:=h2
  exact ⟨cur,trivial,h3,(zNA.1 h4).1⟩
 | mp ks vs=>
  obtain ⟨g1,es,cl,h1,h2,h3,_⟩:=h
  rw [hM] at h1
  simp only [zMp,zMw] at h1
  obtain ⟨rfl,_⟩:=h1
  exact ⟨#[],trivial,h3,(zNA.1 h2).1⟩
 | row k xs=>
  obtain ⟨_,⟨h1,_⟩ | ⟨g1,o1,cur,h1,h2,h3,_⟩⟩:=h
  ·rw [hM] at h1; cases h1
  ·rw [hM] at h1
   cases h1
   obtain ⟨e,fz,h4,h5⟩:=h2
   exact ⟨cur,trivial,h3,(zNA.1 h4).1⟩
theorem row_turned (hS : Sim GT w M I H) {b : Nat} {x : ABlk} (hb : H[b]? = some x) (hm : x.mut = true) {g o : Nat} (hM : M b = some (g,o)) (hos : w'.os = w.os) (htape : w'.tape = w.tape) (hout : w'.output = w.output) (hsize : w.heap.size ≤ w'.heap.size)
  (hfr : ∀ j,j < w.heap.size → j ≠ g → w'.heap[j]? = w.heap[j]?) (hshape : ∀ s,w.shape? g = some s → w'.shape? g = some s) {y : ABlk} {G : Nat → Prop} (hG : ∀ j,G j → (j = g ∧ y.mut = false) ∨ w.heap.size ≤ j) (hGl : ∀ j,G j → j < w'.heap.size)
  (hy : BlkOK w' M (fun j=>I j ∨ G j) H.length b y) :
  Grow w M I H w' M (fun j=>I j ∨ G j) (H.set b y) ∧ Sim GT w' M (fun j=>I j ∨ G j) (H.set b y):=by
 obtain ⟨cur,hcur,hnI,hglt⟩:=hS.mut_at hb hm hM
 have hblt:=(zg hb).1
 have live : zGj H M g:=⟨b,x,o,hb,hm,hM⟩
 have shp : ∀ j s,w.shape? j = some s → w'.shape? j = some s:=fun j s hs=>by
  by_cases hj : j = g
  ·subst hj; exact hshape s hs
  ·have hlt : j < w.heap.size:=by
    rcases zOS j w.heap.size with h | h
    ·exact h
    ·simp [World.shape?,zOb h] at hs
   rw [zAp (hfr j hlt hj)]; exact hs
 have hIh : ∀ k,I k → w'.heap[k]? = w.heap[k]?:=fun k hk=>hfr k (hS.idom k hk) (fun e=>hnI (e ▸ hk))
 have other : ∀ b' x',(H.set b y)[b']? = some x' → b' ≠ b → H[b']? = some x':=fun b' x' h hne=>by rwa [zNE (zNp hne)] at h
 have at_b : (H.set b y)[b]? = some y:=zNB hblt
 refine ⟨⟨hos,htape,hout,hsize,fun _ _=>rfl,fun _ h=>.inl h,fun j hj hlt=>?_,fun j hlt hn=>hfr j hlt (fun e=>hn (e ▸ live)),fun j hlt hl=>?_,shp,by rw [zM5]; exact zMv _⟩, ?_⟩
 ·rcases hj with hj | hj
  ·exact .inl hj
  ·rcases hG j hj with ⟨rfl,_⟩ | h
   ·exact .inr live
   ·omega
 ·obtain ⟨b',x',o',h1,h2,h3⟩:=hl
  by_cases e : b' = b
  ·subst e
   rw [hM] at h3
   cases h3
   exact live
  ·exact ⟨b',x',o',other b' x' h1 e,h2,h3⟩
 ·refine ⟨fun q z hz=>?_,fun k hk=>?_,fun b' x' hx=>?_,fun b1 b2 x1 x2 g1 o1 o2 h1 m1 h2 m2 e1 e2=>?_,fun q z hz=>?_⟩
  ·exact (hS.glob q z hz).mono (M':=M) (n:=0) (fun _ h=>.inl h) hIh (fun _ h=>absurd h (zNq _)) (zNl _) shp
  ·rcases hk with hk | hk
   ·exact zNX (hS.idom k hk) hsize
   ·exact hGl k hk
  ·rw [zM5]
   by_cases e : b' = b
   ·subst e
    rw [at_b] at hx
    cases hx
    exact hy
   ·have hx':=other b' x' hx e
    have far : ∀ g1 o1,M b' = some (g1,o1) → x'.mut = true → g1 ≠ g ∧ g1 < w.heap.size:=fun g1 o1 h1 hm1=>by
     refine ⟨fun eg=>?_,(hS.mut_at hx' hm1 h1).choose_spec.2.2⟩
     subst eg
     exact e (hS.inj b' b x' x g1 o1 o hx' hm1 hb hm h1 hM)
    refine (hS.blk b' x' hx').mono (zg hx').1 (fun _ h=>.inl h) hIh (fun _ _=>rfl) (zMv _) shp (fun g1 o1 h1 hm1=>?_) (fun g1 o1 h1 hm1 hn=>?_)
    ·exact hfr g1 (far g1 o1 h1 hm1).2 (far g1 o1 h1 hm1).1
    ·rintro (h | h)
     ·exact hn h
     ·rcases hG g1 h with ⟨rfl,_⟩ | h'
      ·exact (far _ o1 h1 hm1).1 rfl
      ·have:=(far g1 o1 h1 hm1).2
       omega
  ·have key : ∀ {b1 b2 : Nat} {x1 x2 : ABlk} {g1 o1 o2 : Nat},(H.set b y)[b1]? = some x1 → x1.mut = true → (H.set b y)[b2]? = some x2 → x2.mut = true → M b1 = some (g1,o1) → M b2 = some (g1,o2) → b1 = b → b2 = b:=by
    intro b1 b2 x1 x2 g1 o1 o2 h1 m1 h2 m2 e1 e2 e
    subst e
    by_cases e' : b2 = b1
    ·exact e'
    ·rw [hM] at e1
     cases e1
     exact hS.inj b2 b1 x2 x g o2 o (other b2 x2 h2 e') m2 hb hm e2 hM
   by_cases c1 : b1 = b
   ·exact c1.trans (key h1 m1 h2 m2 e1 e2 c1).symm
   ·by_cases c2 : b2 = b
    ·exact absurd (key h2 m2 h1 m1 e2 e1 c2) c1
    ·exact hS.inj b1 b2 x1 x2 g1 o1 o2 (other b1 x1 h1 c1) m1 (other b2 x2 h2 c2) m2 e1 e2
  ·obtain ⟨e,h⟩:=hS.shp q z hz
   exact ⟨e,shp q _ h⟩
theorem row_gone (hS : Sim GT w M I H) {b k : Nat} {xs : List AV} (hb : H[b]? = some (.row k xs)) {g o : Nat} (hM : M b = some (g,o)) (hos : w'.os = w.os) (htape : w'.tape = w.tape) (hout : w'.output = w.output) (hsize : w.heap.size ≤ w'.heap.size)
  (hfr : ∀ j,j < w.heap.size → j ≠ g → w'.heap[j]? = w.heap[j]?) (hshape : ∀ s,w.shape? g = some s → w'.shape? g = some s) {ys : List AV} (he : Elems k ys) {g' o' cap : Nat} (hg : g' = g ∨ w.heap.size ≤ g') (hlt : g' < w'.heap.size) (hc : ys.length ≤ cap) (hm : cap ≤ maxLen)
  (hcells : ∀ i j y c,ys[i]? = some y → y.cells[j]? = some c → ∃ v,w'.cell? ⟨g',o' + i * k + j,none⟩ = some v ∧ ∀ M I n,Rel w' M I n c v) :
  ∃ M' I',Grow w M I H w' M' I' (H.set b .dead) ∧ Sim GT w' M' I' (H.set b .dead) ∧ Rel w' M' I' (H.set b .dead).length (.lst (some false) k ys) (.slice (some ⟨g',o',none⟩) ys.length cap):=by
 obtain ⟨h1,h2⟩:=row_turned (y:=.dead) (G:=fun j=>j = g') hS hb rfl hM hos htape hout hsize hfr hshape (fun j hj=>by
  rcases hg with h | h
  ·exact .inl ⟨hj.trans h,rfl⟩
  ·exact .inr tO) (fun j hj=>by omega) trivial
 refine ⟨M,_,h1,h2, ?_⟩
 exact Rel.mk_lst (by simp) hc hm (.inr rfl) he fun i j x c hx hj=>by
  obtain ⟨v,e1,e2⟩:=hcells i j x c hx hj
  exact ⟨v,e1,e2 _ _ _⟩
theorem row_written (hS : Sim GT w M I H) {b k : Nat} {xs : List AV} (hb : H[b]? = some (.row k xs)) {g o : Nat} (hM : M b = some (g,o)) (hos : w'.os = w.os) (htape : w'.tape = w.tape) (hout : w'.output = w.output) (hsize : w.heap.size ≤ w'.heap.size)
  (hfr : ∀ j,j < w.heap.size → j ≠ g → w'.heap[j]? = w.heap[j]?) (hshape : ∀ s,w.shape? g = some s → w'.shape? g = some s) {ys : List AV} (he : Elems k ys) {cur' : Array Value} (hcur : Cells w' g cur' k) (hfit : o + ys.length * k ≤ cur'.size)
  (hcells : ∀ i j y c,ys[i]? = some y → y.cells[j]? = some c → ∃ v,cur'[o + i * k + j]? = some v ∧ ∀ M I n,Rel w' M I n c v) :
  ∃ M' I',Grow w M I H w' M' I' (H.set b (.row k ys)) ∧ Sim GT w' M' I' (H.set b (.row k ys)):=by
 obtain ⟨_,_,hnI,_⟩:=hS.mut_at hb rfl hM
 obtain ⟨h1,h2⟩:=row_turned (y:=.row k ys) (G:=fun _=>False) hS hb rfl hM hos htape hout hsize hfr hshape (fun _ hj=>hj.elim) (fun _ hj=>hj.elim) ⟨he,.inr ⟨g,o,cur',hM,hcur,by simpa using hnI,hfit,fun i j x c hx hj=>by
  obtain ⟨v,e1,e2⟩:=hcells i j x c hx hj
  exact ⟨v,e1,e2 _ _ _⟩⟩⟩
 exact ⟨M,_,h1,h2⟩
end
end Go.AM
namespace Go.AM
open Go Go.Lib Go.Proofs
theorem zHp {P : Program} (w : World) (dT sT ty elem : TypeId) (size b o dLen dCap : Nat) (a : Addr) (sLen sCap : Nat) (cs : List Value)
  (hu : P.underlying dT = some (.slice elem)) (hs : (P.info? elem).map (·.size) = some size) (hn : cs.length = Nat.min sLen dLen * size)
  (hsrc : ∀ j v,cs[j]? = some v → w.cell? (a.add j) = some v) (hc : ∀ j,j < cs.length → (w.cell? ⟨b,o + j,none⟩).isSome = true) (hf : ∀ j,j < cs.length → w.frozen? ⟨b,o + j,none⟩ = false) (h1 : ∀ v ∈ cs,v.oneCell' = true) :
  (Builtin.copy_ #[dT,sT] ty #[.slice (some ⟨b,o,none⟩) dLen dCap,.slice (some a) sLen sCap]).run P w = .ok (goInt (Nat.min sLen dLen)) (w.setCells b o cs):=by
 have hl:=run_loadCells_list (P:=P) w a cs hsrc
 have hst:=run_storeCells_cells (P:=P) b o cs 0 w (by simpa using hc) (by simpa using hf) h1
 cases hq : P.info? elem with
 | none=>simp [hq] at hs
 | some i=>
  have hi : i.size = size:=by simpa [hq] using hs
  simp [Builtin.copy_,run_underlying hu,Builtin.lenOf,Builtin.firstCells,sizeOf,typeInfo,hq,hi,← hn,hl,hst]
theorem run_clear_k {P : Program} (w : World) (t e ty : TypeId) (z : Value) (zs : List Value) (ht : P.underlying t = some (.slice e)) (hv : ∀ w,(zeroValue e).run P w = .ok z w) (b o n c : Nat) (hn : 0 < n) (hz : (Builtin.zeroCells z.cells n).toList = zs) (h1 : ∀ v ∈ zs,v.oneCell' = true)
  (hc : ∀ j,j < zs.length → (w.cell? ⟨b,o + j,none⟩).isSome = true) (hf : ∀ j,j < zs.length → w.frozen? ⟨b,o + j,none⟩ = false) :
  (Builtin.clear_ #[t] ty #[.slice (some ⟨b,o,none⟩) n c]).run P w = .ok (.tuple #[]) (w.setCells b o zs):=by
 have hst:=run_storeCells_cells (P:=P) b o zs 0 w (by simpa using hc) (by simpa using hf) h1
 simp only [zOk] at hst
 obtain ⟨m,rfl⟩ : ∃ m,n = m + 1:=⟨n - 1,by omega⟩
 simp [Builtin.clear_,run_underlying ht,hv,hz,hst]
end Go.AM
namespace Go.AM
open Go Go.Lib Go.Proofs
structure SameBut (g : Nat) (w w' : World) : Prop where
 os : w'.os = w.os
 tape : w'.tape = w.tape
 out : w'.output = w.output
 size : w.heap.size ≤ w'.heap.size
 other : ∀ j,j < w.heap.size → j ≠ g → w'.heap[j]? = w.heap[j]?
 shape : ∀ j s,w.shape? j = some s → w'.shape? j = some s
theorem SameBut.refl (g : Nat) (w : World) : SameBut g w w:=⟨rfl,rfl,rfl,zMv _,fun _ _ _=>rfl,fun _ _ h=>h⟩
theorem SameBut.trans {g : Nat} {w w1 w2 : World} (h : SameBut g w w1) (k : SameBut g w1 w2) : SameBut g w w2:=
 ⟨k.os.trans h.os,k.tape.trans h.tape,k.out.trans h.out,zOI h.size k.size,fun j hj hn=>(k.other j (zNX hj h.size) hn).trans (h.other j hj hn),fun j s hs=>k.shape j s (h.shape j s hs)⟩
theorem SameBut.drew {g : Nat} (w : World) : SameBut g w w.drew:=⟨rfl,rfl,rfl,zMv _,fun _ _ _=>rfl,fun _ _ h=>h⟩
theorem SameBut.setCell (w : World) (g o : Nat) (v : Value) : SameBut g w (w.setCell ⟨g,o,none⟩ v):=by
 refine ⟨rfl,rfl,rfl,by simp [World.setCell],fun j _ hn=>?_,fun j s hs=>?_⟩
 ·simp only [World.setCell,zON]
  rw [zMq (zNp hn)]
 ·simp only [World.shape?,World.setCell,zON] at hs ⊢
  by_cases e : g = j
  ·rw [zMt e]
   cases hq : w.heap[j]? with
   | none=>rw [hq] at hs; cases hs
   | some ob=>
    rw [hq] at hs
    cases ob <;> simp_all
  ·rw [zMq e]; exact hs
theorem SameBut.setCells (g : Nat) : ∀ (vs : List Value) (o : Nat) (w : World),SameBut g w (w.setCells g o vs)
 | [],_,w=>SameBut.refl g w
 | v :: r,o,w=>by
  rw [World.setCells]
  exact (SameBut.setCell w g o v).trans (SameBut.setCells g r (o + 1) _)
theorem SameBut.alloc (g : Nat) (w : World) (ob : Obj) : SameBut g w (w.alloc ob):=by
 have hh : (w.alloc ob).heap = w.heap.push ob:=rfl
 refine ⟨rfl,rfl,rfl,by rw [hh]; simp,fun j hj _=>?_,fun j s hs=>?_⟩
 ·rw [hh,zNk]
  rw [zMq tO]
 ·have hlt : j < w.heap.size:=by
   rcases zOS j w.heap.size with h | h
   ·exact h
   ·simp [World.shape?,zOb h] at hs
  simp only [World.shape?] at hs ⊢
  rw [hh,zNk,zMq tO]
  exact hs
theorem zD6 {P : Program} {GT : Nat → Option AV} {f : FuncId} {fn : Func} {args : List AV} {H H' : Heap} {v : AV} (hf : P.funcs[f]? = some fn) (hname : (fn.name == "runtime.NumGoroutine") = false) (hb : fn.body.isSome = true) (hn : zHu args = true)
  (h : ∀ (w : World) (M : AMap) (I : Nat → Prop) (cargs : List Value),Sim GT w M I H → zDS w M I H.length args cargs → Calls P f cargs.toArray w fun e w'=>∃ v',e = .returned v' ∧ ∃ M' I',Grow w M I H w' M' I' H' ∧ Sim GT w' M' I' H' ∧ Rel w' M' I' H'.length v v') : Good P GT f args H v H':=by
 refine zHG hn ?_
 intro w M I cargs hS hA
 have h1 : fn.name ≠ "runtime.NumGoroutine" := by simpa using hname
 obtain ⟨c,hb⟩:=zNi.1 hb
 have hrun : (callFunc f cargs.toArray).run P w = .ok (.enter f cargs.toArray) w:=by simp [callFunc,hf,h1,hb]
 rw [hrun]
 exact h w M I cargs hS hA
def zIq (f : Fil) : List Value:=[.int .i64 f.col,.int .i64 f.row,.string ⟨f.text.toArray⟩]
def zBT (l : List Fil) : List Value:=l.flatMap zIq
theorem zDs (l : List Fil) : (zBT l).length = l.length * 3:=by
 unfold zBT
 induction l with
 | nil=>rfl
 | cons f r ih=>simp only [zO4,zM3,zMu,ih,zIq,zM7]; omega
theorem filCs_get (l : List Fil) (i j : Nat) (f : Fil) (v : Value) (hf : l[i]? = some f) (hv : (zIq f)[j]? = some v) : (zBT l)[i * 3 + j]? = some v:=by
 unfold zBT
 induction l generalizing i with
 | nil=>simp at hf
 | cons g r ih=>
  have hj : j < 3:=by have:=(zg hv).1; simpa [zIq] using this
  cases i with
  | zero=>
   simp only [zOW,zMp] at hf
   subst hf
   rw [zO4,zM0 (by simp [zIq]; omega)]
   simpa using hv
  | succ i=>
   rw [zO4,zM6 (by simp [zIq]; omega)]
   have:=ih i (by simpa using hf)
   have e : (i + 1) * 3 + j - (zIq g).length = i * 3 + j:=by simp [zIq]; omega
   rw [e]; exact this
theorem filCs_split (l : List Fil) (x : Nat) (v : Value) (h : (zBT l)[x]? = some v) : ∃ f,l[x / 3]? = some f ∧ (zIq f)[x % 3]? = some v:=by
 have hx:=(zg h).1
 rw [zDs] at hx
 obtain ⟨f,hf⟩ : ∃ f,l[x / 3]? = some f:=⟨_,zMr tO⟩
 obtain ⟨u,hu⟩ : ∃ u,(zIq f)[x % 3]? = some u:=⟨_,zMr (by simp [zIq]; omega)⟩
 have:=filCs_get l (x / 3) (x % 3) f u hf hu
 rw [show x / 3 * 3 + x % 3 = x by omega,h] at this
 cases this
 exact ⟨f,hf,hu⟩
theorem zHe (l : List Fil) : ∀ v ∈ zBT l,v.oneCell' = true:=by
 intro v hv
 unfold zBT at hv
 obtain ⟨f,_,hf⟩:=zPE.1 hv
 simp only [zIq,zNe,List.not_mem_nil,or_false] at hf
 rcases hf with rfl | rfl | rfl <;> rfl
theorem fil_elems (l : List Fil) : Elems 3 (l.map zR):=by
 intro x hx
 obtain ⟨f,_,rfl⟩:=zNh.1 hx
 rfl
theorem fil_rel {w : World} {M : AMap} {I : Nat → Prop} {n : Nat} (f : Fil) (j : Nat) (c : AV) (v : Value) (hc : (zR f).cells[j]? = some c) (hv : (zIq f)[j]? = some v) : Rel w M I n c v:=by
 match j,hc,hv with
 | 0,hc,hv=>cases hc; cases hv; exact .int _ _
 | 1,hc,hv=>cases hc; cases hv; exact .int _ _
 | 2,hc,hv=>cases hc; cases hv; exact .str _
 | j + 3,hc,hv=>simp [zIq] at hv
theorem rel_fil {w : World} {M : AMap} {I : Nat → Prop} {n : Nat} (f : Fil) (j : Nat) (c : AV) (v : Value) (hc : (zR f).cells[j]? = some c) (h : Rel w M I n c v) : (zIq f)[j]? = some v:=by
 match j,hc with
 | 0,hc=>cases hc; cases h; rfl
 | 1,hc=>cases hc; cases h; rfl
 | 2,hc=>cases hc; cases h; rfl
 | j + 3,hc=>simp [zR,AV.cells] at hc
theorem row_fils {GT : Nat → Option AV} {w : World} {M : AMap} {I : Nat → Prop} {H : Heap} (hS : Sim GT w M I H) {b : Nat} {l : List Fil} (hb : H[b]? = some (.row 3 (l.map zR))) (hl : l ≠ []) :
  ∃ g o e sz,M b = some (g,o) ∧ g < w.heap.size ∧ w.shape? g = some (e,sz) ∧ o + l.length * 3 ≤ sz ∧ (∀ j v,(zBT l)[j]? = some v → w.cell? ⟨g,o + j,none⟩ = some v) ∧ (∀ j,j < sz → (w.cell? ⟨g,j,none⟩).isSome = true) ∧ (∀ j,j ≤ sz → w.frozen? ⟨g,j,none⟩ = false):=by
 obtain ⟨_,⟨_,h⟩ | ⟨g,o,cur,hM,⟨e,fz,h1,h2⟩,_,hfit,hc⟩⟩:=hS.blk b _ hb
 ·exact absurd (zOa.1 h) hl
 ·rw [zMx] at hfit
  refine ⟨g,o,e,cur.size,hM,(zNA.1 h1).1,by simp [World.shape?,h1],hfit,fun j v hj=>?_,fun j hj=>?_,fun j hj=>?_⟩
  ·obtain ⟨f,hf,hv⟩:=filCs_split l j v hj
   have hjl : j % 3 < 3:=Nat.mod_lt _ tO
   obtain ⟨c,hcc⟩ : ∃ c,(zR f).cells[j % 3]? = some c:=⟨_,zMr (by simpa [zR,AV.cells] using hjl)⟩
   obtain ⟨u,hu,hr⟩:=hc (j / 3) (j % 3) (zR f) c (by rw [zM2,hf]; rfl) hcc
   have:=rel_fil f (j % 3) c u hcc hr
   rw [hv] at this
   cases this
   have e2 : o + j / 3 * 3 + j % 3 = o + j:=by omega
   rw [e2] at hu
   simp only [World.cell?,h1]
   simpa using hu
  ·simp only [World.cell?,h1]
   simpa using hj
  ·simp only [World.frozen?,h1]
   have:=h2 j tO
   simpa using this
theorem zJp (a b : List Fil) : zBT (a ++ b) = zBT a ++ zBT b:=by unfold zBT; exact zPm
theorem zHq (l : List Fil) (i : Nat) (hi : i ≤ l.length) : zBT (l.take i) = (zBT l).take (i * 3):=by
 have h:=zJp (l.take i) (l.drop i)
 rw [zOO] at h
 rw [h,zPf (by rw [zDs,zM8]; congr 1; omega)]
theorem filCs_drop (l : List Fil) (i : Nat) (hi : i ≤ l.length) : zBT (l.drop i) = (zBT l).drop (i * 3):=by
 have h:=zJp (l.take i) (l.drop i)
 rw [zOO] at h
 rw [h,List.drop_left' (by rw [zDs,zM8]; congr 1; omega)]
theorem zHf {GT : Nat → Option AV} {w w' : World} {M : AMap} {I : Nat → Prop} {H : Heap} (hS : Sim GT w M I H) {b k : Nat} {xs : List Fil} (hb : H[b]? = some (.row 3 (xs.map zR))) {g o : Nat} (hM : M b = some (g,o)) (hs : SameBut g w w') {ys : List Fil} {g' o' cap : Nat} (hg : g' = g ∨ w.heap.size ≤ g') (hlt : g' < w'.heap.size)
  (hc : ys.length ≤ cap) (hm : cap ≤ maxLen) (hcells : ∀ x v,(zBT ys)[x]? = some v → w'.cell? ⟨g',o' + x,none⟩ = some v) :
  ∃ M' I',Grow w M I H w' M' I' (H.set b .dead) ∧ Sim GT w' M' I' (H.set b .dead) ∧ Rel w' M' I' (H.set b .dead).length (.lst (some false) 3 (ys.map zR)) (.slice (some ⟨g',o',none⟩) ys.length cap):=by
 have h:=row_gone (ys:=ys.map zR) hS hb hM hs.os hs.tape hs.out hs.size hs.other (fun s h=>hs.shape g s h) (fil_elems ys) hg hlt (by rw [zMx]; exact hc) hm (o':=o') fun i j y c hy hc=>by
  rw [zM2] at hy
  obtain ⟨f,hf,rfl⟩:=zMy.1 hy
  have hj : j < 3:=by have:=(zg hc).1; simpa [zR,AV.cells] using this
  obtain ⟨v,hv⟩ : ∃ v,(zIq f)[j]? = some v:=⟨_,zMr (by simp [zIq]; omega)⟩
  refine ⟨v, ?_,fun M I n=>fil_rel f j c v hc hv⟩
  have:=hcells (i * 3 + j) v (filCs_get ys i j f v hf hv)
  rw [← Nat.add_assoc] at this
  exact this
 rw [zMx] at h
 exact h
end Go.AM
set_option maxRecDepth 20000
namespace Go.AM
def okF (f : Fil) : Prop:=(1 ≤ f.col ∧ f.col ≤ 26) ∧ (1 ≤ f.row ∧ f.row ≤ 99) ∧ f.text.length ≤ 200
theorem okC_iff (c r : Int) : okC c r = true ↔ (1 ≤ c ∧ c ≤ 26) ∧ (1 ≤ r ∧ r ≤ 99):=by
 unfold okC
 simp only [zMs,zMz]
 constructor
 ·rintro ⟨⟨⟨h1,h2⟩,h3⟩,h4⟩; exact ⟨⟨h1,h2⟩,h3,h4⟩
 ·rintro ⟨⟨h1,h2⟩,h3,h4⟩; exact ⟨⟨⟨h1,h2⟩,h3⟩,h4⟩
theorem textN_len {s : Bs} (h : zAo s = 0) : s.length ≤ 200:=by
 unfold zAo at h
 by_cases hl : 200 < s.length
 ·rw [zMt hl] at h; cases h
 ·omega
def mayN (f : Fil) : Nat:=if okC f.col f.row = true then zAo f.text else 1
theorem okF_of {f : Fil} (h1 : okC f.col f.row = true) (h2 : zAo f.text = 0) : okF f:=⟨((okC_iff _ _).1 h1).1,((okC_iff _ _).1 h1).2,textN_len h2⟩
theorem filsN_ok : ∀ (l : List Fil) (prev : Option Fil),zE4 prev l = 0 → ∀ f ∈ l,okF f:=by
 intro l
 induction l with
 | nil=>intro _ _ f h; cases h
 | cons g r ih=>
  intro prev h f hf
  unfold zE4 at h
  by_cases h0 : filN prev g = 0
  ·rw [zMt h0] at h
   rcases zNe.1 hf with rfl | hf
   ·unfold filN at h0
    by_cases h1 : okC f.col f.row = false
    ·rw [zMt h1] at h0; cases h0
    ·rw [zMq h1] at h0
     have h1 : okC f.col f.row = true:=by simpa using h1
     have h2 : zAo f.text = 0:=by
      by_cases he : f.text = []
      ·rw [he]; rfl
      ·cases prev with
       | none=>
        have h0 : (if f.text = [] then 3 else zAo f.text) = 0:=h0
        rwa [zMq he] at h0
       | some p=>
        have h0 : (if lessC p f = false then 5 else if f.text = [] then 3 else zAo f.text) = 0:=h0
        cases hp : lessC p f with
        | true=>rw [hp,zMq (by simp),zMq he] at h0; exact h0
        | false=>rw [hp,zMt rfl] at h0; cases h0
     exact okF_of h1 h2
   ·exact ih _ h f hf
  ·rw [zMq h0] at h; exact absurd h h0
theorem checkN_ok {l : List Fil} (h : zAP l = 0) : l.length ≤ 200 ∧ ∀ f ∈ l,okF f:=by
 unfold zAP at h
 by_cases hl : 200 < l.length
 ·rw [zMt hl] at h; cases h
 ·rw [zMq hl] at h
  exact ⟨by omega,filsN_ok l none h⟩
end Go.AM
