/- Several texts of mine in one (Rfh, Rfi, Gq, Am33, Sk0). Own work. -/
import Derived.Test.YthpjgjdeogodjaaGreatDoorGRfdRfg
import Derived.Test.YthpjgjdeogodjaaGreatDoorLdQ3
import Derived.Test.YthpjgjdeogodjaaGreatDoorGRf5Rf3
import Derived.Test.YthpjgjdeogodjaaGreatDoorGFmAm24
import Derived.Shelf.Spec.SlicesInsert
import Derived.Lib.AppendZerosOnto
import Derived.Laws.NewBlocks
set_option linter.all false
set_option maxRecDepth 20000
namespace Go.AM
theorem zL4 {v : AV} {H : Heap} {k : Nat} {xs : List AV} (hv : view H k v = some xs) : (∀ (n : Int) (i : Nat) (x : AV) (K : AV → Prop),n = (i : Int) → xs[i]? = some x → K (.lref x 0) → idxN k v n K) ∨
  (∀ (n : Int) (i : Nat) (x : AV) (K : AV → Prop),n = (i : Int) → xs[i]? = some x → (∀ b j,(∀ o,zAD H (.ref b k j o) = some (x.cells,o)) → K (.ref b k j 0)) → idxN k v n K):=by
 unfold view at hv
 split at hv
 ·split at hv
  ·rename_i hk
   cases hv; subst hk
   exact .inl fun n i x K hn hx q=>sIdx hn hx q
  ·split at hv
   ·cases hv
    exact .inl fun n i x K hn hx q=>by simp at hx
   ·cases hv
 ·refine .inr fun n i x K hn hx q2=>?_
  have hlt:=(zg hx).1
  rw [zHP]; unfold idxNW
  simp only
  split at hv
  ·rename_i hk
   subst hk
   split at hv
   ·rename_i hb
    split at hv
    ·rename_i hc
     cases hv
     rw [List.length_take,List.length_drop] at hlt
     rw [List.getElem?_take,if_pos tO,List.getElem?_drop] at hx
     subst hn
     rw [hc.1] at hb
     refine zEK ⟨rfl,by omega,by omega⟩ (q2 _ _ fun o=>?_)
     show zAD H (.ref _ _ _ _) = _
     simp only [zAD,hb,if_true,Int.toNat_natCast,hx,Option.map_some]
    ·cases hv
   ·rename_i hb
    split at hv
    ·rename_i hc
     cases hv
     rw [List.length_take,List.length_drop] at hlt
     rw [List.getElem?_take,if_pos tO,List.getElem?_drop] at hx
     subst hn
     rw [hc.1] at hb
     refine zEK ⟨rfl,by omega,by omega⟩ (q2 _ _ fun o=>?_)
     show zAD H (.ref _ _ _ _) = _
     simp only [zAD,hb,if_true,Int.toNat_natCast,hx,Option.map_some]
    ·cases hv
   ·cases hv
  ·cases hv
 ·cases hv
section
variable {C : CSpec} {GT : Nat → Option AV}
theorem rtext_ev (hP : ∀ s,s.length ≤ 200 → s.head? = some 61 → RPar C s) (s : Bs) (H : Heap) : EFun C GT zFC [.str s] H (zJ (zDC s)) H:=by
 have hp:=hP s
 clear hP
 refine zc ?_
 unfold zDC
 by_cases hl : 200 < s.length
 ·rw [if_pos hl]
  clear hp
  refine zT tT ?_
  exact sRr
 ·rw [if_neg hl]
  cases s with
  | nil=>
   clear hp
   refine zO tF <| zG <| zG <| zG ?_
   exact sRr
  | cons c r=>
   have hne : (c :: r) ≠ []:=by simp
   have h0 : (c :: r)[0]? = some c:=rfl
   by_cases h : c = 61
   ·subst h
    have hp:=hp tO rfl
    rw [if_pos (show (61 :: r : Bs).head? = some 61 from rfl)]
    obtain ⟨s,hs⟩ : ∃ s : Bs,(61 :: r : Bs) = s:=⟨_,rfl⟩
    rw [hs] at hl hp hne h0 ⊢
    cases hq : zD8 s with
    | some n=>
     have hp:=hp.1 n hq
     refine zO tF <| zT (bne_iff_ne.2 hne) <| zt rfl h0 <| zH <| zH <| zI (hp _) ?_; refine zR rfl <| zR rfl <| zR rfl <| zF (v:=ndV n) (AV.cells (ndV n)) zD rfl rfl rfl rfl <| zG ?_
     exact zBC rfl rfl rfl rfl (((Old.refl _).push _).set tA _)
    | none=>
     obtain ⟨w,e,he,hp⟩:=hp.2 hq H
     refine zO tF <| zT (bne_iff_ne.2 hne) <| zt rfl h0 <| zH <| zH <| zI hp ?_; refine zR rfl <| zR rfl <| zR rfl <| zF (v:=ndV zZ) (AV.cells (ndV zZ)) zD rfl rfl rfl rfl <| zT (bne_iff_ne.2 he) ?_
     exact zBC rfl rfl rfl rfl (((Old.refl _).push _).set tA _)
   ·rw [if_neg (show ¬ (c :: r : Bs).head? = some 61 from fun x=>h (Option.some.inj x))]
    clear hp
    obtain ⟨s,hs⟩ : ∃ s : Bs,(c :: r : Bs) = s:=⟨_,rfl⟩
    rw [hs] at hl hne h0 ⊢
    refine zO tF <| zT (bne_iff_ne.2 hne) <| zt rfl h0 <| zH <| zO (tN (fun x=>h (UInt8.toNat_inj.1 (by have : (61 : UInt8).toNat = 61:=rfl; omega)))) ?_
    exact sRr
end
structure RefK2 (PR : Program) : Prop extends RefK PR where
 parse : zAG PR zCb zCc = true
 isIn : zAG PR zDD zG3 = true
 ahead : zAG PR zBQ zEP = true
 text : zAG PR zBo zFC = true
section
variable {PR : Program} {GT : Nat → Option AV}
theorem q_parse (k : RefK2 PR) (g : BigG PR GT) (s : Bs) (hl : s.length ≤ 200) (h61 : s.head? = some 61) : RPar (Good PR GT) s:=by
 have h0 : s[0]? = some 61:=by rw [← List.head?_eq_getElem?]; exact h61
 have h1 : 1 ≤ s.length:=by cases s with
  | nil=>cases h61
  | cons c r=>simp
 have lo:=fun b=>(q_all k.toRefK g b s hl (s.length - 1) 1 h1 rfl 0 tO).2 1
 cases hlo : (P s).loose 1 1 0 with
 | none=>
  have hpp : zD8 s = none:=by unfold zD8; rw [if_pos ⟨hl,h61⟩,hlo]; rfl
  refine ⟨fun n h=>(by rw [hpp] at h; cases h),fun _ H=>?_⟩
  obtain ⟨n,a,w,e,d,h2,h3,h4⟩:=(lo (H ++ [ABlk.box (ndC zZ)]).length).2 hlo
  exact ⟨w,e,h2,zN k.hm k.parse (rparse_bad (zGT k.toRefK) s hl h0 n a w e d h3 h2 H h4)⟩
 | some x=>
  obtain ⟨n,e⟩:=x
  have hx:=(zCG s).loose 1 1 0 _ h1 hlo
  simp only at hx
  have hl2:=fun b=>(lo b).1 n e hlo
  by_cases hk : tok s e = .fin
  ·have hpp : zD8 s = some n:=by unfold zD8; rw [if_pos ⟨hl,h61⟩,hlo]; simp only [Option.bind_some,hk]
   refine ⟨fun n' h H=>?_,fun h=>by rw [hpp] at h; cases h⟩
   rw [hpp] at h; cases h
   exact zN k.hm k.parse (rparse_ok (zGT k.toRefK) s hl h0 n e hx.2 hk hl2 H)
  ·have hpp : zD8 s = none:=by
    unfold zD8
    rw [if_pos ⟨hl,h61⟩,hlo]
    simp only [Option.bind_some]
   refine ⟨fun n h=>(by rw [hpp] at h; cases h),fun _ H=>⟨_,2,by decide,zN k.hm k.parse (rparse_tail (zGT k.toRefK) (q_fail k.toRefK) s hl h0 n e hx.2 (fun h=>hk ?_) hl2 H)⟩⟩
   cases ht : tok s e <;> rw [ht] at h <;> first | rfl | (simp only [tkK] at h; omega)
theorem q_in (k : RefK2 PR) (c r : Int) (H : Heap) : Good PR GT zDD [zx c r] H (.bool (okC c r)) H:=zN k.hm k.isIn (rin_ev c r H)
theorem q_ahead (k : RefK2 PR) (a b : Fil) (H : Heap) : Good PR GT zBQ [zx a.col a.row,zx b.col b.row] H (.bool (zFv a b)) H:=zN k.hm k.ahead (rahead_ev a b H)
theorem q_text (k : RefK2 PR) (g : BigG PR GT) (s : Bs) (H : Heap) : Good PR GT zBo [.str s] H (zJ (zDC s)) H:=zN k.hm k.text (rtext_ev (q_parse k g) s H)
end
end Go.AM
set_option maxRecDepth 20000
namespace Go.AM
section
variable {C : CSpec} {GT : Nat → Option AV}
end
structure RefK3 (PR : Program) : Prop extends RefK2 PR where
 check : zAG PR zLN zLP = true
section
variable {PR : Program} {GT : Nat → Option AV}
end
end Go.AM
set_option maxRecDepth 100000
namespace Go.Proofs.YthpjgjdeogodjaaGreatDoor
open Go.AM
theorem parK : ParK Tryz.prog:={ hm:=mixed,contains:=zDy,mkSet:=zGn,trimR:=zFm,trimL:=zGN,trim:=k_strings_Trim,slPre:=zGK,pre:=zIE,slTrim:=zFn,trimP:=zHi,wrong:=k_value_Wrong,is:=k_value_Is,whole:=k_value_Whole,lit:=zLq,ref:=k_addr_Ref,dollar:=k_addr_Ref_c1,wordly:=zKZ,called:=zKa,plain:=zLr,opOf:=k_formula_opOf,fail:=zGh,blanks:=zFj,word:=zGl,want:=zGj,within:=zFk,text:=zGk,neg:=zHC,negc:=zFl,prim:=zGi,prim1:=zFL,prim2:=zFM,call:=zGm,argument:=zEn,two:=zHB }
theorem parK2 : ParK2 Tryz.prog:={ parK with const:=zIz,parse:=zLl,clos:=zI2,dfr:=by kernel_rfl,rcv:=by kernel_rfl }
theorem refK : RefK Tryz.prog:={ hm:=mixed,wordly:=zKV,wrongs:=zKW,bad:=k_sccref1_Bad,named:=zLp,token:=zLm,called:=zKY,whole:=zLo,ref:=k_sccref1_Ref,sign:=k_sccref1_Sign,tight:=zLn,fail:=zJk,deeper:=zIF,close:=zI3,one:=zKU,call:=zJl,loose:=zI0 }
theorem refK2 : RefK2 Tryz.prog:={ refK with parse:=zLj,isIn:=k_sccref1_In,ahead:=zLi,text:=k_sccref2_Text }
section
variable {m : Int} {ev : Value}
theorem parG (hev : ∃ te pe,ev = .iface te pe) : ParG Tryz.prog (gtQ m ev):={ atoi:=atoi_ok,atoi2:=atoi_bad hev,texts:=rfl,loose:=rfl }
end
section
variable {GT : Nat → Option AV}
theorem g_trim (b m : Nat) (ws : List Nat) (H : Heap) (hm : ws.length = m) (hb : H[b]? = some (.row 1 (ws.map zBO))) (hw : Small ws) (hl : m ≤ 1000000) : Go.AM.Good Tryz.prog GT zAA [.sl (some false) b 1 0 m] H (.sl (some false) b 1 0 (wds (wval ws)).length) H:=
 zN mixed zIG (trim_ev b m ws H hm hb hw hl)
theorem g_words (x : Nat) (H : Heap) (hx : x < 18446744073709551616) : Go.AM.Good Tryz.prog GT zBv [u64V x] H (zEG x) H:=zN mixed zHh (words_ev g_trim x hx H)
theorem g_badd (av bv : AV) (x y : Nat) (H : Heap) (ha : Mag av x) (hb : Mag bv y) (h1 : (wds x).length ≤ 100000) (h2 : (wds y).length ≤ 100000) : Go.AM.Good Tryz.prog GT zCT [av,bv] H (zEG (x + y)) H:=
 zN mixed zI6 (add_ev g_trim av bv x y H ha hb h1 h2)
theorem g_bsub (av bv : AV) (x y : Nat) (H : Heap) (ha : Mag av x) (hb : Mag bv y) (h : y ≤ x) (h1 : (wds x).length ≤ 100000) : Go.AM.Good Tryz.prog GT zBg [av,bv] H (zEG (x - y)) H:=
 zN mixed zI8 (sub_ev g_trim av bv x y _ H ha hb h rfl h1)
theorem g_bcmp (av bv : AV) (x y : Nat) (H : Heap) (ha : Mag av x) (hb : Mag bv y) (h1 : (wds x).length ≤ 100000) (h2 : (wds y).length ≤ 100000) : Go.AM.Good Tryz.prog GT zCU [av,bv] H (zK (cmpN x y)) H:=
 zN mixed zI7 (bcmp_ev av bv x y H ha hb h1 h2)
theorem g_bsum (av bv : AV) (xn yn : Bool) (x y : Nat) (H : Heap) (ha : Mag av x) (hb : Mag bv y) (h1 : (wds x).length ≤ 100000) (h2 : (wds y).length ≤ 100000) :
  Go.AM.Good Tryz.prog GT zCS [.bool xn,av,.bool yn,bv] H (.tup [.bool (sumS xn x yn y).1,zEG (sumS xn x yn y).2]) H:=zN mixed zI5 (bsum_ev g_badd g_bsub g_bcmp av bv xn yn x y H ha hb h1 h2)
theorem g_bit (av : AV) (m i : Nat) (H : Heap) (ha : Mag av m) (hl : (wds m).length ≤ 100000) (hi : i ≤ 1000000) : Go.AM.Good Tryz.prog GT zCV [av,zK i] H (u64V (m / 2 ^ i % 2)) H:=zN mixed zI9 (bit_ev av m i H ha hl hi)
theorem g_tzb (b m n : Nat) (x av : AV) (H : Heap) (hb : H[b]? = some (.box [x,av])) (ha : Mag av m) (h0 : m ≠ 0) (hl : (wds m).length ≤ 100) (hn : n ≤ 10000) (h1 : m % 2 ^ n = 0) (h2 : m / 2 ^ n % 2 = 1) :
  Go.AM.Good Tryz.prog GT zAK [.ref b 0 0 0] H (u64V n) H:=zN mixed zCw (tzb_ev g_bit b m n x av H hb ha h0 hl hn h1 h2)
theorem g_blen (av : AV) (m : Nat) (H : Heap) (ha : Mag av m) (hl : (wds m).length ≤ 1000) : Go.AM.Good Tryz.prog GT zBh [av] H (zJ (Go.AM.bits m)) H:=zN mixed zHD (length_ev av m H ha hl)
theorem g_uint64 (b m : Nat) (x av : AV) (H : Heap) (hb : H[b]? = some (.box [x,av])) (ha : Mag av m) (hm : m < 18446744073709551616) : Go.AM.Good Tryz.prog GT zAu [.ref b 0 0 0] H (u64V m) H:=
 zN mixed zEm (uint64_ev b m x av H hb ha hm)
theorem g_int64 (b : Nat) (v : Int) (H : Heap) (hb : H[b]? = some (.box (zFz v))) (hv : zDz v) : Go.AM.Good Tryz.prog GT zAa [.ref b 0 0 0] H (zK v) H:=zN mixed zFK (int64_ev g_uint64 b v H hb hv)
theorem g_isInt64 (b : Nat) (v : Int) (H : Heap) (hb : H[b]? = some (.box (zFz v))) (hv : (wds v.natAbs).length ≤ 100) : Go.AM.Good Tryz.prog GT zAo [.ref b 0 0 0] H (.bool (decide (zDz v))) H:=
 zN mixed zEX (isInt64_ev g_blen g_tzb b v H hb hv)
theorem g_give (b n : Nat) (neg : Bool) (x0 x1 : AV) (H : Heap) (hb : H[b]? = some (.box [x0,x1])) : Go.AM.Good Tryz.prog GT zy [.ref b 0 0 0,.bool neg,zEG n] H (.ref b 0 0 0) (H.set b (.box [.bool (neg && decide (0 < n)),zEG n])):=
 zN mixed zDG (give_ev b n neg x0 x1 H hb)
theorem g_setInt64 (b : Nat) (v : Int) (x0 x1 : AV) (H : Heap) (hb : H[b]? = some (.box [x0,x1])) (hv : zDz v) : Go.AM.Good Tryz.prog GT zAj [.ref b 0 0 0,zK v] H (.ref b 0 0 0) (H.set b (.box (zFz v))):=
 zN mixed zEE (setInt64_ev g_words g_give b v x0 x1 H hb hv)
theorem k_bigNew : zAG Tryz.prog zAg a_bigNew = true:=by kernel_rfl
theorem g_newInt (v : Int) (H : Heap) (hv : zDz v) : Go.AM.Good Tryz.prog GT zAg [zK v] H (.ref H.length 0 0 0) (H ++ [.box (zFz v)]):=zN mixed k_bigNew (newInt_ev g_setInt64 v H hv)
theorem g_fits (b : Nat) (v : Int) (H : Heap) (hb : H[b]? = some (.box (zFz v))) (hv : (wds v.natAbs).length ≤ 100) : Go.AM.Good Tryz.prog GT zCt [.ref b 0 0 0] H (.bool (decide (zDz v))) H:=zN mixed k_sccref1_Fits (fits_ev g_isInt64 b v H hb hv)
theorem g_give0 (b : Nat) (xs : List AV) (nv x0 x1 : AV) (H : Heap) (hb : H[b]? = some (.box [x0,x1])) (hv : zFX nv 1 xs) : Go.AM.Good Tryz.prog GT zy [.ref b 0 0 0,.bool false,nv] H (.ref b 0 0 0) (H.set b (.box [.bool false,nv])):=
 zN mixed zDG (give0_ev b xs nv x0 x1 H hb hv) (hn:=by obtain ⟨q,k',rfl,_⟩:=hv; rfl)
theorem g_mul10 (av : AV) (x : Nat) (H : Heap) (ha : Mag av x) (hl : (wds x).length ≤ 100000) : Go.AM.Good Tryz.prog GT zCR [av,zEG 10] H (mulV x) H:=zN mixed zI4 (mul10_ev g_trim av x _ H ha rfl hl)
theorem g_bigMul (b t v : Nat) (av : AV) (H : Heap) (hb : H[b]? = some (.box [.bool false,av])) (ht : H[t]? = some (.box (zFz 10))) (ha : Mag av v) (hl : (wds v).length ≤ 1000) : Go.AM.Good Tryz.prog GT zAm [.ref b 0 0 0,.ref b 0 0 0,.ref t 0 0 0] H (.ref b 0 0 0) (H.set b (.box [.bool false,mulV v])):=
 zN mixed zGL (bigMul_ev g_mul10 g_give0 b t v av H hb ht ha hl)
theorem g_bigAddM (b t v d : Nat) (av : AV) (H : Heap) (hb : H[b]? = some (.box [.bool false,av])) (ht : H[t]? = some (.box (zFz d))) (ha : Mag av v) (hl : (wds v).length ≤ 1000) (hd : (wds d).length ≤ 1000) : Go.AM.Good Tryz.prog GT zAn [.ref b 0 0 0,.ref b 0 0 0,.ref t 0 0 0] H (.ref b 0 0 0) (H.set b (.box (zFz ((v + d : Nat) : Int)))):=
 zN mixed zGM (bigAddM_ev g_bsum g_give b t v d av H hb ht ha hl hd)
theorem bigG : BigG Tryz.prog GT:={ new:=fun v H h=>g_newInt v H h,mul:=fun b t v av H h1 h2 h3 h4=>g_bigMul b t v av H h1 h2 h3 h4,add:=fun b t v d av H h1 h2 h3 h4 h5=>g_bigAddM b t v d av H h1 h2 h3 h4 h5,fit:=fun b v H h1 h2=>g_fits b v H h1 h2,i64:=fun b v H h1 h2=>g_int64 b v H h1 h2 }
theorem g_aok (c r : Int) (H : Heap) : Go.AM.Good Tryz.prog GT zIl [zx c r] H (.bool (okC c r)) H:=zN mixed k_addr_ok (aok_ev c r H)
theorem g_acheck (c r : Int) (H : Heap) : Go.AM.Good Tryz.prog GT zBe [zx c r] H (if okC c r = true then .nili else zGs 1) H:=zN mixed k_addr_Check (acheck_ev g_aok c r H)
theorem g_nan (a : Int) (H : Heap) : Go.AM.Good Tryz.prog GT zCE [zK a] H (.bool false) H:=zN mixed zKX (nan_ev a H)
theorem g_ccmp (a b : Int) (H : Heap) : Go.AM.Good Tryz.prog GT zBf [zK a,zK b] H (zK (cmp3 a b)) H:=zN mixed zI1 (ccmp_ev g_nan a b H)
theorem g_cor (b : Nat) (x y : Int) (H : Heap) (hb : H[b]? = some (.row 1 [zK x,zK y])) : Go.AM.Good Tryz.prog GT zEC [.sl (some false) b 1 0 2] H (zK (if x ≠ 0 then x else y)) H:=zN mixed k_cmp_Or_int_ (cor_ev b x y H hb)
theorem g_acomp (c1 r1 c2 r2 : Int) (H : Heap) : Go.AM.Good Tryz.prog GT zCH [zx c1 r1,zx c2 r2] H (zK (cmpC c1 r1 c2 r2)) H:=zN mixed k_addr_Compare (acomp_ev g_ccmp g_cor c1 r1 c2 r2 H)
theorem g_aless (a b : Fil) (H : Heap) : Go.AM.Good Tryz.prog GT zF6 [zx a.col a.row,zx b.col b.row] H (.bool (zFv a b)) H:=zN mixed k_addr_Less (aless_ev g_acomp a b H)
end
section
variable {m : Int} {ev : Value} (hev : ∃ te pe,ev = .iface te pe)
abbrev GQ (m : Int) (ev : Value) : CSpec:=Go.AM.Good Tryz.prog (gtQ m ev)
include hev in
theorem g_text (s : Bs) (H : Heap) : GQ m ev zBJ [.str s] H (eV (zDC s)) H:=zN mixed k_graph_Text (gtext_ev (p_const parK2) (p_parse parK2 (parG hev)) s H)
include hev in
theorem g_check (lv : AV) (l : List Fil) (H : Heap) (hv : view H 3 lv = some (l.map zi)) : GQ m ev zDO [lv] H (eV (zEe l)) H:=zN mixed k_graph_Check (gcheck_ev g_acheck g_aless (g_text hev) lv l H hv)
theorem g_rtext (s : Bs) (H : Heap) : GQ m ev zBo [.str s] H (zJ (zDC s)) H:=q_text refK2 bigG s H
end
end Go.Proofs.YthpjgjdeogodjaaGreatDoor
namespace Go.AM
section
variable {P : Program} {GT : Nat → Option AV} {w w' : World} {M : AMap} {I : Nat → Prop} {H : Heap}
theorem Sim.mut_at (hS : Sim GT w M I H) {b : Nat} {x : ABlk} (hb : H[b]? = some x) (hm : x.mut = true) {g o : Nat} (hM : M b = some (g,o)) : ∃ cur,Cells w g cur ∧ ¬ I g ∧ g < w.heap.size:=by
 have h:=hS.blk b x hb
 cases x with
 | dead=>simp [ABlk.mut] at hm
 | frz=>simp [ABlk.mut] at hm
 | box cs=>
  obtain ⟨g1,o1,cur,h1,h2,h3,_⟩:=h
  rw [hM] at h1
  cases h1
  obtain ⟨e,fz,h4,h5⟩:=h2
  exact ⟨cur,⟨e,fz,h4,h5⟩,h3,(Array.getElem?_eq_some_iff.1 h4).1⟩
 | row k xs=>
  obtain ⟨_,⟨h1,_⟩ | ⟨g1,o1,cur,h1,h2,h3,_⟩⟩:=h
  ·rw [hM] at h1; cases h1
  ·rw [hM] at h1
   cases h1
   obtain ⟨e,fz,h4,h5⟩:=h2
   exact ⟨cur,⟨e,fz,h4,fun j hj=>h5 j (Nat.lt_of_lt_of_le hj (Nat.le_add_right _ _))⟩,h3,(Array.getElem?_eq_some_iff.1 h4).1⟩
theorem row_turned (hS : Sim GT w M I H) {b : Nat} {x : ABlk} (hb : H[b]? = some x) (hm : x.mut = true) {g o : Nat} (hM : M b = some (g,o)) (hos : w'.os = w.os) (htape : w'.tape = w.tape) (hout : w'.output = w.output) (hsize : w.heap.size ≤ w'.heap.size)
  (hfr : ∀ j,j < w.heap.size → j ≠ g → w'.heap[j]? = w.heap[j]?) (hshape : ∀ s,w.shape? g = some s → w'.shape? g = some s) {y : ABlk} {G : Nat → Prop} (hG : ∀ j,G j → (j = g ∧ y.mut = false) ∨ w.heap.size ≤ j) (hGl : ∀ j,G j → j < w'.heap.size)
  (hy : BlkOK w' M (fun j=>I j ∨ G j) H.length b y) :
  Grow w M I H w' M (fun j=>I j ∨ G j) (H.set b y) ∧ Sim GT w' M (fun j=>I j ∨ G j) (H.set b y):=by
 obtain ⟨cur,hcur,hnI,hglt⟩:=hS.mut_at hb hm hM
 have hblt:=(zg hb).1
 have live : zHn H M g:=⟨b,x,o,hb,hm,hM⟩
 have shp : ∀ j s,w.shape? j = some s → w'.shape? j = some s:=fun j s hs=>by
  by_cases hj : j = g
  ·subst hj; exact hshape s hs
  ·have hlt : j < w.heap.size:=by
    rcases Nat.lt_or_ge j w.heap.size with h | h
    ·exact h
    ·simp [World.shape?,Array.getElem?_eq_none h] at hs
   rw [zBH (hfr j hlt hj)]; exact hs
 have hIh : ∀ k,I k → w'.heap[k]? = w.heap[k]?:=fun k hk=>hfr k (hS.idom k hk) (fun e=>hnI (e ▸ hk))
 have other : ∀ b' x',(H.set b y)[b']? = some x' → b' ≠ b → H[b']? = some x':=fun b' x' h hne=>by rwa [List.getElem?_set_ne (Ne.symm hne)] at h
 have at_b : (H.set b y)[b]? = some y:=List.getElem?_set_self hblt
 refine ⟨⟨hos,htape,hout,hsize,fun _ _=>rfl,fun _ h=>.inl h,fun j hj hlt=>?_,fun j hlt hn=>hfr j hlt (fun e=>hn (e ▸ live)),fun j hlt hl=>?_,shp,by rw [List.length_set]; exact Nat.le_refl _⟩, ?_⟩
 ·rcases hj with hj | hj
  ·exact .inl hj
  ·rcases hG j hj with ⟨rfl,_⟩ | h
   ·exact .inr live
   ·omega
 ·obtain ⟨b',x',o',h1,h2,h3⟩:=hl
  by_cases e : b' = b
  ·subst e
   rw [hM] at h3
   cases h3
   exact live
  ·exact ⟨b',x',o',other b' x' h1 e,h2,h3⟩
 ·refine ⟨fun q z hz=>?_,fun k hk=>?_,fun b' x' hx=>?_,fun b1 b2 x1 x2 g1 o1 o2 h1 m1 h2 m2 e1 e2=>?_,fun q z hz=>?_⟩
  ·exact (hS.glob q z hz).mono (M':=M) (n:=0) (fun _ h=>.inl h) hIh (fun _ h=>absurd h (Nat.not_lt_zero _)) (Nat.zero_le _) shp
  ·rcases hk with hk | hk
   ·exact Nat.lt_of_lt_of_le (hS.idom k hk) hsize
   ·exact hGl k hk
  ·rw [List.length_set]
   by_cases e : b' = b
   ·subst e
    rw [at_b] at hx
    cases hx
    exact hy
   ·have hx':=other b' x' hx e
    have far : ∀ g1 o1,M b' = some (g1,o1) → x'.mut = true → g1 ≠ g ∧ g1 < w.heap.size:=fun g1 o1 h1 hm1=>by
     refine ⟨fun eg=>?_,(hS.mut_at hx' hm1 h1).choose_spec.2.2⟩
     subst eg
     exact e (hS.inj b' b x' x g1 o1 o hx' hm1 hb hm h1 hM)
    refine (hS.blk b' x' hx').mono (zg hx').1 (fun _ h=>.inl h) hIh (fun _ _=>rfl) (Nat.le_refl _) shp (fun g1 o1 h1 hm1=>?_) (fun g1 o1 h1 hm1 hn=>?_)
    ·exact hfr g1 (far g1 o1 h1 hm1).2 (far g1 o1 h1 hm1).1
    ·rintro (h | h)
     ·exact hn h
     ·rcases hG g1 h with ⟨rfl,_⟩ | h'
      ·exact (far _ o1 h1 hm1).1 rfl
      ·have:=(far g1 o1 h1 hm1).2
       omega
  ·have key : ∀ {b1 b2 : Nat} {x1 x2 : ABlk} {g1 o1 o2 : Nat},(H.set b y)[b1]? = some x1 → x1.mut = true → (H.set b y)[b2]? = some x2 → x2.mut = true → M b1 = some (g1,o1) → M b2 = some (g1,o2) → b1 = b → b2 = b:=by
    intro b1 b2 x1 x2 g1 o1 o2 h1 m1 h2 m2 e1 e2 e
    subst e
    by_cases e' : b2 = b1
    ·exact e'
    ·rw [hM] at e1
     cases e1
     exact hS.inj b2 b1 x2 x g o2 o (other b2 x2 h2 e') m2 hb hm e2 hM
   by_cases c1 : b1 = b
   ·exact c1.trans (key h1 m1 h2 m2 e1 e2 c1).symm
   ·by_cases c2 : b2 = b
    ·exact absurd (key h2 m2 h1 m1 e2 e1 c2) c1
    ·exact hS.inj b1 b2 x1 x2 g1 o1 o2 (other b1 x1 h1 c1) m1 (other b2 x2 h2 c2) m2 e1 e2
  ·obtain ⟨e,h⟩:=hS.shp q z hz
   exact ⟨e,shp q _ h⟩
theorem row_gone (hS : Sim GT w M I H) {b k : Nat} {xs : List AV} (hb : H[b]? = some (.row k xs)) {g o : Nat} (hM : M b = some (g,o)) (hos : w'.os = w.os) (htape : w'.tape = w.tape) (hout : w'.output = w.output) (hsize : w.heap.size ≤ w'.heap.size)
  (hfr : ∀ j,j < w.heap.size → j ≠ g → w'.heap[j]? = w.heap[j]?) (hshape : ∀ s,w.shape? g = some s → w'.shape? g = some s) {ys : List AV} (he : Elems k ys) {g' o' cap : Nat} (hg : g' = g ∨ w.heap.size ≤ g') (hlt : g' < w'.heap.size) (hc : ys.length ≤ cap) (hm : cap ≤ maxLen)
  (hcells : ∀ i j y c,ys[i]? = some y → y.cells[j]? = some c → ∃ v,w'.cell? ⟨g',o' + i * k + j,none⟩ = some v ∧ ∀ M I n,Rel w' M I n c v) :
  ∃ M' I',Grow w M I H w' M' I' (H.set b .dead) ∧ Sim GT w' M' I' (H.set b .dead) ∧ Rel w' M' I' (H.set b .dead).length (.lst (some false) k ys) (.slice (some ⟨g',o',none⟩) ys.length cap):=by
 obtain ⟨h1,h2⟩:=row_turned (y:=.dead) (G:=fun j=>j = g') hS hb rfl hM hos htape hout hsize hfr hshape (fun j hj=>by
  rcases hg with h | h
  ·exact .inl ⟨hj.trans h,rfl⟩
  ·exact .inr tO) (fun j hj=>by omega) trivial
 refine ⟨M,_,h1,h2, ?_⟩
 exact Rel.mk_lst (by simp) hc hm (.inr rfl) he fun i j x c hx hj=>by
  obtain ⟨v,e1,e2⟩:=hcells i j x c hx hj
  exact ⟨v,e1,e2 _ _ _⟩
end
end Go.AM
namespace Go.AM
open Go Go.Lib Go.Proofs
theorem zHT {P : Program} (w : World) (dT sT ty elem : TypeId) (size b o dLen dCap : Nat) (a : Addr) (sLen sCap : Nat) (cs : List Value)
  (hu : P.underlying dT = some (.slice elem)) (hs : (P.info? elem).map (·.size) = some size) (hn : cs.length = Nat.min sLen dLen * size)
  (hsrc : ∀ j v,cs[j]? = some v → w.cell? (a.add j) = some v) (hc : ∀ j,j < cs.length → (w.cell? ⟨b,o + j,none⟩).isSome = true) (hf : ∀ j,j < cs.length → w.frozen? ⟨b,o + j,none⟩ = false) (h1 : ∀ v ∈ cs,v.oneCell' = true) :
  (Builtin.copy_ #[dT,sT] ty #[.slice (some ⟨b,o,none⟩) dLen dCap,.slice (some a) sLen sCap]).run P w = .ok (goInt (Nat.min sLen dLen)) (w.setCells b o cs):=by
 have hl:=run_loadCells_list (P:=P) w a cs hsrc
 have hst:=run_storeCells_cells (P:=P) b o cs 0 w (by simpa using hc) (by simpa using hf) h1
 cases hq : P.info? elem with
 | none=>simp [hq] at hs
 | some i=>
  have hi : i.size = size:=by simpa [hq] using hs
  simp [Builtin.copy_,run_underlying hu,Builtin.lenOf,Builtin.firstCells,sizeOf,typeInfo,hq,hi,← hn,hl,hst]
theorem run_clear_k {P : Program} (w : World) (t e ty : TypeId) (z : Value) (zs : List Value) (ht : P.underlying t = some (.slice e)) (hv : ∀ w,(zeroValue e).run P w = .ok z w) (b o n c : Nat) (hn : 0 < n) (hz : (Builtin.zeroCells z.cells n).toList = zs) (h1 : ∀ v ∈ zs,v.oneCell' = true)
  (hc : ∀ j,j < zs.length → (w.cell? ⟨b,o + j,none⟩).isSome = true) (hf : ∀ j,j < zs.length → w.frozen? ⟨b,o + j,none⟩ = false) :
  (Builtin.clear_ #[t] ty #[.slice (some ⟨b,o,none⟩) n c]).run P w = .ok (.tuple #[]) (w.setCells b o zs):=by
 have hst:=run_storeCells_cells (P:=P) b o zs 0 w (by simpa using hc) (by simpa using hf) h1
 simp only [Nat.add_zero] at hst
 obtain ⟨m,rfl⟩ : ∃ m,n = m + 1:=⟨n - 1,by omega⟩
 simp [Builtin.clear_,run_underlying ht,hv,hz,hst]
end Go.AM
