/- The package-level variables of the row: a world that meets the row's condition; what the variables hold. Own work, after the guide's worked examples. -/
import Derived.Test.YtgcggndacnmhfaaGreatDoorLdQ2
import Derived.Test.YtgcggndacnmhfaaGreatDoorLvs
import Derived.Shelf.Vars
set_option linter.all false
set_option maxRecDepth 100000
namespace Go.Proofs.YtgcggndacnmhfaaGreatDoor
open Go.ChangeShapes Go.WideShapes Go.RowKit Go.AM
theorem laidWorld_met (os : Os) (args : Array Value) : laidMetH Tryz.prog zEN ((zBN os).forCall (fun _ _=>0) ⟨#[],args,[]⟩).memory:=
 laidMetH_of_parts (laidMet_of_run' 8 (laid1 os args) (laid2 os args)) (by kernel_rfl)
theorem zFH {W : World} (h : laidMetH Tryz.prog zEN W) : W.var? Tryz.prog "errors.errorType" = some #[zBY]:=by
 have h' : laidMet Tryz.prog zCX W ∧ handlesMet Tryz.prog [("errors.errorType", Rows.laid_errors_errorType)] W:=h
 obtain ⟨name,u,ty,e1,e2,e3,e4,e5⟩:=h'.2 _ (List.mem_singleton.2 rfl)
 have en : name = [101,114,114,111,114]:=(Option.some.inj e1).symm
 subst en
 obtain rfl:=Option.some.inj (rt.symm.trans e2)
 have hm : ty ∈ (List.range 180).filter fun t=>Tryz.prog.rowNamed t [101,114,114,111,114]:=List.mem_filter.2 ⟨List.mem_range.2 (by rw [← size]; exact e3),e4⟩
 rw [zNc] at hm
 obtain rfl:=List.mem_singleton.1 hm
 have hh : typeHandle Tryz.prog 32 = .pointer (some ⟨8,32,none⟩):=by kernel_rfl
 rw [hh] at e5
 exact e5
theorem pt : Tryz.prog.globalNamed "internal/strconv.uint64pow10" = some 2:=by kernel_rfl
theorem et5 : Tryz.prog.globalNamed "sccsettle/value.texts" = some 0:=by kernel_rfl
structure VarsAt (W : World) (_ : Value) : Prop where
 err : W.var? Tryz.prog "errors.errorType" = some #[zBY]
 texts : Rel W (fun _=>none) (zB7 W) 0 (.lref zKZ 0) (.pointer (some ⟨0,0,none⟩))
 textsL : ∃ cs,W.var? Tryz.prog "sccsettle/value.texts" = some cs ∧ cs.size = 7
 pow : W.var? Tryz.prog "internal/strconv.uint64pow10" = some (Lib.pow10Tab.map fun z=>Value.int .u64 z).toArray
theorem zG8 {W : World} (h : laidMetH Tryz.prog zEN W) : ∃ ev,VarsAt W ev:=by
 have h' : laidMet Tryz.prog zCX W ∧ handlesMet Tryz.prog [("errors.errorType", Rows.laid_errors_errorType)] W:=h
 obtain ⟨ps,hv,_⟩:=h'.1
 have hv : DataW.LaidVars Tryz.prog W [("math/bits.deBruijn32tab", Rows.laid_math_bits_deBruijn32tab),("math/bits.deBruijn64tab", Rows.laid_math_bits_deBruijn64tab),("internal/strconv.uint64pow10", Rows.laid_internal_strconv_uint64pow10),("unicode/utf8.acceptRanges", Rows.laid_unicode_utf8_acceptRanges),("sccsettle/value.texts", Rows.laid_sccsettle_value_texts),("unicode/utf8.first", Rows.laid_unicode_utf8_first)] ps:=hv
 obtain ⟨_,_,_,_,_,_,_,_,_,_,hv,_⟩:=hv
 obtain ⟨_,_,_,_,_,_,_,_,_,_,hv,_⟩:=hv
 obtain ⟨g6,t6,cs6,fuel6,p6,q6,hg6,ht6,hvar6,hd6,hv,_⟩:=hv
 obtain ⟨_,_,_,_,_,_,_,_,_,_,hv,_⟩:=hv
 obtain ⟨g5,t5,cs5,fuel5,p5,q5,hg5,ht5,hvar5,hd5,hv,_⟩:=hv
 obtain ⟨_,_,_,_,_,_,_,_,_,_,hv,_⟩:=hv
 obtain rfl:=Option.some.inj (pt.symm.trans hg6)
 have htt6 : (Tryz.prog.globals[2]?).map (·.type) = some 132:=by kernel_rfl
 obtain rfl:=Option.some.inj (htt6.symm.trans ht6)
 have hdat : (Rows.laid_internal_strconv_uint64pow10 : DataW Unit) = Lib.tabData .u64 Lib.pow10Tab:=by kernel_rfl
 rw [hdat] at hd6
 have hpow : W.var? Tryz.prog "internal/strconv.uint64pow10" = some (Lib.pow10Tab.map fun z=>Value.int .u64 z).toArray:=by
  rw [hvar6,← Lib.cells_of_tab (n:=20) (e:=52) Tryz.underlying132 Tryz.underlying52 (by kernel_rfl) (by kernel_rfl) hd6]
 obtain rfl:=Option.some.inj (et5.symm.trans hg5)
 have htt5 : (Tryz.prog.globals[0]?).map (·.type) = some 67:=by kernel_rfl
 obtain rfl:=Option.some.inj (htt5.symm.trans ht5)
 have hD5 : (Rows.laid_sccsettle_value_texts : DataW Unit) = .agg (([[],[35,68,73,86,33],[35,86,65,76,85,69,33],[35,82,69,70,33],[35,78,65,77,69,33],[35,78,85,77,33],[35,78,79,78,69,33]] : List (List UInt8)).map fun l=>.lit (.string l)):=rfl
 rw [hD5] at hd5
 obtain ⟨r5,s5⟩:=zKc (P:=Tryz.prog) (g:=0) (n:=7) (e:=9) (World.var?_cell et5 hvar5) (by kernel_rfl) (by kernel_rfl) (by kernel_rfl) (by kernel_rfl) (by decide) hd5
 exact ⟨.nilIface,zFH h,r5,⟨_,hvar5,s5⟩,hpow⟩
theorem sim_q {w : World} {m : Int} {ev : Value} (hV : VarsAt w ev) (hm : w.cell? ⟨3,0,none⟩ = some (.int .i64 m)) (hms : ∃ e,w.shape? 3 = some (e,1)) : Sim (gtQ m ev) w (fun _=>none) (zB7 w) [] where
 glob:=fun g x h=>by
  match g,h with
  | 0,h=>cases h; exact hV.texts
  | 1,h=>
   cases h
   have h0:=World.var?_cell et hV.err
   refine Rel.mk_lref (zEs (h0 0)).1 rfl fun j c hj=>?_
   cases j with
   | zero=>
    simp only [AV.cells,Nat.add_zero,List.getElem?_cons_zero,Option.some.injEq] at hj
    subst hj
    exact ⟨_,h0 0,.raw _⟩
   | succ j=>simp [AV.cells] at hj
  | 2,h=>
   cases h
   have h0:=World.var?_cell pt hV.pow
   have hc0 : w.cell? ⟨2,0,none⟩ = some (.int .u64 1):=by rw [h0 0]; simp [Lib.pow10Tab]
   refine Rel.mk_lref (zEs hc0).1 rfl fun j c hj=>?_
   have hj' : (Lib.pow10Tab.map fun z=>AV.int .u64 z)[j]? = some c:=by simpa [zLl,AV.cells] using hj
   rw [List.getElem?_map] at hj'
   obtain ⟨z,hz,rfl⟩:=Option.map_eq_some_iff.1 hj'
   refine ⟨.int .u64 z, ?_,.int _ _⟩
   rw [Nat.zero_add,h0 j]
   simp [hz]
  | 3,h=>
   cases h
   refine Rel.mk_lref (zEs hm).1 rfl fun j c hj=>?_
   cases j with
   | zero=>
    simp only [AV.cells,Nat.add_zero,List.getElem?_cons_zero,Option.some.injEq] at hj
    subst hj
    exact ⟨_,hm,.int _ _⟩
   | succ j=>simp [AV.cells] at hj
  | g + 4,h=>cases h
 idom:=fun k h=>h
 blk:=fun b x h=>by simp at h
 inj:=fun b b' x x' g o o' h=>by simp at h
 shp:=fun g x h=>by
  have of : ∀ {n : String} {g : Nat} {cs : Array Value},Tryz.prog.globalNamed n = some g → w.var? Tryz.prog n = some cs → ∃ e,w.shape? g = some (e,cs.size):=fun {n g cs} hn hv=>by
   simp only [World.var?,hn,Option.bind_some] at hv
   split at hv
   ·rename_i c el fz hh
    cases hv
    exact ⟨el,by simp [World.shape?,hh]⟩
   ·cases hv
  match g,h with
  | 0,h=>
   cases h
   obtain ⟨cs,h1,h2⟩:=hV.textsL
   obtain ⟨e,he⟩:=of et5 h1
   exact ⟨e,by rw [he,h2]; rfl⟩
  | 1,h=>cases h; exact of et hV.err
  | 2,h=>
   cases h
   obtain ⟨e,he⟩:=of pt hV.pow
   refine ⟨e, ?_⟩
   rw [he]
   simp [zLl,AV.cells]
  | 3,h=>cases h; exact hms
  | g + 4,h=>cases h
theorem zGG {w : World} (h : w.ShapedOpen Tryz.prog) : (∃ m,w.cell? ⟨3,0,none⟩ = some (.int .i64 m)) ∧ ∃ e,w.shape? 3 = some (e,1):=by
 refine ⟨Go.Proofs.cell_of_shapedOpen_int (zero:=#[.int .i64 0]) (t:=3) h (of_decide_eq_true (by kernel_rfl)) (by kernel_rfl) rfl (by kernel_rfl) (by kernel_rfl) Tryz.underlying3, ?_⟩
 obtain ⟨cs,hh,hs,hr⟩:=h.1 3 #[.int .i64 0] 3 (of_decide_eq_true (by kernel_rfl)) (by kernel_rfl)
 have hs : cs.size = 1:=hs
 exact ⟨3,by simp only [World.shape?,hh,hs]⟩
theorem zGH {w : World} {m : Int} {ev : Value} {f : FuncId} {fn : Func} {args : List AV} {cargs : List Value} (hV : VarsAt w ev) (hm : w.cell? ⟨3,0,none⟩ = some (.int .i64 m)) (hms : ∃ e,w.shape? 3 = some (e,1))
  (hf : Tryz.prog.funcs[f]? = some fn) (hname : (fn.name == "runtime.NumGoroutine") = false) (hb : fn.body.isSome = true) (hgd : Go.AM.Good Tryz.prog (gtQ m ev) f args [] (.bool true) []) (hA : zAu w (fun _=>none) (zB7 w) 0 args cargs) :
  Calls Tryz.prog f cargs.toArray w fun e w'=>e = .returned (.bool true) ∧ Below w.heap.size w w':=
 (zF7 hf hname hb hgd (sim_q hV hm hms) hA).mono fun e w' ⟨v',he,M',I',hG,_,hR⟩=>by
  cases hR
  exact ⟨he,zF8 hG⟩
end Go.Proofs.YtgcggndacnmhfaaGreatDoor
