/- The package-level variables of the row: a world that meets the row's condition; what the variables hold. Own work, after the guide's worked examples. -/
import Derived.Test.YtcnogafgcfidnaaGreatDoorLdQ2
import Derived.Test.YtcnogafgcfidnaaGreatDoorLvs
import Derived.Shelf.Vars
set_option linter.all false
set_option maxRecDepth 100000
namespace Go.Proofs.YtcnogafgcfidnaaGreatDoor
open Go.ChangeShapes Go.WideShapes Go.RowKit Go.AM
theorem laidWorld_met (os : Os) (args : Array Value) : laidMetH Tryz.prog zGE ((zB8 os).forCall (fun _ _=>0) ⟨#[],args,[]⟩).memory:=
 laidMetH_of_parts (laidMet_of_run' 8 (laid1 os args) (laid2 os args)) (by kernel_rfl)
theorem zHV {W : World} (h : laidMetH Tryz.prog zGE W) : W.var? Tryz.prog "errors.errorType" = some #[zCM]:=by
 have h' : laidMet Tryz.prog zDc W ∧ handlesMet Tryz.prog [("errors.errorType", Rows.laid_errors_errorType)] W:=h
 obtain ⟨name,u,ty,e1,e2,e3,e4,e5⟩:=h'.2 _ (List.mem_singleton.2 rfl)
 have en : name = [101,114,114,111,114]:=(Option.some.inj e1).symm
 subst en
 obtain rfl:=Option.some.inj (rt.symm.trans e2)
 have hm : ty ∈ (List.range 245).filter fun t=>Tryz.prog.rowNamed t [101,114,114,111,114]:=List.mem_filter.2 ⟨List.mem_range.2 (by rw [← size]; exact e3),e4⟩
 rw [zRH] at hm
 obtain rfl:=List.mem_singleton.1 hm
 have hh : typeHandle Tryz.prog 28 = .pointer (some ⟨10,28,none⟩):=by kernel_rfl
 rw [hh] at e5
 exact e5
theorem pt : Tryz.prog.globalNamed "internal/strconv.uint64pow10" = some 4:=by kernel_rfl
structure VarsAt (W : World) (_ : Value) : Prop where
 err : W.var? Tryz.prog "errors.errorType" = some #[zCM]
 pow : W.var? Tryz.prog "internal/strconv.uint64pow10" = some (Lib.pow10Tab.map fun z=>Value.int .u64 z).toArray
theorem zJw {W : World} (h : laidMetH Tryz.prog zGE W) : ∃ ev,VarsAt W ev:=by
 have h' : laidMet Tryz.prog zDc W ∧ handlesMet Tryz.prog [("errors.errorType", Rows.laid_errors_errorType)] W:=h
 obtain ⟨ps,hv,_⟩:=h'.1
 have hv : DataW.LaidVars Tryz.prog W [("math/bits.deBruijn32tab", Rows.laid_math_bits_deBruijn32tab),("math/bits.deBruijn64tab", Rows.laid_math_bits_deBruijn64tab),("internal/strconv.uint64pow10", Rows.laid_internal_strconv_uint64pow10),("unicode/utf8.acceptRanges", Rows.laid_unicode_utf8_acceptRanges),("strconv.ErrRange", Rows.laid_strconv_ErrRange),("strconv.ErrSyntax", Rows.laid_strconv_ErrSyntax),("sccsettle/value.texts", Rows.laid_sccsettle_value_texts),("unicode/utf8.first", Rows.laid_unicode_utf8_first)] ps:=hv
 obtain ⟨_,_,_,_,_,_,_,_,_,_,hv,_⟩:=hv
 obtain ⟨_,_,_,_,_,_,_,_,_,_,hv,_⟩:=hv
 obtain ⟨g6,t6,cs6,fuel6,p6,q6,hg6,ht6,hvar6,hd6,hv,_⟩:=hv
 obtain ⟨_,_,_,_,_,_,_,_,_,_,hv,_⟩:=hv
 obtain ⟨_,_,_,_,_,_,_,_,_,_,hv,_⟩:=hv
 obtain ⟨_,_,_,_,_,_,_,_,_,_,hv,_⟩:=hv
 obtain ⟨_,_,_,_,_,_,_,_,_,_,hv,_⟩:=hv
 obtain ⟨_,_,_,_,_,_,_,_,_,_,hv,_⟩:=hv
 obtain rfl:=Option.some.inj (pt.symm.trans hg6)
 have htt6 : (Tryz.prog.globals[4]?).map (·.type) = some 197:=by kernel_rfl
 obtain rfl:=Option.some.inj (htt6.symm.trans ht6)
 have hdat : (Rows.laid_internal_strconv_uint64pow10 : DataW Unit) = Lib.tabData .u64 Lib.pow10Tab:=by kernel_rfl
 rw [hdat] at hd6
 have hpow : W.var? Tryz.prog "internal/strconv.uint64pow10" = some (Lib.pow10Tab.map fun z=>Value.int .u64 z).toArray:=by
  rw [hvar6,← Lib.cells_of_tab (n:=20) (e:=95) Tryz.underlying197 Tryz.underlying95 (by kernel_rfl) (by kernel_rfl) hd6]
 exact ⟨.nilIface,⟨zHV h,hpow⟩⟩
theorem sim_q {w : World} {m : Int} {ev : Value} (hV : VarsAt w ev) (hm : w.cell? ⟨7,0,none⟩ = some (.int .i64 m)) (hms : ∃ e,w.shape? 7 = some (e,1)) : Sim (gtQ m ev) w (fun _=>none) (zFi w) [] where
 glob:=fun g x h=>by
  match g,h with
  | 0,h=>
   cases h
   have h0:=World.var?_cell et hV.err
   refine Rel.mk_lref (zIm (h0 0)).1 rfl fun j c hj=>?_
   cases j with
   | zero=>
    simp only [AV.cells,Nat.add_zero,List.getElem?_cons_zero,Option.some.injEq] at hj
    subst hj
    exact ⟨_,h0 0,.raw _⟩
   | succ j=>simp [AV.cells] at hj
  | 1,h=>cases h
  | 2,h=>cases h
  | 3,h=>cases h
  | 4,h=>
   cases h
   have h0:=World.var?_cell pt hV.pow
   have hc0 : w.cell? ⟨4,0,none⟩ = some (.int .u64 1):=by rw [h0 0]; simp [Lib.pow10Tab]
   refine Rel.mk_lref (zIm hc0).1 rfl fun j c hj=>?_
   have hj' : (Lib.pow10Tab.map fun z=>AV.int .u64 z)[j]? = some c:=by simpa [powV,AV.cells] using hj
   rw [List.getElem?_map] at hj'
   obtain ⟨z,hz,rfl⟩:=Option.map_eq_some_iff.1 hj'
   refine ⟨.int .u64 z, ?_,.int _ _⟩
   rw [Nat.zero_add,h0 j]
   simp [hz]
  | 5,h=>cases h
  | 6,h=>cases h
  | 7,h=>
   cases h
   refine Rel.mk_lref (zIm hm).1 rfl fun j c hj=>?_
   cases j with
   | zero=>
    simp only [AV.cells,Nat.add_zero,List.getElem?_cons_zero,Option.some.injEq] at hj
    subst hj
    exact ⟨_,hm,.int _ _⟩
   | succ j=>simp [AV.cells] at hj
  | g + 8,h=>cases h
 idom:=fun k h=>h
 blk:=fun b x h=>by simp at h
 inj:=fun b b' x x' g o o' h=>by simp at h
 shp:=fun g x h=>by
  have of : ∀ {n : String} {g : Nat} {cs : Array Value},Tryz.prog.globalNamed n = some g → w.var? Tryz.prog n = some cs → ∃ e,w.shape? g = some (e,cs.size):=fun {n g cs} hn hv=>by
   simp only [World.var?,hn,Option.bind_some] at hv
   split at hv
   ·rename_i c el fz hh
    cases hv
    exact ⟨el,by simp [World.shape?,hh]⟩
   ·cases hv
  match g,h with
  | 0,h=>cases h; exact of et hV.err
  | 1,h=>cases h
  | 2,h=>cases h
  | 3,h=>cases h
  | 4,h=>
   cases h
   obtain ⟨e,he⟩:=of pt hV.pow
   refine ⟨e, ?_⟩
   rw [he]
   simp [powV,AV.cells]
  | 5,h=>cases h
  | 6,h=>cases h
  | 7,h=>cases h; exact hms
  | g + 8,h=>cases h
theorem zIz {w : World} (h : w.ShapedOpen Tryz.prog) : (∃ m,w.cell? ⟨7,0,none⟩ = some (.int .i64 m)) ∧ ∃ e,w.shape? 7 = some (e,1):=by
 refine ⟨Go.Proofs.cell_of_shapedOpen_int (zero:=#[.int .i64 0]) (t:=3) h (of_decide_eq_true (by kernel_rfl)) (by kernel_rfl) rfl (by kernel_rfl) (by kernel_rfl) Tryz.underlying3, ?_⟩
 obtain ⟨cs,hh,hs,hr⟩:=h.1 7 #[.int .i64 0] 3 (of_decide_eq_true (by kernel_rfl)) (by kernel_rfl)
 have hs : cs.size = 1:=hs
 exact ⟨3,by simp only [World.shape?,hh,hs]⟩
theorem zI0 {w : World} {m : Int} {ev : Value} {f : FuncId} {fn : Func} {args : List AV} {cargs : List Value} (hV : VarsAt w ev) (hm : w.cell? ⟨7,0,none⟩ = some (.int .i64 m)) (hms : ∃ e,w.shape? 7 = some (e,1))
  (hf : Tryz.prog.funcs[f]? = some fn) (hname : (fn.name == "runtime.NumGoroutine") = false) (hb : fn.body.isSome = true) (hgd : Go.AM.Good Tryz.prog (gtQ m ev) f args [] (.bool true) []) (hA : zBJ w (fun _=>none) (zFi w) 0 args cargs) :
  Calls Tryz.prog f cargs.toArray w fun e w'=>e = .returned (.bool true) ∧ Below w.heap.size w w':=
 (zIi hf hname hb hgd (sim_q hV hm hms) hA).mono fun e w' ⟨v',he,M',I',hG,_,hR⟩=>by
  cases hR
  exact ⟨he,zIj hG⟩
end Go.Proofs.YtcnogafgcfidnaaGreatDoor
