/- The package-level variables of the row: a world that meets the row's condition; what the variables hold. Own work, after the guide's worked examples. -/
import Derived.Test.YtgcggndacnmhfaaDoorLdQ2
import Derived.Test.YtgcggndacnmhfaaDoorLvs
import Derived.Shelf.Vars
set_option linter.all false
set_option maxRecDepth 100000
namespace Go.Proofs.YtgcggndacnmhfaaDoor
open Go.ChangeShapes Go.WideShapes Go.RowKit Go.AM
theorem laidWorld_met (os : Os) (args : Array Value) : laidMetH Tryd.prog zDV ((zAt os).forCall (fun _ _=>0) ⟨#[],args,[]⟩).memory:=
 laidMetH_of_parts (laidMet_of_run' 8 (laid1 os args) (laid2 os args)) (by kernel_rfl)
theorem pt : Tryd.prog.globalNamed "internal/strconv.uint64pow10" = some 1:=by kernel_rfl
structure VarsAt (W : World) (_ : Value) : Prop where
 pow : W.var? Tryd.prog "internal/strconv.uint64pow10" = some (Lib.pow10Tab.map fun z=>Value.int .u64 z).toArray
theorem zGD {W : World} (h : laidMetH Tryd.prog zDV W) : ∃ ev,VarsAt W ev:=by
 have h' : laidMet Tryd.prog zDV W:=h
 obtain ⟨ps,hv,_⟩:=h'
 have hv : DataW.LaidVars Tryd.prog W [("math/bits.deBruijn32tab", Rows.laid_math_bits_deBruijn32tab),("math/bits.deBruijn64tab", Rows.laid_math_bits_deBruijn64tab),("internal/strconv.uint64pow10", Rows.laid_internal_strconv_uint64pow10),("unicode/utf8.acceptRanges", Rows.laid_unicode_utf8_acceptRanges),("strconv.ErrRange", Rows.laid_strconv_ErrRange),("strconv.ErrSyntax", Rows.laid_strconv_ErrSyntax),("sccsettle/value.texts", Rows.laid_sccsettle_value_texts),("unicode/utf8.first", Rows.laid_unicode_utf8_first)] ps:=hv
 obtain ⟨_,_,_,_,_,_,_,_,_,_,hv,_⟩:=hv
 obtain ⟨_,_,_,_,_,_,_,_,_,_,hv,_⟩:=hv
 obtain ⟨g6,t6,cs6,fuel6,p6,q6,hg6,ht6,hvar6,hd6,hv,_⟩:=hv
 obtain ⟨_,_,_,_,_,_,_,_,_,_,hv,_⟩:=hv
 obtain ⟨_,_,_,_,_,_,_,_,_,_,hv,_⟩:=hv
 obtain ⟨_,_,_,_,_,_,_,_,_,_,hv,_⟩:=hv
 obtain ⟨_,_,_,_,_,_,_,_,_,_,hv,_⟩:=hv
 obtain ⟨_,_,_,_,_,_,_,_,_,_,hv,_⟩:=hv
 obtain rfl:=Option.some.inj (pt.symm.trans hg6)
 have htt6 : (Tryd.prog.globals[1]?).map (·.type) = some 89:=by kernel_rfl
 obtain rfl:=Option.some.inj (htt6.symm.trans ht6)
 have hdat : (Rows.laid_internal_strconv_uint64pow10 : DataW Unit) = Lib.tabData .u64 Lib.pow10Tab:=by kernel_rfl
 rw [hdat] at hd6
 have hpow : W.var? Tryd.prog "internal/strconv.uint64pow10" = some (Lib.pow10Tab.map fun z=>Value.int .u64 z).toArray:=by
  rw [hvar6,← Lib.cells_of_tab (n:=20) (e:=38) Tryd.underlying89 Tryd.underlying38 (by kernel_rfl) (by kernel_rfl) hd6]
 exact ⟨.nilIface,⟨hpow⟩⟩
theorem sim_q {w : World} {m : Int} {ev : Value} (hV : VarsAt w ev) (hm : w.cell? ⟨2,0,none⟩ = some (.int .i64 m)) (hms : ∃ e,w.shape? 2 = some (e,1)) : Sim (gtQ m ev) w (fun _=>none) (zDB w) [] where
 glob:=fun g x h=>by
  match g,h with
  | 0,h=>cases h
  | 1,h=>
   cases h
   have h0:=World.var?_cell pt hV.pow
   have hc0 : w.cell? ⟨1,0,none⟩ = some (.int .u64 1):=by rw [h0 0]; simp [Lib.pow10Tab]
   refine Rel.mk_lref (zGm hc0).1 rfl fun j c hj=>?_
   have hj' : (Lib.pow10Tab.map fun z=>AV.int .u64 z)[j]? = some c:=by simpa [zJ2,AV.cells] using hj
   rw [List.getElem?_map] at hj'
   obtain ⟨z,hz,rfl⟩:=Option.map_eq_some_iff.1 hj'
   refine ⟨.int .u64 z, ?_,.int _ _⟩
   rw [Nat.zero_add,h0 j]
   simp [hz]
  | 2,h=>
   cases h
   refine Rel.mk_lref (zGm hm).1 rfl fun j c hj=>?_
   cases j with
   | zero=>
    simp only [AV.cells,Nat.add_zero,List.getElem?_cons_zero,Option.some.injEq] at hj
    subst hj
    exact ⟨_,hm,.int _ _⟩
   | succ j=>simp [AV.cells] at hj
  | g + 3,h=>cases h
 idom:=fun k h=>h
 blk:=fun b x h=>by simp at h
 inj:=fun b b' x x' g o o' h=>by simp at h
 shp:=fun g x h=>by
  have of : ∀ {n : String} {g : Nat} {cs : Array Value},Tryd.prog.globalNamed n = some g → w.var? Tryd.prog n = some cs → ∃ e,w.shape? g = some (e,cs.size):=fun {n g cs} hn hv=>by
   simp only [World.var?,hn,Option.bind_some] at hv
   split at hv
   ·rename_i c el fz hh
    cases hv
    exact ⟨el,by simp [World.shape?,hh]⟩
   ·cases hv
  match g,h with
  | 0,h=>cases h
  | 1,h=>
   cases h
   obtain ⟨e,he⟩:=of pt hV.pow
   refine ⟨e, ?_⟩
   rw [he]
   simp [zJ2,AV.cells]
  | 2,h=>cases h; exact hms
  | g + 3,h=>cases h
theorem zFP {w : World} (h : w.ShapedOpen Tryd.prog) : (∃ m,w.cell? ⟨2,0,none⟩ = some (.int .i64 m)) ∧ ∃ e,w.shape? 2 = some (e,1):=by
 refine ⟨Go.Proofs.cell_of_shapedOpen_int (zero:=#[.int .i64 0]) (t:=3) h (of_decide_eq_true (by kernel_rfl)) (by kernel_rfl) rfl (by kernel_rfl) (by kernel_rfl) Tryd.underlying3, ?_⟩
 obtain ⟨cs,hh,hs,hr⟩:=h.1 2 #[.int .i64 0] 3 (of_decide_eq_true (by kernel_rfl)) (by kernel_rfl)
 have hs : cs.size = 1:=hs
 exact ⟨3,by simp only [World.shape?,hh,hs]⟩
theorem zFQ {w : World} {m : Int} {ev : Value} {f : FuncId} {fn : Func} {args : List AV} {cargs : List Value} (hV : VarsAt w ev) (hm : w.cell? ⟨2,0,none⟩ = some (.int .i64 m)) (hms : ∃ e,w.shape? 2 = some (e,1))
  (hf : Tryd.prog.funcs[f]? = some fn) (hname : (fn.name == "runtime.NumGoroutine") = false) (hb : fn.body.isSome = true) (hgd : Go.AM.Good Tryd.prog (gtQ m ev) f args [] (.bool true) []) (hA : zAS w (fun _=>none) (zDB w) 0 args cargs) :
  Calls Tryd.prog f cargs.toArray w fun e w'=>e = .returned (.bool true) ∧ Below w.heap.size w w':=
 (zFF hf hname hb hgd (sim_q hV hm hms) hA).mono fun e w' ⟨v',he,M',I',hG,_,hR⟩=>by
  cases hR
  exact ⟨he,zFG hG⟩
end Go.Proofs.YtgcggndacnmhfaaDoor
