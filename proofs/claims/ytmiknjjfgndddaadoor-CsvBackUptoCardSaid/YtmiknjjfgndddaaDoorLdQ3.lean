/- The package-level variables of the row: a world that meets the row's condition; what the variables hold. Own work, after the guide's worked examples. -/
import Derived.Test.YtmiknjjfgndddaaDoorLdQ2
import Derived.Test.YtmiknjjfgndddaaDoorLvs
import Derived.Shelf.Vars
set_option linter.all false
set_option maxRecDepth 100000
namespace Go.Proofs.YtmiknjjfgndddaaDoor
open Go.ChangeShapes Go.WideShapes Go.RowKit Go.AM
theorem laidWorld_met (os : Os) (args : Array Value) : laidMetH Tryd.prog zCk ((zAU os).forCall (fun _ _=>0) ⟨#[],args,[]⟩).memory:=
 laidMetH_of_parts (laidMet_of_run' 8 (laid1 os args) (laid2 os args)) (by kernel_rfl)
structure VarsAt (W : World) (_ : Value) : Prop where
theorem zFM {W : World} (h : laidMetH Tryd.prog zCk W) : ∃ ev,VarsAt W ev:=by
 have h' : laidMet Tryd.prog zCk W:=h
 obtain ⟨ps,hv,_⟩:=h'
 have hv : DataW.LaidVars Tryd.prog W [("unicode/utf8.acceptRanges", Rows.laid_unicode_utf8_acceptRanges),("unicode/utf8.first", Rows.laid_unicode_utf8_first)] ps:=hv
 obtain ⟨_,_,_,_,_,_,_,_,_,_,hv,_⟩:=hv
 obtain ⟨_,_,_,_,_,_,_,_,_,_,hv,_⟩:=hv
 exact ⟨.nilIface,⟨⟩⟩
theorem sim_q {w : World} {m : Int} {ev : Value} (hV : VarsAt w ev) (hm : w.cell? ⟨1,0,none⟩ = some (.int .i64 m)) (hms : ∃ e,w.shape? 1 = some (e,1)) : Sim (gtQ m ev) w (fun _=>none) (zCT w) [] where
 glob:=fun g x h=>by
  match g,h with
  | 0,h=>cases h
  | 1,h=>
   cases h
   refine Rel.mk_lref (zIV hm).1 rfl fun j c hj=>?_
   cases j with
   | zero=>
    simp only [AV.cells,Nat.add_zero,List.getElem?_cons_zero,Option.some.injEq] at hj
    subst hj
    exact ⟨_,hm,.int _ _⟩
   | succ j=>simp [AV.cells] at hj
  | g + 2,h=>cases h
 idom:=fun k h=>h
 blk:=fun b x h=>by simp at h
 inj:=fun b b' x x' g o o' h=>by simp at h
 shp:=fun g x h=>by
  have of : ∀ {n : String} {g : Nat} {cs : Array Value},Tryd.prog.globalNamed n = some g → w.var? Tryd.prog n = some cs → ∃ e,w.shape? g = some (e,cs.size):=fun {n g cs} hn hv=>by
   simp only [World.var?,hn,Option.bind_some] at hv
   split at hv
   ·rename_i c el fz hh
    cases hv
    exact ⟨el,by simp [World.shape?,hh]⟩
   ·cases hv
  match g,h with
  | 0,h=>cases h
  | 1,h=>cases h; exact hms
  | g + 2,h=>cases h
theorem zET {w : World} (h : w.ShapedOpen Tryd.prog) : (∃ m,w.cell? ⟨1,0,none⟩ = some (.int .i64 m)) ∧ ∃ e,w.shape? 1 = some (e,1):=by
 refine ⟨Go.Proofs.cell_of_shapedOpen_int (zero:=#[.int .i64 0]) (t:=3) h (of_decide_eq_true (by kernel_rfl)) (by kernel_rfl) rfl (by kernel_rfl) (by kernel_rfl) Tryd.underlying3, ?_⟩
 obtain ⟨cs,hh,hs,hr⟩:=h.1 1 #[.int .i64 0] 3 (of_decide_eq_true (by kernel_rfl)) (by kernel_rfl)
 have hs : cs.size = 1:=hs
 exact ⟨3,by simp only [World.shape?,hh,hs]⟩
theorem zEU {w : World} {m : Int} {ev : Value} {f : FuncId} {fn : Func} {args : List AV} {cargs : List Value} (hV : VarsAt w ev) (hm : w.cell? ⟨1,0,none⟩ = some (.int .i64 m)) (hms : ∃ e,w.shape? 1 = some (e,1))
  (hf : Tryd.prog.funcs[f]? = some fn) (hname : (fn.name == "runtime.NumGoroutine") = false) (hb : fn.body.isSome = true) (hgd : Go.AM.Good Tryd.prog (gtQ m ev) f args [] (.bool true) []) (hA : zx w (fun _=>none) (zCT w) 0 args cargs) :
  Calls Tryd.prog f cargs.toArray w fun e w'=>e = .returned (.bool true) ∧ Below w.heap.size w w':=
 (zEM hf hname hb hgd (sim_q hV hm hms) hA).mono fun e w' ⟨v',he,M',I',hG,_,hR⟩=>by
  cases hR
  exact ⟨he,zEN hG⟩
end Go.Proofs.YtmiknjjfgndddaaDoor
