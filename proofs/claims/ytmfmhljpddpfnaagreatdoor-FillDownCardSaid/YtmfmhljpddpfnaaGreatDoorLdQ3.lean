/- The package-level variables of the rows of the great door: a world that meets the rows' condition; what the variables hold. Own work, after the guide's worked examples. -/
import Derived.Test.YtmfmhljpddpfnaaGreatDoorLdQ2
import Derived.Test.YtmfmhljpddpfnaaGreatDoorGItQLvs
set_option maxRecDepth 100000
set_option linter.all false
namespace Go.Proofs.YtmfmhljpddpfnaaGreatDoor
open Go.ChangeShapes Go.WideShapes Go.RowKit Go.AM
theorem laidWorld_met (os:Os) (args:Array Value):laidMetH Tryz.prog zNZ ((zGO os).forCall (fun _ _=>0) ⟨#[],args,[]⟩).memory:=
 laidMetH_of_parts (laidMet_of_run' 8 (laid1 os args) (laid2 os args)) (by kernel_rfl)
theorem zPb {W:World} (h:laidMetH Tryz.prog zNZ W):W.var? Tryz.prog "errors.errorType" = some #[zGt]:=by
 have h':laidMet Tryz.prog zJS W/\handlesMet Tryz.prog [("errors.errorType", Rows.laid_errors_errorType)] W:=h;obtain ⟨name,u,ty,e1,e2,e3,e4,e5⟩:=h'.2 _ (zl5.2 rfl);have en:name=[101,114,114,111,114]:=(zoh e1).symm;subst en;obtain rfl:=zoh (rt.symm.trans e2);have hm:ty∈(List.range 321).filter fun t=>Tryz.prog.rowNamed t [101,114,114,111,114]:=znI.2 ⟨znL.2 (by rw [<-size];exact e3),e4⟩;rw [zj2] at hm;obtain rfl:=zl5.1 hm;have hh:typeHandle Tryz.prog 30=.pointer (some ⟨11,30,none⟩):=by kernel_rfl
 rw [hh] at e5;exact e5
theorem pt:Tryz.prog.globalNamed "internal/strconv.uint64pow10" = some 6:=by kernel_rfl
theorem et2:Tryz.prog.globalNamed "sccsettle/formula.loose" = some 1:=by kernel_rfl
theorem et5:Tryz.prog.globalNamed "sccsettle/value.texts" = some 2:=by kernel_rfl
theorem et7:Tryz.prog.globalNamed "strconv.ErrRange" = some 8:=by kernel_rfl
structure VarsAt (W:World) (ev:Value):Prop where
 err:W.var? Tryz.prog "errors.errorType" = some #[zGt]
 range:W.var? Tryz.prog "strconv.ErrRange" = some #[ev]
 isI:∃ te pe,ev=.iface te pe
 texts:Rel W (fun _=>none) (zFn W) 0 (.lref zOi 0) (.pointer (some ⟨2,0,none⟩))
 textsL:∃ cs,W.var? Tryz.prog "sccsettle/value.texts" = some cs/\cs.size=7
 loose:Rel W (fun _=>none) (zFn W) 0 (.lref zSo 0) (.pointer (some ⟨1,0,none⟩))
 pow:W.var? Tryz.prog "internal/strconv.uint64pow10" = some (Lib.pow10Tab.map fun z=>Value.int .u64 z).toArray
 looseL:∃ cs,W.var? Tryz.prog "sccsettle/formula.loose" = some cs/\cs.size=4
theorem zSu {W:World} (h:laidMetH Tryz.prog zNZ W):∃ ev,VarsAt W ev:=by
 have h':laidMet Tryz.prog zJS W/\handlesMet Tryz.prog [("errors.errorType", Rows.laid_errors_errorType)] W:=h;obtain ⟨ps,hv,_⟩:=h'.1;have hv:DataW.LaidVars Tryz.prog W [("math/bits.deBruijn32tab", Rows.laid_math_bits_deBruijn32tab),("math/bits.deBruijn64tab", Rows.laid_math_bits_deBruijn64tab),("internal/strconv.uint64pow10", Rows.laid_internal_strconv_uint64pow10),("unicode/utf8.acceptRanges", Rows.laid_unicode_utf8_acceptRanges),("strconv.ErrRange", Rows.laid_strconv_ErrRange),("strconv.ErrSyntax", Rows.laid_strconv_ErrSyntax),("sccsettle/value.texts", Rows.laid_sccsettle_value_texts),("sccsettle/formula.loose", Rows.laid_sccsettle_formula_loose),("unicode/utf8.first", Rows.laid_unicode_utf8_first)] ps:=hv;obtain ⟨_,_,_,_,_,_,_,_,_,_,hv,_⟩:=hv;obtain ⟨_,_,_,_,_,_,_,_,_,_,hv,_⟩:=hv;obtain ⟨g6,t6,cs6,fuel6,p6,q6,hg6,ht6,hvar6,hd6,hv,_⟩:=hv;obtain rfl:=zoh (pt.symm.trans hg6);have htt6:(Tryz.prog.globals[6]?).map (·.type)=some 265:=by kernel_rfl
 obtain rfl:=zoh (htt6.symm.trans ht6);have hdat:(Rows.laid_internal_strconv_uint64pow10:DataW Unit)=Lib.tabData .u64 Lib.pow10Tab:=by kernel_rfl
 rw [hdat] at hd6;have hpow:W.var? Tryz.prog "internal/strconv.uint64pow10" = some (Lib.pow10Tab.map fun z=>Value.int .u64 z).toArray:=by
  rw [hvar6,<-Lib.cells_of_tab (n:=20) (e:=235) Tryz.underlying265 Tryz.underlying235 (by kernel_rfl) (by kernel_rfl) hd6]
 obtain ⟨_,_,_,_,_,_,_,_,_,_,hv,_⟩:=hv;obtain ⟨g7,t7,cs7,fuel7,p7,q7,hg7,ht7,hvar7,hd7,hv,_⟩:=hv;obtain ⟨_,_,_,_,_,_,_,_,_,_,hv,_⟩:=hv;obtain ⟨g5,t5,cs5,fuel5,p5,q5,hg5,ht5,hvar5,hd5,hv,_⟩:=hv;obtain ⟨g2,t2,cs2,fuel2,p2,q2,hg2,ht2,hvar2,hd2,hv,_⟩:=hv;obtain ⟨_,_,_,_,_,_,_,_,_,_,hv,_⟩:=hv;obtain rfl:=zoh (et7.symm.trans hg7);obtain rfl:=zoh (et5.symm.trans hg5);obtain rfl:=zoh (et2.symm.trans hg2);have htt7:(Tryz.prog.globals[8]?).map (·.type)=some 30:=by kernel_rfl
 have htt5:(Tryz.prog.globals[2]?).map (·.type)=some 206:=by kernel_rfl
 have htt2:(Tryz.prog.globals[1]?).map (·.type)=some 174:=by kernel_rfl
 obtain rfl:=zoh (htt7.symm.trans ht7);obtain rfl:=zoh (htt5.symm.trans ht5);obtain rfl:=zoh (htt2.symm.trans ht2);obtain ⟨u,v,hcs⟩:=zXe (P:=Tryz.prog) (ms:=#[("Error", 141)]) (by kernel_rfl) hd7;have hcs:cs7=#[.iface u v]:=by
  cases cs7;simp at hcs;simp [hcs]
 subst hcs;have hD5:(Rows.laid_sccsettle_value_texts:DataW Unit)=.agg (([[],[35,68,73,86,33],[35,86,65,76,85,69,33],[35,82,69,70,33],[35,78,65,77,69,33],[35,78,85,77,33],[35,78,79,78,69,33]]:List (List UInt8)).map fun l=>.lit (.string l)):=rfl;rw [hD5] at hd5;obtain ⟨r5,s5⟩:=zZ9 (P:=Tryz.prog) (g:=2) (n:=7) (e:=9) (World.var?_cell et5 hvar5) (by kernel_rfl) (by kernel_rfl) (by kernel_rfl) (by kernel_rfl) zD_ hd5;have hD2:(Rows.laid_sccsettle_formula_loose:DataW Unit)=.agg (([[[60,62],[60,61],[62,61],[61],[60],[62]],[[38]],[[43],[45]],[[42],[47]]]:List (List (List UInt8))).map fun ls=>.slice (ls.map fun l=>.lit (.string l)) []):=rfl;rw [hD2] at hd2;obtain ⟨r2,s2⟩:=zXf (P:=Tryz.prog) (g:=1) (n:=4) (u:=160) (e:=9) (World.var?_cell et2 hvar2) (by kernel_rfl) (by kernel_rfl) (by kernel_rfl) (by kernel_rfl) (by kernel_rfl) (by kernel_rfl) zD_ zD_ hd2;exact ⟨.iface u v,zPb h,hvar7,⟨_,_,rfl⟩,r5,⟨_,hvar5,s5⟩,r2,hpow,⟨_,hvar2,s2⟩⟩
theorem sim_q {w:World} {m:Int} {ev:Value} (hV:VarsAt w ev) (hm:w.cell? ⟨3,0,none⟩=some (.int .i64 m)) (hms:∃ e,w.shape? 3=some (e,1)):Sim (gtQ m ev) w (fun _=>none) (zFn w) [] where
 glob:=fun g x h=>by
  match g,h with
  |0,h=>
   cases h;have h0:=World.var?_cell et hV.err;refine Rel.mk_lref (zJL (h0 0)).1 rfl fun j c hj=>?_;cases j with
   |zero=>
    simp only [AV.cells,zmz,zmc,zoS] at hj;subst hj;exact ⟨_,h0 0,.raw _⟩
   |succ j=>simp [AV.cells] at hj
  |1,h=>cases h;exact hV.loose
  |2,h=>cases h;exact hV.texts
  |3,h=>
   cases h;refine Rel.mk_lref (zJL hm).1 rfl fun j c hj=>?_;cases j with
   |zero=>
    simp only [AV.cells,zmz,zmc,zoS] at hj;subst hj;exact ⟨_,hm,.int _ _⟩
   |succ j=>simp [AV.cells] at hj
  |4,h=>cases h
  |5,h=>cases h
  |6,h=>
   cases h;have h0:=World.var?_cell pt hV.pow;have hc0:w.cell? ⟨6,0,none⟩=some (.int .u64 1):=by rw [h0 0];simp [Lib.pow10Tab]
   refine Rel.mk_lref (zJL hc0).1 rfl fun j c hj=>?_;have hj':(Lib.pow10Tab.map fun z=>AV.int .u64 z)[j]?=some c:=by simpa [zd1,AV.cells] using hj
   rw [zoX] at hj';obtain ⟨z,hz,rfl⟩:=zoV.1 hj';refine ⟨.int .u64 z, ?_,.int _ _⟩;rw [zl7,h0 j];simp [hz]
  |7,h=>cases h
  |8,h=>
   cases h;have h0:=World.var?_cell et7 hV.range;refine Rel.mk_lref (zJL (h0 0)).1 rfl fun j c hj=>?_;cases j with
   |zero=>
    simp only [AV.cells,zmz,zmc,zoS] at hj;subst hj;exact ⟨_,h0 0,.raw _⟩
   |succ j=>simp [AV.cells] at hj
  |g+9,h=>cases h
 idom:=fun k h=>h
 blk:=fun b x h=>by simp at h
 inj:=fun b b' x x' g o o' h=>by simp at h
 shp:=fun g x h=>by
  have of:∀ {n:String} {g:Nat} {cs:Array Value},Tryz.prog.globalNamed n=some g->w.var? Tryz.prog n=some cs->∃ e,w.shape? g=some (e,cs.size):=fun {n g cs} hn hv=>by
   simp only [World.var?,hn,zmH] at hv;split at hv
   ·rename_i c el fz hh;cases hv;exact ⟨el,by simp [World.shape?,hh]⟩
   ·cases hv
  match g,h with
  |0,h=>cases h;exact of et hV.err
  |1,h=>
   cases h;obtain ⟨cs,h1,h2⟩:=hV.looseL;obtain ⟨e,he⟩:=of et2 h1;exact ⟨e,by rw [he,h2];rfl⟩
  |2,h=>
   cases h;obtain ⟨cs,h1,h2⟩:=hV.textsL;obtain ⟨e,he⟩:=of et5 h1;exact ⟨e,by rw [he,h2];rfl⟩
  |3,h=>cases h;exact hms
  |4,h=>cases h
  |5,h=>cases h
  |6,h=>
   cases h;obtain ⟨e,he⟩:=of pt hV.pow;refine ⟨e, ?_⟩;rw [he];simp [zd1,AV.cells]
  |7,h=>cases h
  |8,h=>cases h;exact of et7 hV.range
  |g+9,h=>cases h
theorem zRM {w:World} (h:w.ShapedOpen Tryz.prog):(∃ m,w.cell? ⟨3,0,none⟩=some (.int .i64 m))/\∃ e,w.shape? 3=some (e,1):=by
 refine ⟨Go.Proofs.cell_of_shapedOpen_int (zero:=#[.int .i64 0]) (t:=3) h (zow (by kernel_rfl)) (by kernel_rfl) rfl (by kernel_rfl) (by kernel_rfl) Tryz.underlying3, ?_⟩;obtain ⟨cs,hh,hs,hr⟩:=h.1 3 #[.int .i64 0] 3 (zow (by kernel_rfl)) (by kernel_rfl);have hs:cs.size=1:=hs;exact ⟨3,by simp only [World.shape?,hh,hs]⟩
theorem zRN {w:World} {m:Int} {ev:Value} {f:FuncId} {fn:Func} {args:List AV} {cargs:List Value} (hV:VarsAt w ev) (hm:w.cell? ⟨3,0,none⟩=some (.int .i64 m)) (hms:∃ e,w.shape? 3=some (e,1))
  (hf:Tryz.prog.funcs[f]?=some fn) (hname:(fn.name == "runtime.NumGoroutine")=false) (hb:fn.body.isSome=true) (hgd:Go.AM.Good Tryz.prog (gtQ m ev) f args [] (.bool true) []) (hA:zED w (fun _=>none) (zFn w) 0 args cargs) :
  Calls Tryz.prog f cargs.toArray w fun e w'=>e=.returned (.bool true)/\Below w.heap.size w w':=
 (zQ4 hf hname hb hgd (sim_q hV hm hms) hA).mono fun e w' ⟨v',he,M',I',hG,_,hR⟩=>by
  cases hR;exact ⟨he,zQ5 hG⟩
end Go.Proofs.YtmfmhljpddpfnaaGreatDoor
