/-
  The step of the row BookOpens: whatever the bytes, the law says true, and writes nothing that was there; the variables that are listed are tied to the program's text. No conditions.
-/
import Derived.Test.YthpjgjdeogodjaaGreatDoorGOpmGbo
import Derived.Test.YthpjgjdeogodjaaGreatDoorGAm26Arf
import Derived.Test.YthpjgjdeogodjaaGreatDoorLdQ4
import Derived.SevenTiedAt
import Derived.SizedLaws
set_option linter.all false
set_option maxRecDepth 100000
namespace Go.Proofs.YthpjgjdeogodjaaGreatDoor.bookOpens
open Go.ChangeShapes Go.WideShapes Go.RowKit Go.AM
open Go.ChangeMaps (open_string shut_string)
theorem law_walk (v0 : Value) (W : World) (hL : laidMetH Tryz.prog Rows.bookOpensRow.laid W) (hsh : W.ShapedOpen Tryz.prog) {r : Reach} {bb0 : Nat} {held : Bool} {H : Type} {enc : TypeId × Value → H} {dd0 : DataW H} {pp0 : List MemPlace}
  (o0 : Value.okWide Tryz.prog W r bb0 38 v0) (h0 : DataW.Trod enc Tryz.prog W 0 (fun _=>true) held 38 v0 dd0 pp0)
  (hsz : (DataW.weightsEach Tryz.prog (Tryz.f4.params.toList ++ Rows.bookOpensSpec.plain.varTypes Tryz.prog) ([dd0] ++ [])).all (· ≤ reachBytes) = true) :
  Calls Tryz.prog 4 #[v0] W fun e w'=>e = .returned (.bool true) ∧ Below W.heap.size W w':=by
 obtain ⟨ev,hV⟩:=vars_of_laid hL
 obtain ⟨⟨m,hm⟩,hms⟩:=max_of_shaped hsh
 obtain ⟨x0,e0,r0⟩:=arg_of_trod (m:=9) (s:=.sl false [.int .u8]) (by kernel_rfl) o0 h0
 obtain ⟨t0,q0,rfl,u0⟩:=fl_bytes e0
 have z0:=sized_list (j:=0) (t:=38) hsz (by kernel_rfl) rfl Tryz.underlying38 h0 r0
 exact law_of_good_q hV hm hms Tryz.func4 (by kernel_rfl) (by kernel_rfl) (g_bookOpens hV.isI (some q0) t0 [] (len_of1 z0 (by kernel_rfl))) (relL_cons r0 (relL_nil _ _ _ _))
set_option maxRecDepth 100000 in
theorem lifted (os : Os) (started : os.Started) (H : Type) (enc : TypeId × Value → H) :
  ReturnsInHanded {} Tryz.checked os 4 .any (fun w args=>(Rows.bookOpensSpec.pre enc Tryz.prog Tryz.f4 [] false w args ∧ laidMetH Tryz.prog Rows.bookOpensRow.laid w) ∧ sizedMet enc Tryz.prog Tryz.f4 (OpenSpec.ofChange Rows.bookOpensSpec) false w args)
   (Rows.bookOpensSpec.post enc Tryz.prog Tryz.f4 false true false false):=by
 refine zGp (C:=Tryz.checked) (X:=fun w _=>laidMetH Tryz.prog Rows.bookOpensRow.laid w) (fun _ _ _ hh h=>h.of_heap hh) own started (by kernel_rfl) Tryz.func4
  (witness_shaped (enc:=enc) (C:=Tryz.checked) (os:=os) (X:=fun w _=>laidMetH Tryz.prog Rows.bookOpensRow.laid w) false (zEd os) #[.slice none 0 0] 8 (laidWorld_os os) (zKg os _) (by kernel_rfl) (by kernel_rfl) (by kernel_rfl) (laidWorld_met os _)) ?_
 intro W base args ds gs before hval0 hW _ hsz hL hsh
 have hval : ∀ (j : Nat) t v,Tryz.f4.params[j]? = some t → args[j]? = some v → Value.okWide Tryz.prog W .any base t v:=hval0
 have hW':=hW
 obtain ⟨p,q,hA0,hV,rfl,hfz,hnd⟩:=hW
 have hA : DataW.TrodAll enc Tryz.prog W 0 (fun _=>true) true Tryz.f4.params.toList args.toList ds p:=hA0
 rw [Tryz.params4] at hA hval
 obtain ⟨v0,vs0,d0,ds0,p0,q0,hargs,rfl,rfl,h0,r0⟩:=trodAll_cons hA
 obtain ⟨rfl,rfl,rfl⟩:=trodAll_nil r0
 obtain rfl : args = #[v0]:=by cases args; simp_all
 obtain ⟨rfl,rfl⟩:=trodVars_none hV
 have lt0 : ∀ x ∈ p0,x.block < W.heap.size:=by obtain ⟨m,hm⟩:=h0; exact DataW.trod_lt m _ _ _ hm
 refine (law_walk v0 W hL hsh (hval 0 38 v0 rfl rfl) h0 hsz).mono fun e W' ⟨he,bel⟩=>?_
 subst he
 exact ⟨_,rfl,_,_,_,[],_,[],hW',trodAll_mk1 (shut_bool Tryz.underlying4 _),(trodAll_cons_mk (Below.trod laidOut (by kernel_rfl) (of_decide_eq_true (by kernel_rfl)) h0 bel lt0) trodAll_mk0),rfl,bel.frame _,fun h=>by cases h⟩
end Go.Proofs.YthpjgjdeogodjaaGreatDoor.bookOpens
