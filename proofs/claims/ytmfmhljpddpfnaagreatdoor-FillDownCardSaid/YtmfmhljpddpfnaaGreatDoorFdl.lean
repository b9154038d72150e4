/-
  The step of the row FillDown: whatever comes in, the law says true, and writes nothing that was there; the variables that are listed are tied to the program's text. No conditions.
-/
import Derived.Test.YtmfmhljpddpfnaaGreatDoorGFlaGfi
import Derived.Test.YtmfmhljpddpfnaaGreatDoorGBe0Itd
import Derived.Test.YtmfmhljpddpfnaaGreatDoorLdQ4
import Derived.SevenTiedAt
import Derived.SizedLaws
set_option maxRecDepth 100000
set_option linter.all false
namespace Go.Proofs.YtmfmhljpddpfnaaGreatDoor.fillDown
open Go.ChangeShapes Go.WideShapes Go.RowKit Go.AM
open Go.ChangeMaps (open_string shut_string)
theorem law_walk (v0 v1:Value) (W:World) (hL:laidMetH Tryz.prog Rows.fillDownRow.laid W) (hsh:W.ShapedOpen Tryz.prog) {r:Reach} {bb0 bb1:Nat} {held:Bool} {H:Type} {enc:TypeId×Value->H} {dd0 dd1:DataW H} {pp0 pp1:List MemPlace}
  (o0:Value.okWide Tryz.prog W r bb0 22 v0) (h0:DataW.Trod enc Tryz.prog W 0 (fun _=>true) held 22 v0 dd0 pp0) (o1:Value.okWide Tryz.prog W r bb1 26 v1) (h1:DataW.Trod enc Tryz.prog W 0 (fun _=>true) held 26 v1 dd1 pp1)
  (hsz:(DataW.weightsEach Tryz.prog (Tryz.f4.params.toList++Rows.fillDownSpec.plain.varTypes Tryz.prog) ([dd0,dd1]++[])).all (·<=reachBytes)=true) :
  Calls Tryz.prog 4 #[v0,v1] W fun e w'=>e=.returned (.bool true)/\Below W.heap.size W w':=by
 obtain ⟨ev,hV⟩:=zSu hL;obtain ⟨⟨m,hm⟩,hms⟩:=zRM hsh;obtain ⟨x0,e0,r0⟩:=zUF (m:=9) (s:=.sl true [.int .i64,.int .i64,.str]) (by kernel_rfl) o0 h0;obtain ⟨l0,q0,g0,k0,m0⟩:=zbC e0;obtain ⟨x1,n1,e1,r1⟩:=zKQ (m:=9) (ss:=[.int .i64,.int .i64,.int .i64,.int .i64]) (by kernel_rfl) o1 h1;obtain ⟨a1,b1,c1,d1,g1,i1,j1,k1,l1⟩:=zkh n1 e1;rw [g1] at r1;exact zRN hV hm hms Tryz.func4 (by kernel_rfl) (by kernel_rfl) (zld hV.isI e0 a1 b1 c1 d1 []) (zOb r0 (zOb r1 (zdN _ _ _ _)))
theorem lifted (os:Os) (started:os.Started) (H:Type) (enc:TypeId×Value->H) :
  ReturnsInHanded {} Tryz.checked os 4 .any (fun w args=>(Rows.fillDownSpec.pre enc Tryz.prog Tryz.f4 [] false w args/\laidMetH Tryz.prog Rows.fillDownRow.laid w)/\sizedMet enc Tryz.prog Tryz.f4 (OpenSpec.ofChange Rows.fillDownSpec) false w args)
   (Rows.fillDownSpec.post enc Tryz.prog Tryz.f4 false true false false):=by
 refine zIn (C:=Tryz.checked) (X:=fun w _=>laidMetH Tryz.prog Rows.fillDownRow.laid w) (fun _ _ _ hh h=>h.of_heap hh) own started (by kernel_rfl) Tryz.func4
  (zPe (enc:=enc) (C:=Tryz.checked) (os:=os) (X:=fun w _=>laidMetH Tryz.prog Rows.fillDownRow.laid w) false (zGO os) #[.slice none 0 0,.agg #[.int .i64 0,.int .i64 0,.int .i64 0,.int .i64 0]] 8 (zSp os) (zNN os _) (by kernel_rfl) (by kernel_rfl) (by kernel_rfl) (laidWorld_met os _)) ?_
 intro W base args ds gs before hval0 hW _ hsz hL hsh;have hval:∀ (j:Nat) t v,Tryz.f4.params[j]?=some t->args[j]?=some v->Value.okWide Tryz.prog W .any base t v:=hval0;have hW':=hW;obtain ⟨p,q,hA0,hV,rfl,hfz,hnd⟩:=hW;have hA:DataW.TrodAll enc Tryz.prog W 0 (fun _=>true) true Tryz.f4.params.toList args.toList ds p:=hA0;rw [Tryz.params4] at hA hval;obtain ⟨v0,vs0,d0,ds0,p0,q0,hargs,rfl,rfl,h0,r0⟩:=trodAll_cons hA;obtain ⟨v1,vs1,d1,ds1,p1,q1,rfl,rfl,rfl,h1,r1⟩:=trodAll_cons r0;obtain ⟨rfl,rfl,rfl⟩:=trodAll_nil r1;obtain rfl:args=#[v0,v1]:=by cases args;simp_all
 obtain ⟨rfl,rfl⟩:=trodVars_none hV;have lt0:∀ x∈p0,x.block<W.heap.size:=by obtain ⟨m,hm⟩:=h0;exact DataW.trod_lt m _ _ _ hm
 have lt1:∀ x∈p1,x.block<W.heap.size:=by obtain ⟨m,hm⟩:=h1;exact DataW.trod_lt m _ _ _ hm
 refine (law_walk v0 v1 W hL hsh (hval 0 22 v0 rfl rfl) h0 (hval 1 26 v1 rfl rfl) h1 hsz).mono fun e W' ⟨he,bel⟩=>?_;subst he;exact ⟨_,rfl,_,_,_,[],_,[],hW',trodAll_mk1 (shut_bool Tryz.underlying4 _),(trodAll_cons_mk (Below.trod zUS (by kernel_rfl) (zow (by kernel_rfl)) h0 bel lt0) (trodAll_cons_mk (Below.trod zUS (by kernel_rfl) (zow (by kernel_rfl)) h1 bel lt1) trodAll_mk0)),rfl,bel.frame _,fun h=>by cases h⟩
end Go.Proofs.YtmfmhljpddpfnaaGreatDoor.fillDown
