/-
  The step of the row CsvWrites (the second form): whatever comes in of bulk at most 1048576, the law says true, and writes nothing that was there; the variables that are listed are tied to the program's text.
-/
import Derived.Test.YtmiknjjfgndddaaDoorGGcwBlk
import Derived.Test.YtmiknjjfgndddaaDoorLdQ4
import Derived.SevenTiedAt
import Derived.SizedLaws
import Derived.JoinedCond
import Derived.Deep.DeepHandedRow
set_option linter.all false
set_option maxRecDepth 100000
namespace Go.Proofs.YtmiknjjfgndddaaDoor.csvWrites
open Go.ChangeShapes Go.WideShapes Go.ChangeAt Go.RowKit Go.AM
theorem law_walk (v0 : Value) (W : World) (hL : laidMetH Tryd.prog Rows.csvWritesUptoRow.laid W) (hsh : W.ShapedOpen Tryd.prog) {r : Reach} {bb0 : Nat} {held : Bool} {H : Type} {enc : TypeId × Value → H} {dd0 : DataW H} {pp0 : List MemPlace}
  (o0 : Value.okWide Tryd.prog W r bb0 22 v0) (h0 : DataW.Trod enc Tryd.prog W 0 (fun _=>true) held 22 v0 dd0 pp0) (hb : Rows.uptoBulk dd0 ≤ 1048576) :
  Calls Tryd.prog 4 #[v0] W fun e w'=>e = .returned (.bool true) ∧ Below W.heap.size W w':=by
 obtain ⟨ev,hV⟩:=zFJ hL
 obtain ⟨⟨m,hm⟩,hms⟩:=zEX hsh
 obtain ⟨x0,e0,r0⟩:=zFt (m:=9) (s:=.sl false [.sl false [.str]]) (by kernel_rfl) o0 h0
 obtain ⟨t0,ro0,q0,y0⟩:=zJw e0
 have bd0 : Bnd t0:=zJG (P:=Tryd.prog) (e:=27) (e2:=9) Tryd.underlying22 (by kernel_rfl) Tryd.underlying27 (by kernel_rfl) Tryd.underlying9 h0 (by obtain ⟨q,xs,rfl⟩:=q0; cases r0 <;> rfl) ro0 q0 y0 r0 hb
 exact zEY hV hm hms Tryd.func4 (by kernel_rfl) (by kernel_rfl) (g_law x0 t0 ro0 bd0 []) (zH1 r0 (zIz _ _ _ _))
theorem reads (os : Os) {H : Type} (enc : TypeId × Value → H) : ∃ places,DataW.whole enc Tryd.prog ((zAb os).forCall (fun _ _=>0) ⟨#[],#[.slice none 0 0],[]⟩).memory Tryd.f4.params.toList Rows.csvWritesSpec.vars false #[Value.slice none 0 0].toList 8 = some ([.nil],[],places):=
 ⟨[],by kernel_rfl⟩
theorem lifted (os : Os) (started : os.Started) (H : Type) (enc : TypeId × Value → H) (F : Stop.Interp) :
  ReturnsInHanded {} Tryd.checked os 4 .any ((Rows.OpenSpec.upto Rows.csvWritesSpec).preRow enc Tryd.prog Tryd.f4 Rows.csvWritesUptoRow.domain false Rows.csvWritesUptoRow.laid) (((Rows.OpenSpec.upto Rows.csvWritesSpec).at F).post enc Tryd.prog Tryd.f4 false true false false):=by
 obtain ⟨places,hx⟩:=reads os enc
 refine returnsInHanded_of_row (C:=Tryd.checked) (s:=Rows.OpenSpec.upto Rows.csvWritesSpec) own started (by kernel_rfl) Tryd.func4
  (witness_row_at (enc:=enc) (C:=Tryd.checked) false (zAb os) #[.slice none 0 0] (zFI os) (by kernel_rfl) (by kernel_rfl) (by kernel_rfl)
   (OpenSpec.preRow_of_cond 8 hx (by kernel_rfl) (fun k hk=>by cases hk; kernel_rfl) (by kernel_rfl) (laidWorld_met os _))) ?_
 intro W base args ds gs before hval0 hW _ hcond _ hL hsh _
 have hval : ∀ (j : Nat) t v,Tryd.f4.params[j]? = some t → args[j]? = some v → Value.okWide Tryd.prog W .any base t v:=hval0
 have hW':=hW
 obtain ⟨p,q,hA0,hV,rfl,hfz,hnd⟩:=hW
 have hA : DataW.TrodAll enc Tryd.prog W 0 (fun _=>true) true Tryd.f4.params.toList args.toList ds p:=hA0
 rw [Tryd.params4] at hA hval
 obtain ⟨v0,vs0,d0,ds0,p0,q0,hargs,rfl,rfl,h0,r0⟩:=trodAll_cons hA
 obtain ⟨rfl,rfl,rfl⟩:=trodAll_nil r0
 obtain rfl : args = #[v0]:=by cases args; simp_all
 obtain ⟨rfl,rfl⟩:=trodVars_none hV
 have lt0 : ∀ x ∈ p0,x.block < W.heap.size:=by obtain ⟨m,hm⟩:=h0; exact DataW.trod_lt m _ _ _ hm
 have hbk : Rows.uptoBulkAll ([d0] ++ []) ≤ 1048576:=of_decide_eq_true (hcond _ rfl)
 have hb : Rows.uptoBulk d0 ≤ 1048576:=Nat.le_trans (zIS (by simp)) hbk
 refine (law_walk v0 W hL hsh (hval 0 22 v0 rfl rfl) h0 hb).mono fun e W' ⟨he,bel⟩=>?_
 subst he
 exact ⟨_,rfl,_,_,_,[],_,[],hW',trodAll_mk1 (shut_bool Tryd.underlying4 _),(trodAll_cons_mk (Below.trod zJk (by kernel_rfl) (of_decide_eq_true (by kernel_rfl)) h0 bel lt0) trodAll_mk0),rfl,bel.frame _,fun h=>by cases h⟩
end Go.Proofs.YtmiknjjfgndddaaDoor.csvWrites
