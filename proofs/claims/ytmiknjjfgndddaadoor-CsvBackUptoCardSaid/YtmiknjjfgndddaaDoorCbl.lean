/-
  The step of the row CsvBack (the second form): whatever comes in of bulk at most 1048576, the law says true, and writes nothing that was there; the variables that are listed are tied to the program's text.
-/
import Derived.Test.YtmiknjjfgndddaaDoorGGcbBlk
import Derived.Test.YtmiknjjfgndddaaDoorLdQ4
import Derived.SevenTiedAt
import Derived.SizedLaws
import Derived.JoinedCond
import Derived.Deep.DeepHandedRow
set_option linter.all false
set_option maxRecDepth 100000
namespace Go.Proofs.YtmiknjjfgndddaaDoor.csvBack
open Go.ChangeShapes Go.WideShapes Go.ChangeAt Go.RowKit Go.AM
theorem zKz {x : AV} (h : Fits .str x) : ∃ s,x = .str s:=by cases h with | str s h=>exact ⟨s,rfl⟩
theorem law_walk (v0 v1 : Value) (W : World) (hL : laidMetH Tryd.prog Rows.csvBackUptoRow.laid W) (hsh : W.ShapedOpen Tryd.prog) {r : Reach} {bb0 bb1 : Nat} {held : Bool} {H : Type} {enc : TypeId × Value → H} {dd0 dd1 : DataW H} {pp0 pp1 : List MemPlace}
  (o0 : Value.okWide Tryd.prog W r bb0 22 v0) (h0 : DataW.Trod enc Tryd.prog W 0 (fun _=>true) held 22 v0 dd0 pp0) (o1 : Value.okWide Tryd.prog W r bb1 9 v1) (h1 : DataW.Trod enc Tryd.prog W 0 (fun _=>true) held 9 v1 dd1 pp1) (hb : Rows.uptoBulk dd0 ≤ 1048576) :
  Calls Tryd.prog 3 #[v0,v1] W fun e w'=>e = .returned (.bool true) ∧ Below W.heap.size W w':=by
 obtain ⟨ev,hV⟩:=zFM hL
 obtain ⟨⟨m,hm⟩,hms⟩:=zET hsh
 obtain ⟨x0,e0,r0⟩:=zDK (m:=9) (s:=.sl false [.sl false [.str]]) (by kernel_rfl) o0 h0
 obtain ⟨t0,ro0,q0,y0⟩:=zKU e0
 have bd0 : Bnd t0:=zJn (P:=Tryd.prog) (e:=27) (e2:=9) Tryd.underlying22 (by kernel_rfl) Tryd.underlying27 (by kernel_rfl) Tryd.underlying9 h0 (by obtain ⟨q,xs,rfl⟩:=q0; cases r0 <;> rfl) ro0 q0 y0 r0 hb
 obtain ⟨x1,e1,r1⟩:=zDK (m:=9) (s:=.str) (by kernel_rfl) o1 h1
 obtain ⟨s1,rfl⟩:=zKz e1
 exact zEU hV hm hms Tryd.func3 (by kernel_rfl) (by kernel_rfl) (g_law x0 t0 ro0 bd0 s1 []) (zFI r0 (zFI r1 (zJS _ _ _ _)))
theorem reads (os : Os) {H : Type} (enc : TypeId × Value → H) : ∃ places,DataW.whole enc Tryd.prog ((zAU os).forCall (fun _ _=>0) ⟨#[],#[.slice none 0 0,.string ByteArray.empty],[]⟩).memory Tryd.f3.params.toList Rows.csvBackSpec.vars false #[Value.slice none 0 0,Value.string ByteArray.empty].toList 8 = some ([.nil,.lit (.string [])],[],places):=
 ⟨[],by kernel_rfl⟩
theorem lifted (os : Os) (started : os.Started) (H : Type) (enc : TypeId × Value → H) (F : Stop.Interp) :
  ReturnsInHanded {} Tryd.checked os 3 .any ((Rows.OpenSpec.upto Rows.csvBackSpec).preRow enc Tryd.prog Tryd.f3 Rows.csvBackUptoRow.domain false Rows.csvBackUptoRow.laid) (((Rows.OpenSpec.upto Rows.csvBackSpec).at F).post enc Tryd.prog Tryd.f3 false true false false):=by
 obtain ⟨places,hx⟩:=reads os enc
 refine returnsInHanded_of_row (C:=Tryd.checked) (s:=Rows.OpenSpec.upto Rows.csvBackSpec) own started (by kernel_rfl) Tryd.func3
  (witness_row_at (enc:=enc) (C:=Tryd.checked) false (zAU os) #[.slice none 0 0,.string ByteArray.empty] (zFL os) (by kernel_rfl) (by kernel_rfl) (by kernel_rfl)
   (OpenSpec.preRow_of_cond 8 hx (by kernel_rfl) (fun k hk=>by cases hk; kernel_rfl) (by kernel_rfl) (laidWorld_met os _))) ?_
 intro W base args ds gs before hval0 hW _ hcond _ hL hsh _
 have hval : ∀ (j : Nat) t v,Tryd.f3.params[j]? = some t → args[j]? = some v → Value.okWide Tryd.prog W .any base t v:=hval0
 have hW':=hW
 obtain ⟨p,q,hA0,hV,rfl,hfz,hnd⟩:=hW
 have hA : DataW.TrodAll enc Tryd.prog W 0 (fun _=>true) true Tryd.f3.params.toList args.toList ds p:=hA0
 rw [Tryd.params3] at hA hval
 obtain ⟨v0,vs0,d0,ds0,p0,q0,hargs,rfl,rfl,h0,r0⟩:=trodAll_cons hA
 obtain ⟨v1,vs1,d1,ds1,p1,q1,rfl,rfl,rfl,h1,r1⟩:=trodAll_cons r0
 obtain ⟨rfl,rfl,rfl⟩:=trodAll_nil r1
 obtain rfl : args = #[v0,v1]:=by cases args; simp_all
 obtain ⟨rfl,rfl⟩:=trodVars_none hV
 have lt0 : ∀ x ∈ p0,x.block < W.heap.size:=by obtain ⟨m,hm⟩:=h0; exact DataW.trod_lt m _ _ _ hm
 have lt1 : ∀ x ∈ p1,x.block < W.heap.size:=by obtain ⟨m,hm⟩:=h1; exact DataW.trod_lt m _ _ _ hm
 have hbk : Rows.uptoBulkAll ([d0,d1] ++ []) ≤ 1048576:=of_decide_eq_true (hcond _ rfl)
 have hb : Rows.uptoBulk d0 ≤ 1048576:=Nat.le_trans (zIx (by simp)) hbk
 refine (law_walk v0 v1 W hL hsh (hval 0 22 v0 rfl rfl) h0 (hval 1 9 v1 rfl rfl) h1 hb).mono fun e W' ⟨he,bel⟩=>?_
 subst he
 exact ⟨_,rfl,_,_,_,[],_,[],hW',trodAll_mk1 (shut_bool Tryd.underlying4 _),(trodAll_cons_mk (Below.trod zIW (by kernel_rfl) (of_decide_eq_true (by kernel_rfl)) h0 bel lt0) (trodAll_cons_mk (Below.trod zIW (by kernel_rfl) (of_decide_eq_true (by kernel_rfl)) h1 bel lt1) trodAll_mk0)),rfl,bel.frame _,fun h=>by cases h⟩
end Go.Proofs.YtmiknjjfgndddaaDoor.csvBack
