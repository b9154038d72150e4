/- Several texts of mine in one (Mw5, Gmb). Own work. -/
import Derived.Test.YtmmbcogejaofpaaGreatDoorGMs0Mw4
import Derived.Test.YtmmbcogejaofpaaGreatDoorGAm31Gq
import Derived.Test.YtmmbcogejaofpaaGreatDoorGInsDlg
import Derived.Test.YtmmbcogejaofpaaGreatDoorGSshGds
set_option linter.all false
set_option maxRecDepth 20000
namespace Go.AM
def zBW : List Fil:=[⟨1,1,[50]⟩,⟨2,1,[61,65,49,43,49]⟩]
theorem zEs : Goods zBW:=goods_of (by decide +kernel)
theorem zJm : Goods []:=goods_of (by decide +kernel)
theorem zEt {a b : List Fil} (ha : Goods a) (hb : Goods b) : diffV a b = zCU 3 ((zAP a b).map zO) ∧ zk [a,b] = 0:=by
 have : zk [a,b] = 0:=zCv fun l hl=>by simp at hl; rcases hl with rfl | rfl <;> assumption
 exact ⟨if_pos this,this⟩
section
variable {C : CSpec} {GT : Nat → Option AV}
theorem cell4_ev (c r : Int) (H : Heap) : EFun C GT zFz [zr c,zr r] H (zAu c r) H:=by
 refine zW ?_; refine zJ (v:=[zr c,zr r]) rfl <| zH (v:=AV.agg [zr c,zr r]) (AV.cells (AV.agg [zr c,zr r])) zD rfl rfl rfl rfl ?_
 exact zIQ (o:=0) rfl rfl (zX (zE zD)) rfl rfl rfl (((Old.refl _).push _).set tA _)
theorem small_ev (hC : ∀ c r H,C zCD [zr c,zr r] H (zAu c r) H) (H : Heap) : EFun C GT zFR [] H (.lst (some false) 3 (zBW.map zO)) H:=by
 have h1:=hC 1 1 H
 have h2:=hC 2 1 H
 clear hC
 refine zW ?_; refine zG (h1) ?_; refine zJ (v:=[zr 1,zr 1,AV.str [50]]) rfl ?_; refine zG h2 ?_; refine zJ (v:=[zr 2,zr 1,AV.str [61,65,49,43,49]]) rfl ?_; refine zAt (vs':=[zO ⟨1,1,[50]⟩,zO ⟨2,1,[61,65,49,43,49]⟩]) rfl rfl ?_
 exact sRetF rfl rfl (zJf (Nat.le_refl _) zD rfl) rfl (((Old.refl H).push _).set (Nat.le_refl _) _)
set_option maxHeartbeats 4000000 in
theorem mback_ev (hC : ∀ H,C zBN [] H (.lst (some false) 3 (zBW.map zO)) H)
  (hD : ∀ (av bv : AV) (a b : List Fil),zAE av 3 (a.map zO) → zAE bv 3 (b.map zO) → ∀ H,C zo [av,bv] H (.tup [diffV a b,eV (zk [a,b])]) H)
  (hA : ∀ (q : Bool) (k : Nat) (dv : AV) (a d : List Fil),(k = 3 ∨ a = []) → (q = true → a = []) → zAE dv 3 (d.map zO) → Goods a → Srtd d → (∀ f ∈ d,okC f.col f.row = true ∧ zCe f.text = 0) → d.length ≤ 400 → (zCA a d).length ≤ 200 → ∀ H,C zDC [.lst (some q) k (a.map zO),dv] H (.tup [opV (nilQ q d) (zCA a d),.nili]) H)
  (hS : ∀ v w (l : List Fil) H,view H 3 v = some (l.map zO) → view H 3 w = some (l.map zO) → l.length ≤ 1000000 → C zAX [v,w] H (.bool true) H)
  (q : Bool) (k : Nat) (a b : List Fil) (bv : AV) (hk : k = 3 ∨ a = []) (hq : q = true → a = []) (hbv : zAE bv 3 (b.map zO)) (H : Heap) : EFun C GT zDN [.lst (some q) k (a.map zO),bv] H (.bool true) H:=by
 have hav : zAE (.lst (some q) k (a.map zO)) 3 (a.map zO):=⟨_,_,rfl,hk.imp id fun h=>by rw [h]; rfl⟩
 have h0:=hC H
 obtain ⟨x1,x2⟩:=zEt zJm zEs
 have x3:=diffL_nil zEs
 have h1:=hD (.lst (some true) 0 []) (.lst (some false) 3 (zBW.map zO)) [] zBW ⟨_,_,rfl,.inr rfl⟩ ⟨_,_,rfl,.inl rfl⟩ H
 rw [x1,x2] at h1
 obtain ⟨fv,hfv⟩ : ∃ fv,zCU 3 ((zAP [] zBW).map zO) = fv:=⟨_,rfl⟩
 have hfl : zAE fv 3 ((zAP [] zBW).map zO):=by rw [← hfv]; exact zAy _ _
 have hfn : ((zAP [] zBW).map zO).length = 2:=by rw [List.length_map,x3]; rfl
 have h1' : C zo [.lst (some true) 0 [],.lst (some false) 3 (zBW.map zO)] H (.tup [fv,.nili]) H:=by rw [← hfv]; exact h1
 clear hfv x1 x2 x3 h1
 generalize (zAP [] zBW).map zO = fl at *
 generalize AV.lst (some false) 3 (zBW.map zO) = sv at *
 have hd:=hD _ bv a b hav hbv H
 have hnil : zAE (.lst (some true) 0 []) 3 []:=⟨_,_,rfl,.inr rfl⟩
 by_cases c0 : zk [a,b] = 0
 ·have ga:=zA6 c0 a (by simp)
  have gb:=zA6 c0 b (by simp)
  have e1 : diffV a b = zCU 3 ((zAP a b).map zO):=if_pos c0
  rw [c0,e1] at hd
  obtain ⟨dv,hdv⟩ : ∃ dv,zCU 3 ((zAP a b).map zO) = dv:=⟨_,rfl⟩
  have hdl : zAE dv 3 ((zAP a b).map zO):=by rw [← hdv]; exact zAy _ _
  have hd' : C zo [.lst (some q) k (a.map zO),bv] H (.tup [dv,.nili]) H:=by rw [← hdv]; exact hd
  clear hd
  have hdone:=diffL_done ga gb
  have ha:=hA q k dv a (zAP a b) hk hq hdl ga (diffK_srtd a b (zAM _).1) (diffL_each ga gb) (zFd ga gb) (by rw [hdone]; exact gb.len) H
  rw [hdone] at ha
  have hqn : nilQ q (zAP a b) = true → b = []:=fun h=>by rw [← hdone]; exact zJl hq h
  have hs:=hS (opV (nilQ q (zAP a b)) b) bv b H (opV_view _ _ hqn H) (hbv.view H) (by have:=gb.len; omega)
  have hbb:=hD bv bv b b hbv hbv H
  obtain ⟨y1,y2⟩:=zEt gb gb
  rw [y1,y2,diffL_self] at hbb
  have hbb' : C zo [bv,bv] H (.tup [.lst (some true) 0 [],.nili]) H:=hbb
  clear hbb
  have hba:=hD bv _ b a hbv hav H
  obtain ⟨z1,z2⟩:=zEt gb ga
  rw [z1,z2] at hba
  obtain ⟨ev,hev⟩ : ∃ ev,zCU 3 ((zAP b a).map zO) = ev:=⟨_,rfl⟩
  have hel : zAE ev 3 ((zAP b a).map zO):=by rw [← hev]; exact zAy _ _
  have hba' : C zo [bv,.lst (some q) k (a.map zO)] H (.tup [ev,.nili]) H:=by rw [← hev]; exact hba
  clear hba
  have hsw:=diffL_swap a b
  have hdn : ((zAP a b).map zO).length = (zAP a b).length:=List.length_map _
  have hen : ((zAP b a).map zO).length = (zAP a b).length:=by rw [List.length_map]; exact hsw
  clear hev hdv y1 y2 z1 z2 hD hA hS hC
  generalize opV (nilQ q (zAP a b)) b = mv at *
  generalize (zAP a b).length = n at *
  generalize AV.lst (some q) k (a.map zO) = av at *
  refine zW ?_; refine zG h0 ?_; refine zG h1' ?_; refine zJ rfl ?_; refine zJ rfl ?_; refine zJ rfl ?_; refine zF ?_; refine zAG 2 hfl hfn ?_; refine zF ?_; refine zF ?_; refine zG hd' ?_; refine zJ rfl ?_; refine zJ rfl ?_; refine zJ rfl ?_; refine zF ?_; refine zG ha ?_; refine zJ rfl ?_; refine zJ rfl ?_; refine zG hs ?_; refine zG hbb' ?_; refine zJ rfl ?_; refine zJ rfl ?_; refine zG hba' ?_
  refine zJ rfl ?_; refine zJ rfl ?_; refine zJ rfl ?_; refine zI ?_; refine zI ?_; refine zI ?_; refine zJ rfl ?_; refine zI ?_; refine zI ?_; refine zAG 0 hnil rfl ?_; refine zI ?_; refine zI ?_; refine zJ rfl ?_; refine zI ?_; refine zI ?_; refine zAG n hel hen ?_; refine zAG n hdl hdn ?_; refine zI ?_
  exact sRetE (v0:=.bool ((n : Int) == (n : Int))) (by simp) rfl rfl rfl rfl (Old.refl H)
 ·have e1 : diffV a b = .lst (some true) 0 []:=if_neg c0
  have e2 : eV (zk [a,b]) = zEX (zk [a,b] : Nat):=by unfold eV; rw [if_neg c0]
  rw [e1,e2] at hd
  generalize zk [a,b] = n at *
  generalize AV.lst (some q) k (a.map zO) = av at *
  clear hD hA hS hC
  refine zW ?_; refine zG h0 ?_; refine zG h1' ?_; refine zJ rfl ?_; refine zJ rfl ?_; refine zJ rfl ?_; refine zF ?_; refine zAG 2 hfl hfn ?_; refine zF ?_; refine zF ?_; refine zG hd ?_; refine zJ rfl ?_; refine zJ rfl ?_; refine zJ rfl ?_; refine zI ?_
  exact sRr
end
end Go.AM
set_option maxRecDepth 100000
namespace Go.Proofs.YtmmbcogejaofpaaGreatDoor
open Go.AM
open Go.AM Go.RowKit
section
variable {GT : Nat → Option AV}
theorem g_compact (b : Nat) (xs : List (Int × Int)) (H : Heap) (hb : H[b]? = some (.row 2 (xs.map cV))) (hne : xs ≠ []) (hl : xs.length ≤ 1000) : Go.AM.Good Tryz.prog GT zZ [.sl (some true) b 2 0 xs.length] H (.sl (some true) b 2 0 (zT xs).length) (H.set b (.row 2 ((padL xs).map cV))):=
 zP mixed zAw (compact_ev b xs H hb hne hl)
theorem g_compact0 (H : Heap) : Go.AM.Good Tryz.prog GT zZ [.lst (some true) 0 []] H (.lst (some true) 0 []) H:=
 zP mixed zAw (compact0_ev H)
end
theorem zHF {x : AV} (h : Fits (.sl true shFil) x) : ∃ l : List Fil,∃ q,x = .lst (some q) 3 (l.map zO) ∧ (q = true → l = []):=by
 obtain ⟨q,xs,e,hq,_⟩:=fl_sl h
 obtain ⟨l,q',e',_⟩:=zHb h
 rw [e] at e'
 simp only [AV.lst.injEq,Option.some.injEq] at e'
 obtain ⟨rfl,_,rfl⟩:=e'
 exact ⟨l,q,e,fun h=>List.map_eq_nil_iff.1 (hq h)⟩
section
variable {m : Int} {ev : Value} (hev : ∃ te pe,ev = .iface te pe)
theorem g_sheets (v w : AV) (l : List Fil) (H : Heap) (hv : view H 3 v = some (l.map zO)) (hw : view H 3 w = some (l.map zO)) (hl : l.length ≤ 1000000) : GQ m ev zAX [v,w] H (.bool true) H:=
 zP mixed zEx (ssheets_ev v w l H hv hw hl)
theorem g_withc (f : Fil) (c r : Int) (H : Heap) : GQ m ev zAo [zO f,zAu c r] H (zr (cmpC f.col f.row c r)) H:=zP mixed zJG (withc_ev g_acomp f c r H)
theorem g_bsearch (lv : AV) (l : List Fil) (c r : Int) (H : Heap) (found : Bool) (hl : l.length ≤ 1000) (hs : Srtd l) (hv : view H 3 lv = some (l.map zO)) (hf : found = (match l[zGP l c r]? with | some f=>isC c r f | none=>false)) :
  GQ m ev zV [lv,zAu c r,.fn zAo [] []] H (.tup [zR (zGP l c r),.bool found]) H:=
 zP mixed zAf (bsearch_ev g_withc lv l hl hs c r H hv found hf)
theorem g_kwith (q : Bool) (k : Nat) (l : List Fil) (c r : Int) (t : Bs) (H : Heap) (hk : k = 3 ∨ l = []) (hq : q = true → l = []) (hl : l.length ≤ 1000) (hs : Srtd l) : GQ m ev zDj [.lst (some q) k (l.map zO),zAu c r,.str t] H (opV (q && decide (t = [])) (zCN l c r t)) H:=by
 rw [← withV_op q l hq c r t]
 exact zP mixed k_sheet_With (kwith_ev (fun lv l c r H found a b c d=>g_bsearch lv l _ _ H found a b c d) (fun k H=>zJg k H) (fun k l H h1 h2=>good_clone k l H h1 h2) (fun b i l H h1 h2 h3=>good_delete b i l H h1 h2 h3) (fun b b' i l f H h1 h2 h3 h4 h5=>good_insert b b' i l f H h1 h2 h3 h4 h5) (fun b' f H h=>good_insert0 b' f H h) q k l hk hq hl hs c r t H)
include hev in
theorem mergC : MergC (GQ m ev) where
 check v vs ls H hv hl hll hvs:=zP mixed k_merge_check (mcheck_ev (fun lv l H hv=>g_check hev lv l H hv) v vs ls H hv hl hll hvs)
 texts lv l H hv hs hl:=zP mixed k_merge_texts (texts_ev lv l H hv hs hl)
 cells v vs ls H hv hl hll hle hvs:=zP mixed k_merge_cells (cells_ev (fun b xs H hb hne hl=>good_sort b xs H hb hne hl) (fun H=>good_sort0 H) (fun H=>g_compact0 H) (fun b xs H hb hne hl=>g_compact b xs H hb hne hl) v vs ls H hv hl hll hle hvs)
include hev in
theorem g_diff (av bv : AV) (a b : List Fil) (hav : zAE av 3 (a.map zO)) (hbv : zAE bv 3 (b.map zO)) (H : Heap) : GQ m ev zo [av,bv] H (.tup [diffV a b,eV (zk [a,b])]) H:=
 zP mixed k_merge_Diff (diff_ev (mergC hev) av bv a b hav hbv H)
include hev in
theorem g_apply (q : Bool) (k : Nat) (dv : AV) (a d : List Fil) (hk : k = 3 ∨ a = []) (hq : q = true → a = []) (hdv : zAE dv 3 (d.map zO)) (hg : Goods a) (hds : Srtd d) (hde : ∀ f ∈ d,okC f.col f.row = true ∧ zCe f.text = 0) (hdl : d.length ≤ 400) (hfin : (zCA a d).length ≤ 200) (H : Heap) :
  GQ m ev zDC [.lst (some q) k (a.map zO),dv] H (.tup [opV (nilQ q d) (zCA a d),.nili]) H:=
 zP mixed k_merge_Apply (apply_ev (mergC hev) g_acheck g_aless (g_text hev) (fun q k l c r t H hk hq hl hs=>g_kwith q k l c r t H hk hq hl hs) (fun k H=>zJg k H) (fun k l H hk hl=>good_clone k l H hk hl) q k dv a d hk hq hdv hg hds hde hdl hfin H)
theorem g_cell4 (c r : Int) (H : Heap) : GQ m ev zCD [zr c,zr r] H (zAu c r) H:=zP mixed k_scclaw4_cell (cell4_ev c r H)
theorem g_small (H : Heap) : GQ m ev zBN [] H (.lst (some false) 3 (zBW.map zO)) H:=zP mixed zJD (small_ev g_cell4 H)
include hev in
theorem g_mergeBack {x0 x1 : AV} (h0 : Fits (.sl true shFil) x0) (h1 : Fits (.sl true shFil) x1) (H : Heap) : GQ m ev zDM [x0,x1] H (.bool true) H:=by
 obtain ⟨a,q,rfl,hq⟩:=zHF h0
 obtain ⟨b,q',rfl,_⟩:=zHF h1
 exact zP mixed zGH (mback_ev g_small (g_diff hev) (g_apply hev) g_sheets q 3 a b _ (.inl rfl) hq ⟨_,_,rfl,.inl rfl⟩ H)
end
end Go.Proofs.YtmmbcogejaofpaaGreatDoor
