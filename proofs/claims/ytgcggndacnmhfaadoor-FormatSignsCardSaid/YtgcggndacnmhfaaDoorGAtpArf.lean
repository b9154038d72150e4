/- Several texts of mine in one (Atp, Gsi, Am26, Am32, Arf). Own work. -/
import Derived.Test.YtgcggndacnmhfaaDoorGFqsSg3
import Derived.Lib.AtoiAll
import Derived.Test.YtgcggndacnmhfaaDoorLdQ3
import Derived.Test.YtgcggndacnmhfaaDoorGItdErr
import Derived.Test.YtgcggndacnmhfaaDoorCk
import Derived.Test.YtgcggndacnmhfaaDoorGFs2Fsh
import Derived.Shelf.Strconv.AtoiAll
import Derived.Test.YtgcggndacnmhfaaDoorGToldQAm24
import Derived.SizedLaws
import Derived.Handed
import Derived.DataWitness
import Derived.Test.YtgcggndacnmhfaaDoorGSg0Sg2
set_option linter.all false
namespace Go.AM
open Go
def fV (acc : Nat) : Bs → Nat
 | []=>acc
 | c :: r=>fV (acc * 10 + (c.toNat - 48)) r
theorem zLK (l : Bs) : ∀ acc,l.foldl (fun n c=>n * 10 + (c.toNat - 48)) acc = fV acc l:=by
 induction l with
 | nil=>exact fun _=>rfl
 | cons c r ih=>exact fun acc=>ih _
theorem zLL (l : Bs) : ∀ acc,acc ≤ fV acc l:=by
 induction l with
 | nil=>exact fun acc=>Nat.le_refl _
 | cons c r ih=>exact fun acc=>Nat.le_trans tO (ih (acc * 10 + (c.toNat - 48)))
theorem pu10 (l : Bs) : ∀ acc,l.all zHD = true → acc < 18446744073709551616 → Lib.parseUint10 acc l = if fV acc l < 18446744073709551616 then .ok (fV acc l) else .range:=by
 induction l with
 | nil=>
  intro acc _ h
  show Lib.NumEnd.ok acc = if acc < 18446744073709551616 then .ok acc else .range
  rw [if_pos h]
 | cons c r ih=>
  intro acc ha h
  simp only [List.all_cons,Bool.and_eq_true] at ha
  obtain ⟨hc,hr⟩:=ha
  have hd : 48 ≤ c.toNat ∧ c.toNat ≤ 57:=by simpa [zHD,Bool.and_eq_true] using hc
  have hge:=zLL r (acc * 10 + (c.toNat - 48))
  show Lib.parseUint10 acc (c :: r) = if fV (acc * 10 + (c.toNat - 48)) r < 18446744073709551616 then .ok (fV (acc * 10 + (c.toNat - 48)) r) else .range
  unfold Lib.parseUint10
  rw [if_pos hd]
  by_cases h1 : 1844674407370955162 ≤ acc
  ·rw [if_pos h1,if_neg tO]
  ·rw [if_neg h1]
   by_cases h2 : 18446744073709551616 ≤ acc * 10 + (c.toNat - 48)
   ·rw [if_pos h2,if_neg tO]
   ·rw [if_neg h2]
    exact ih _ hr tO
theorem pmag {l : Bs} (h0 : l ≠ []) (h : l.all zHD = true) : Lib.parseMag l = if zEM l < 18446744073709551616 then .ok (zEM l) else .range:=by
 unfold Lib.parseMag
 rw [if_neg h0]
 have e : zEM l = fV 0 l:=zLK l 0
 rw [e]
 exact pu10 l 0 h (by decide)
theorem zJO {s : Bs} (h : zCO s) : Lib.atoiAll s = if zHI (zHP s) then .ok (zHP s) else .range:=by
 obtain ⟨h1,h2,h3⟩:=h
 cases s with
 | nil=>exact absurd rfl h1
 | cons c r=>
  by_cases hc : c = 45
  ·subst hc
   have hm : zAU (45 :: r) = (true,r):=rfl
   rw [hm] at h1 h3
   have hv : zHP (45 :: r) = -(zEM r : Int):=by unfold zHP; rw [hm]; rfl
   rw [hv]
   unfold Lib.atoiAll
   have e : (45 : UInt8).toNat = 45:=rfl
   simp only [e,or_true,if_true]
   rw [pmag h1 h3]
   by_cases hb : zEM r < 18446744073709551616
   ·rw [if_pos hb]
    simp only [not_true,false_and,if_false,true_and]
    by_cases hl : 9223372036854775808 < zEM r
    ·rw [if_pos hl,if_neg (fun h=>by have:=h.1; omega)]
    ·rw [if_neg hl,if_pos ⟨by omega,by omega⟩]
   ·rw [if_neg hb,if_neg (fun h=>by have:=h.1; omega)]
  ·have hm : zAU (c :: r) = (false,c :: r):=zEt (fun h=>hc (Option.some.inj h))
   rw [hm] at h1 h3
   have hv : zHP (c :: r) = (zEM (c :: r) : Int):=by unfold zHP; rw [hm]; rfl
   rw [hv]
   have hd : 48 ≤ c.toNat ∧ c.toNat ≤ 57:=by
    have h3' : (c :: r).all zHD = true:=h3
    simp only [List.all_cons,Bool.and_eq_true] at h3'
    simpa [zHD,Bool.and_eq_true] using h3'.1
   have n1 : ¬ c.toNat = 43:=by omega
   have n2 : ¬ c.toNat = 45:=by omega
   have h4:=pmag (l:=c :: r) h1 h3
   unfold Lib.atoiAll
   simp only [n1,n2,or_false,if_false]
   rw [h4]
   by_cases hb : zEM (c :: r) < 18446744073709551616
   ·rw [if_pos hb]
    simp only [not_false_eq_true,true_and,false_and,if_false]
    by_cases hl : 9223372036854775808 ≤ zEM (c :: r)
    ·rw [if_pos hl,if_neg (fun h=>by have:=h.2; omega)]
    ·rw [if_neg hl,if_pos ⟨by omega,by omega⟩]
   ·rw [if_neg hb,if_neg (fun h=>by have:=h.2; omega)]
end Go.AM
set_option maxRecDepth 100000
namespace Go.Proofs
open Go.Shelf Go.RowKit Go.AM
theorem Tryd.atoi_number : Tryd.ownAtoi_ren.f 172 = zAZ:=by kernel_rfl
theorem zLM {m : Int} {ev : Value} (s : Bs1) (H : Heap) (hf : zCO s) (hi : zHI (zHP s)) (hl : s.length ≤ 1000) : Go.AM.Good Tryd.prog (gtQ m ev) zAZ [.str s] H (.tup [zCM (zHP s),.nili]) H:=
 zAM Tryd.func29 (by kernel_rfl) (by kernel_rfl) fun w M I cargs hS hA=>by
  obtain ⟨v,rfl,hv⟩:=zJ1 hA
  obtain rfl:=zBv hv
  have ha : Lib.atoiAll (⟨s.toArray⟩ : ByteArray).data.toList = .ok (zHP s):=by
   show Lib.atoiAll s = _
   rw [zJO hf,if_pos hi]
  have h:=Any.strconv_Atoi_ok Tryd.ownAtoi ⟨s.toArray⟩ (by show s.toArray.size ≤ _; rw [List.size_toArray]; omega) _ ha w
  rw [Tryd.atoi_number] at h
  refine h.mono ?_
  rintro e w' ⟨he,hw⟩
  refine ⟨_,he, ?_, ?_⟩
  ·rcases hw with rfl | ⟨t,rfl⟩
   ·exact RowKit.Below.refl _ _
   ·exact Lib.bytesWorld_below _ _ _
  ·refine .tup _ [_,_] rfl fun i c v h1 h2=>?_
   match i,h1,h2 with
   | 0,h1,h2=>
    cases h1; cases h2; exact .int _ _
   | 1,h1,h2=>
    cases h1; cases h2; exact .nili
   | i + 2,h1,h2=>simp at h1
namespace YtgcggndacnmhfaaDoor
abbrev GQ (m : Int) (ev : Value):=Go.AM.Good Tryd.prog (gtQ m ev)
section
variable {m : Int} {ev : Value}
theorem zEv (b : Nat) (g : Nat → Bool) (c : UInt8) (H : Heap) (hb : H[b]? = some (.box (zBz g))) : GQ m ev zD [pR b,byV c] H (.bool (g c.toNat)) H:=zL mixed zAd (zGs b g c H hb)
theorem zLN (cs : Bs) (H : Heap) (hcs : ∀ c ∈ cs,c.toNat < 128) (hl : cs.length ≤ 1000) : GQ m ev zd [.str cs] H (.tup [.agg (zBz (zBw cs)),.bool true]) H:=zL mixed zBh (zKR cs H hcs hl)
theorem zLO (s cs : Bs) (b : Nat) (H : Heap) (hb : H[b]? = some (.box (zBz (zBw cs)))) (hl : s.length ≤ 1000) : GQ m ev zV [.str s,pR b] H (.str (zDH s cs)) H:=zL mixed zBL (zKS zEv s cs b H hb hl)
theorem zLP (s cs : Bs) (b : Nat) (H : Heap) (hb : H[b]? = some (.box (zBz (zBw cs)))) (hl : s.length ≤ 1000) : GQ m ev zY [.str s,pR b] H (.str (s.dropWhile fun c=>zBw cs c.toNat)) H:=zL mixed zBb (zKT zEv s cs b H hb hl)
theorem zL4 (s cs : Bs) (H : Heap) (hcs : ∀ c ∈ cs,c.toNat < 128) (hc2 : 2 ≤ cs.length) (hcl : cs.length ≤ 1000) (hl : s.length ≤ 1000) : GQ m ev zAY [.str s,.str cs] H (.str (zIE s cs)) H:=zL mixed zEK (zKV zLN zLO zLP s cs H hcs hc2 hcl hl)
theorem zEA (s p : List UInt8) (H : Heap) : GQ m ev zM [.str s,.str p] H (.bool (p.isPrefixOf s)) H:=zL mixed zBa (zGI s p H)
theorem zKZ (s p : Bs) (H : Heap) : GQ m ev zU [.str s,.str p] H (.str (if p.isPrefixOf s = true then s.drop p.length else s)) H:=zL mixed zBK (zDI zEA s p H)
theorem zLQ (s p : Bs) (H : Heap) : GQ m ev zm [.str s,.str p] H (.str (if p.isPrefixOf s = true then s.drop p.length else s)) H:=zL mixed zBy (zFY zKZ s p H)
theorem zLR (s p : List UInt8) (H : Heap) : GQ m ev zX [.str s,.str p] H (.tup [.str (Lib.trimPrefix s p),.bool (Lib.hasPrefix s p)]) H:=zL mixed zBZ (zD8 zEA s p H)
theorem g_cpx : CpxH (GQ m ev):=fun s p H _=>zL mixed zCK (zGJ zLR s p H)
theorem zKa : QuoH (GQ m ev):=fun s H hl=>zL mixed zD2 (zI8 zJ8 s hl H)
theorem zLS : ZerH (GQ m ev):=fun s H hl=>zL mixed zEJ (zJ9 zFV s hl H)
theorem zL5 (s : Bs1) (H : Heap) : GQ m ev zAi [.str s] H (.tup [zK (zAx s).1,.bool (zAx s).2]) H:=zL mixed zFM (zLD zKa zLS g_cpx s H)
theorem zJP (n : Int) (s : Bs1) (f : FormP) (hn : zHI n) (h : zFU s = some f) (H : Heap) : GQ m ev zf [zB8 1 n [],.str s] H (.tup [.str (zDG f n),.nili]) H:=by
 have hf:=zLE h
 have hr:=zKG h
 have h2 : (zAx s).2 = true:=by rw [hr]
 have e : (zAx s).1 = f:=by rw [hr]
 have:=zL (GT:=gtQ m ev) mixed zFK (zJH zL5 n [] s h2 hn (by rw [e]; omega) (by have:=zKE hn; omega) zD6 zGp H)
 rw [e] at this
 exact this
theorem zKb {n : Int} (hn : zHI n) : (zDF n).length ≤ 20:=by
 have:=zKE hn
 rw [zCp,List.length_append]
 have : (if n < 0 then [45] else [] : Bs1).length ≤ 1:=by split <;> simp
 omega
theorem zLT (n : Int) (hn : zHI n) (H : Heap) : GQ m ev zAj [.str (zDF n)] H (.tup [zCM n,.bool true]) H:=by
 obtain ⟨hd,hv⟩:=zKX n
 have hl:=zKb hn
 have ht : zIE (zAU (zDF n)).2 [48,49,50,51,52,53,54,55,56,57] = []:=(zKW _).2 hd.2.2
 have h:=zL (GT:=gtQ m ev) mixed zFN (zJN (zDF n) (fun H=>by
  have:=zL4 (m:=m) (ev:=ev) (zAU (zDF n)).2 [48,49,50,51,52,53,54,55,56,57] H (by decide) (by decide) (by decide) (by rw [zEu]; have:=zKE hn; show (zAH n.natAbs).length ≤ 1000; omega)
  rw [ht] at this
  exact this) (fun H=>by
  have:=zLQ (m:=m) (ev:=ev) (zDF n) [45] H
  rw [zIG] at this
  exact this) (fun H=>zLM (zDF n) H hd (by rw [hv]; exact hn) tO) hd H)
 rw [hv] at h
 exact h
theorem g_num (n : Int) (H : Heap) : GQ m ev zW [zCM n] H (zB8 1 n []) H:=zL mixed zFL (zLI n H)
theorem zL6 (n : Int) (H : Heap) : GQ m ev zBQ [zCM n] H (zB8 1 n []) H:=zL mixed zGl (zLJ n H)
theorem zLU (n : Int) (hn : zHI n) (H : Heap) : GQ m ev zx [.str (zDF n)] H (zB8 1 n []) H:=zL mixed zGB (zKY n (zLT n hn) (zL6 n) H)
theorem g_law (n z : Int) (g : Bool) (hn : zHI n) (H : Heap) : GQ m ev zAb [zCM n,zCM z,.bool g] H (.bool true) H:=
 zL mixed zBs (zKM g_num n (zLU n hn) g z (by have:=zKE hn; omega) (fun z h1 h2 H=>zJP n (zEN g z) (fS g z) hn (zIC g z ⟨h1,h2⟩) H)
  (fun H=>by
   have:=zJP (m:=m) (ev:=ev) (-1234567) zLH _ (by unfold zHI; omega) zJL H
   rw [zJM] at this
   exact this) H)
end
end YtgcggndacnmhfaaDoor
end Go.Proofs
namespace Go.AM
section
variable {H : Type} {enc : TypeId × Value → H} {P : Program} {w : World} {held : Bool} {base : Nat} {sp : Nat → Bool}
end
end Go.AM
namespace Go.AM
section
variable {H : Type} {enc : TypeId × Value → H} {P : Program} {w : World} {held : Bool}
end
end Go.AM
namespace Go.Proofs
open Go.RowKit Go.AM
section
variable {H : Type} {enc : TypeId × Value → H}
theorem zBi {a : Assume} {C : Checked} {os : Os} {f : FuncId} {fn : Func} {s : ChangeSpec} {conds : List PathCond} {apart fresh handsOn again : Bool} {X : World → Array Value → Prop}
  (hX : ∀ (w w' : World) (args : Array Value),w.heap = w'.heap → X w args → X w' args)
  (own : ownKnob C.prog.godebug = none) (started : os.Started) (noInit : C.prog.inits.idxOf? f = none) (hfn : C.prog.funcs[f]? = some fn)
  (witness : ∃ (w : World) (tape : Tape) (i : Input),w.os = os ∧ (w.forCall tape i).Shaped C.prog ∧ i.vars = [] ∧ Input.okWide C.prog (w.forCall tape i) .any w.heap.size f i ∧
   ((s.pre enc C.prog fn conds apart (w.forCall tape i).memory i.args ∧ X (w.forCall tape i).memory i.args) ∧ sizedMet enc C.prog fn (OpenSpec.ofChange s) apart (w.forCall tape i).memory i.args) ∧ a.holds C.prog (lone (Frame.enter C.prog f i.args .normal) [] (w.forCall tape i)))
  (contract : ∀ (W : World) (base : Nat) (args : Array Value) (ds gs : List (DataW H)) (before : List MemPlace),
   (∀ (j : Nat) t v,fn.params[j]? = some t → args[j]? = some v → Value.okWide C.prog W .any base t v) →
   DataW.Whole enc C.prog fn.params.toList s.vars apart W args.toList ds gs before →
   conds.all (PathCond.test C.prog ⟨fn.params.toList,ds,s.plain.varTypes C.prog,gs⟩) = true →
   (DataW.weightsEach C.prog (fn.params.toList ++ s.plain.varTypes C.prog) (ds ++ gs)).all (· ≤ reachBytes) = true → X W args → W.ShapedOpen C.prog →
   Calls C.prog f args W fun e W'=>∃ v,e = .returned v ∧ s.post enc C.prog fn apart fresh handsOn again W args v W') :
  ReturnsInHanded a C os f .any (fun w args=>(s.pre enc C.prog fn conds apart w args ∧ X w args) ∧ sizedMet enc C.prog fn (OpenSpec.ofChange s) apart w args) (s.post enc C.prog fn apart fresh handsOn again):=by
 refine returnsInHanded_of_calls own started noInit witness ?_
 intro w tape i _ hsh _ hok hpre hholds
 obtain ⟨_,_,_,fn',hfn',_,_,_,_,hval⟩:=hok
 have e : fn' = fn:=Option.some.inj (hfn'.symm.trans hfn)
 subst e
 obtain ⟨⟨⟨ds,gs,before,hw,hc⟩,hx⟩,hz⟩:=hpre
 have hw':=DataW.Whole.of_heap (w':=w.forCall tape i) (by rfl) hw
 refine (contract (w.forCall tape i) w.heap.size i.args ds gs before hval hw' hc (hz.weights hw) (hX _ _ _ (by rfl) hx) hsh).mono fun e W' ⟨v,he,hp⟩=>?_
 subst he
 exact ChangeSpec.post_blind hp
def zHQ (P : Program) (w : World) : Bool:=
 let w₀:=(begin P (fun _ _=>0) default).world
 (List.range P.globals.size).all fun g=>
  match (w₀.heap[g]?).bind Obj.row? with
  | none=>true
  | some (zero,t)=>
   match w.heap[g]? with
   | some (.cells cs t' frozen)=>decide (t' = t) && decide (frozen = (0,0)) && cs.size == zero.size && (!P.buildable t || Row.okRefB P w t cs)
   | _=>false
theorem zEO {P : Program} {w : World} (hv : zHQ P w = true)
  (hr : (w.heap.toList.drop P.globals.size).take ((begin P (fun _ _=>0) default).world.heap.size - P.globals.size) =
   (begin P (fun _ _=>0) default).world.heap.toList.drop P.globals.size) : w.Shaped P:=by
 refine ⟨fun g zero t hg hz=>?_,fun k h1 h2=>?_⟩
 case refine_2=>
  have:=congrArg (·[k - P.globals.size]?) hr
  simp only [List.getElem?_take,List.getElem?_drop,Array.getElem?_toList] at this
  rw [if_pos tO,Nat.add_sub_cancel' h1] at this
  exact this
 unfold zHQ at hv
 simp only [List.all_eq_true,List.mem_range] at hv
 have:=hv g hg
 rw [hz] at this
 simp only at this
 split at this
 ·rename_i cs t' fr hw
  simp only [Bool.and_eq_true,decide_eq_true_eq,beq_iff_eq,Bool.or_eq_true,Bool.not_eq_true'] at this
  obtain ⟨⟨⟨rfl,rfl⟩,hs⟩,hb⟩:=this
  refine ⟨cs,hw,hs,fun hbuild=>?_⟩
  rcases hb with hb | hb
  ·rw [hbuild] at hb; cases hb
  ·exact Row.ok_of_okRefB hb
 ·cases this
theorem zEP {C : Checked} {os : Os} {f : FuncId} {fn : Func} {s : ChangeSpec} {conds : List PathCond} {apart : Bool} {X : World → Array Value → Prop} (modest : Bool) (w0 : World) (args : Array Value) (fuel : Nat) (hos : w0.os = os)
  (hsh : (w0.forCall (fun _ _=>0) ⟨#[],args,[]⟩).Shaped C.prog)
  (hok : Input.okWideB C.prog (w0.forCall (fun _ _=>0) ⟨#[],args,[]⟩) f ⟨#[],args,[]⟩ = true)
  (hpre : s.preB enc C.prog fn conds apart (w0.forCall (fun _ _=>0) ⟨#[],args,[]⟩).memory args fuel = true)
  (hsz : s.sizedB enc C.prog fn apart (w0.forCall (fun _ _=>0) ⟨#[],args,[]⟩).memory args fuel = true)
  (hx : X (w0.forCall (fun _ _=>0) ⟨#[],args,[]⟩).memory args) :
  ∃ (w : World) (tape : Tape) (i : Input),w.os = os ∧ (w.forCall tape i).Shaped C.prog ∧ i.vars = [] ∧ Input.okWide C.prog (w.forCall tape i) .any w.heap.size f i ∧
   ((s.pre enc C.prog fn conds apart (w.forCall tape i).memory i.args ∧ X (w.forCall tape i).memory i.args) ∧ sizedMet enc C.prog fn (OpenSpec.ofChange s) apart (w.forCall tape i).memory i.args) ∧ ({ modest:=modest } : Assume).holds C.prog (lone (Frame.enter C.prog f i.args .normal) [] (w.forCall tape i)):=
 ⟨w0,fun _ _=>0,⟨#[],args,[]⟩,hos,hsh,(Input.okWide_of_okWideB (base:=0) hok).1,(Input.okWide_of_okWideB hok).2,⟨⟨ChangeSpec.pre_of_preB hpre,hx⟩,sizedMet_of_sizedB hsz⟩,by
  simp only [Assume.holds]
  exact ⟨by simp,by simp,fun _=>Modest.zero,by simp,by simp⟩⟩
end
end Go.Proofs
namespace Go.AM
theorem zL7 {k : IntKind} {x : AV} (h : Fits (.int k) x) : ∃ n,x = .int k n ∧ (Lit.int k n).wf = true:=by cases h with | int k n h=>exact ⟨n,rfl,h⟩
theorem zLV {x : AV} (h : Fits .bool x) : ∃ b,x = .bool b:=by cases h with | bool b=>exact ⟨b,rfl⟩
theorem fl_wf {n : Int} (h : (Lit.int .i64 n).wf = true) : zHI n:=by
 have h : IntKind.i64.min ≤ n ∧ n ≤ 9223372036854775807:=by simpa [Lit.wf] using h
 have e : IntKind.i64.min = -9223372036854775808:=rfl
 exact ⟨by omega,h.2⟩
theorem zKn {x : AV} (h : Fits (.int .i64) x) : ∃ n,x = zCM n ∧ zHI n:=by
 obtain ⟨n,rfl,hn⟩:=zL7 h
 exact ⟨n,rfl,fl_wf hn⟩
structure Val3 where
 kind : Int
 num : Int
 text : Bs1
end Go.AM
