/- Several texts of mine in one (Gcr, Am26, Am32, Arf). Own work. -/
import Derived.Test.YtcnogafgcfidnaaGreatDoorGPkdHd5
import Derived.Test.YtcnogafgcfidnaaGreatDoorGHs1Bh2
import Derived.Test.YtcnogafgcfidnaaGreatDoorGBg1Arg
import Derived.Test.YtcnogafgcfidnaaGreatDoorLdQ3
import Derived.Test.YtcnogafgcfidnaaGreatDoorKk
import Derived.Test.YtcnogafgcfidnaaGreatDoorGHgcAm33
import Derived.SizedLaws
import Derived.Handed
import Derived.DataWitness
set_option linter.all false
set_option maxRecDepth 100000
namespace Go.AM.Gs
open Go.Proofs Go.Proofs.YtcnogafgcfidnaaGreatDoor
section
variable {GT : Nat → Option AV}
abbrev G (GT : Nat → Option AV) : CSpec:=Go.AM.Good Tryz.prog GT
theorem zRI (v H) : G GT zBl [zB v] H (zCf v) H:=zC mixed zIu (zP1 v H)
theorem g_chk (tv t H) (ht : zAS H tv t) : G GT zCG [tv] H (zPZ (zk t)) H:=zC mixed zJu (zQ1 zRI tv t H ht)
theorem g_col (tv t c H) (ht : zAS H tv t) : G GT zBj [tv,zJ c] H (.bool (colOK t c)) H:=zC mixed zIr (zJf tv t c H ht)
theorem zRJ (tv cv) (t : List Row) (cols : List Int) (H) (ht : zAS H tv t) (hc : view H 1 cv = some (cols.map zJ)) : G GT zBS [tv,cv] H (zPZ (zX t cols)) H:=
 zC mixed zHQ (zL2 g_chk g_col tv cv t cols H ht hc)
theorem zRK (n : Int) (H : Heap) : G GT zx [zJ n] H (zB ⟨1,n,[]⟩) H:=zC mixed zIs (zQ4 n H)
theorem zQU (v : Val) (H : Heap) : G GT zBG [zB v] H (.bool (v.kind == 4)) H:=zC mixed zIx (zOr v H)
theorem g_is3 (v : Val) (H : Heap) : G GT zCF [zB v] H (.bool (valOK v)) H:=zC mixed zJt (zQ6 v H)
theorem zPJ (tv : AV) (t : List Row) (H : Heap) (ht : zAS H tv t) : G GT zBC [tv] H (zBf (zk t)) H:=zC mixed zGy (zNd g_is3 tv t H ht)
theorem zN9 (tv : AV) (t : List Row) (c : Int) (H : Heap) (ht : zAS H tv t) : G GT zA2 [tv,zJ c] H (.bool (colOK t c)) H:=zC mixed zFx (zL8 tv t c H ht)
theorem zMS (tv cv : AV) (t : List Row) (cols : List Int) (H : Heap) (ht : zAS H tv t) (hc : view H 1 cv = some (cols.map zJ)) : G GT zAo [tv,cv] H (zBf (zX t cols)) H:=
 zC mixed zFO (zKP zPJ zN9 tv cv t cols H ht hc)
theorem zQV (a b : Val) (H : Heap) : G GT zAw [zB a,zB b] H (.bool (zFv a b)) H:=zC mixed zHR (zO0 a b H)
theorem zH6 (a b : Val) (H : Heap) : G GT z6 [zB a,zB b] H (zJ (zMb a b)) H:=zC mixed zFP (zKQ zQV a b H)
theorem zPh (n : Int) (H : Heap) : G GT zt [zJ n] H (zB (nmV n)) H:=zC mixed zKf (zP8 n H)
theorem zQW (n : Int) (H : Heap) : G GT zAE [zJ n] H (zB (zPb n)) H:=zC mixed zIw (zOs n H)
theorem zPK (v : Val) (hk : zFu v) (H : Heap) : G GT zAx [zB v] H (zB v) H:=zC mixed zHS (zJi v hk H)
theorem zPL (a b : Int) (H : Heap) : G GT zBT [zJ 8,zJ a,zJ b] H (zB (zCR a b)) H:=zC mixed zHT (zIf zPh zQW a b H)
theorem zPM (a b : Val) (ka : zFu a) (kb : zFu b) (H : Heap) : G GT zCq [zJ 8,zB a,zB b] H (zB (zG0 a b)) H:=zC mixed zKg (zL6 zQU zPK zPL a b ka kb H)
theorem zRL (nv : AV) (ns : List Int) (H : Heap) (hn : view H 1 nv = some (ns.map zJ)) (hl : ns.length ≤ 1000000000000) : G GT zDh [nv] H (zB (zDZ ns)) H:=zC mixed zMR (zQA zPh zPM nv ns H hn hl)
theorem g_sum (lv : AV) (l : List Val) (H : Heap) (hv : view H 3 lv = some (l.map zB)) (hl : l.length ≤ 1000) : G GT zDg [lv] H (zB (zEJ l)) H:=zC mixed zMQ (zQ5 zRL lv l H hv hl)
theorem zOA (b m : Nat) (ws : List Nat) (H : Heap) (hm : ws.length = m) (hb : H[b]? = some (.row 1 (ws.map zA8))) (hw : Small ws) (hl : m ≤ 1000000) : G GT za [.sl (some false) b 1 0 m] H (.sl (some false) b 1 0 (wds (wval ws)).length) H:=
 zC mixed zEL (zQK b m ws H hm hb hw hl)
theorem zQX (x : Nat) (H : Heap) (hx : x < 18446744073709551616) : G GT zAJ [zJz x] H (zDk x) H:=zC mixed zDp (zPD zOA x hx H)
theorem zRM (av bv : AV) (x y : Nat) (H : Heap) (ha : Mag av x) (hb : Mag bv y) (h1 : (wds x).length ≤ 100000) (h2 : (wds y).length ≤ 100000) : G GT zAa [av,bv] H (zDk (x + y)) H:=
 zC mixed zEz (zRC zOA av bv x y H ha hb h1 h2)
theorem zRN (av bv : AV) (x y : Nat) (H : Heap) (ha : Mag av x) (hb : Mag bv y) (h : y ≤ x) (h1 : (wds x).length ≤ 100000) : G GT zAF [av,bv] H (zDk (x - y)) H:=
 zC mixed zE1 (zRD zOA av bv x y _ H ha hb h rfl h1)
theorem zRO (av bv : AV) (x y : Nat) (H : Heap) (ha : Mag av x) (hb : Mag bv y) (h1 : (wds x).length ≤ 100000) (h2 : (wds y).length ≤ 100000) : G GT zAb [av,bv] H (zJ (zMO x y)) H:=
 zC mixed zE0 (zQN av bv x y H ha hb h1 h2)
theorem zRP (av bv : AV) (xn yn : Bool) (x y : Nat) (H : Heap) (ha : Mag av x) (hb : Mag bv y) (h1 : (wds x).length ≤ 100000) (h2 : (wds y).length ≤ 100000) :
  G GT zAZ [.bool xn,av,.bool yn,bv] H (.tup [.bool (zLN xn x yn y).1,zDk (zLN xn x yn y).2]) H:=zC mixed zEy (zQO zRM zRN zRO av bv xn yn x y H ha hb h1 h2)
theorem g_bit (av : AV) (m i : Nat) (H : Heap) (ha : Mag av m) (hl : (wds m).length ≤ 100000) (hi : i ≤ 1000000) : G GT zAc [av,zJ i] H (zJz (m / 2 ^ i % 2)) H:=zC mixed zE2 (zRF av m i H ha hl hi)
theorem g_tzb (b m n : Nat) (x av : AV) (H : Heap) (hb : H[b]? = some (.box [x,av])) (ha : Mag av m) (h0 : m ≠ 0) (hl : (wds m).length ≤ 100) (hn : n ≤ 10000) (h1 : m % 2 ^ n = 0) (h2 : m / 2 ^ n % 2 = 1) :
  G GT zQ [.ref b 0 0 0] H (zJz n) H:=zC mixed zA1 (zRG g_bit b m n x av H hb ha h0 hl hn h1 h2)
theorem zRQ (av : AV) (m : Nat) (H : Heap) (ha : Mag av m) (hl : (wds m).length ≤ 1000) : G GT zAG [av] H (zBf (bits m)) H:=zC mixed zDb (zN0 av m H ha hl)
theorem zPN (b m : Nat) (x av : AV) (H : Heap) (hb : H[b]? = some (.box [x,av])) (ha : Mag av m) (hm : m < 18446744073709551616) : G GT zj [.ref b 0 0 0] H (zJz m) H:=
 zC mixed zCA (zN1 b m x av H hb ha hm)
theorem zQY (b : Nat) (v : Int) (H : Heap) (hb : H[b]? = some (.box (zE3 v))) (hv : zAU v) : G GT zm [.ref b 0 0 0] H (zJ v) H:=zC mixed zCS (zPG zPN b v H hb hv)
theorem zOB (b : Nat) (v : Int) (H : Heap) (hb : H[b]? = some (.box (zE3 v))) (hv : (wds v.natAbs).length ≤ 100) : G GT ze [.ref b 0 0 0] H (.bool (decide (zAU v))) H:=
 zC mixed zB7 (zMP zRQ g_tzb b v H hb hv)
theorem zPi (b n : Nat) (neg : Bool) (x0 x1 : AV) (H : Heap) (hb : H[b]? = some (.box [x0,x1])) : G GT zV [.ref b 0 0 0,.bool neg,zDk n] H (.ref b 0 0 0) (H.set b (.box [.bool (neg && decide (0 < n)),zDk n])):=
 zC mixed zCk (zQL b n neg x0 x1 H hb)
theorem zMT (b : Nat) (v : Int) (x0 x1 : AV) (H : Heap) (hb : H[b]? = some (.box [x0,x1])) (hv : zAU v) : G GT zc [.ref b 0 0 0,zJ v] H (.ref b 0 0 0) (H.set b (.box (zE3 v))):=
 zC mixed zBq (zKc zQX zPi b v x0 x1 H hb hv)
theorem zPO : zBM Tryz.prog zo zLL = true:=by kernel_rfl
theorem zPP (v : Int) (H : Heap) (hv : zAU v) : G GT zo [zJ v] H (.ref H.length 0 0 0) (H ++ [.box (zE3 v)]):=zC mixed zPO (zNv zMT v H hv)
theorem zPQ (z x y : Nat) (a b : Int) (x0 x1 : AV) (H : Heap) (hz : H[z]? = some (.box [x0,x1])) (hx : H[x]? = some (.box (zE3 a))) (hy : H[y]? = some (.box (zE3 b))) (ha : (wds a.natAbs).length ≤ 1000) (hb : (wds b.natAbs).length ≤ 1000) :
  G GT zy [.ref z 0 0 0,.ref x 0 0 0,.ref y 0 0 0] H (.ref z 0 0 0) (H.set z (.box (zE3 (a + b)))):=zC mixed zC1 (zN2 zRP zPi z x y a b x0 x1 H hz hx hy ha hb)
theorem zRR (b : Nat) (v : Int) (H : Heap) (hb : H[b]? = some (.box (zE3 v))) (hv : (wds v.natAbs).length ≤ 100) : G GT zBU [.ref b 0 0 0] H (.bool (decide (zAU v))) H:=zC mixed zHU (zQQ zOB b v H hb hv)
theorem zRS (n : Int) (H : Heap) : G GT zAD [zJ n] H (zB ⟨4,n,[]⟩) H:=zC mixed zIv (zQB n H)
theorem zOC (a b : Int) (H : Heap) (ha : zAU a) (hb : zAU b) : G GT zA3 [zJ 8,zJ a,zJ b] H (zB (zCR a b)) H:=zC mixed zFz (zHO zPP zPQ zRR zQY zRS zRK a b H ha hb)
theorem zOD (v : Val) (hk : zFu v) (H : Heap) : G GT zAT [zB v] H (zB v) H:=zC mixed zFy (zMB v hk H)
theorem zOE (a b : Val) (ka : zFu a) (kb : zFu b) (ra : zAU a.num) (rb : zAU b.num) (H : Heap) : G GT zBk [zJ 8,zB a,zB b] H (zB (zG0 a b)) H:=zC mixed zIt (zKU zOD zOC a b ka kb ra rb H)
theorem zPj (nv : AV) (ns : List Int) (H : Heap) (hn : view H 1 nv = some (ns.map zJ)) (hl : ns.length ≤ 1000000000000) (hr : ∀ n ∈ ns,zAU n) : G GT zBD [nv] H (zB (zDZ ns)) H:=zC mixed zIq (zQE zRK zOE nv ns H hn hl hr)
theorem zQZ (b : Nat) (l : List Val) (H : Heap) (hv : H[b]? = some (.row 3 (l.map zB))) (hl : l.length ≤ 1000) (hr : ∀ v ∈ l,zAU v.num) : G GT zAQ [.sl (some true) b 3 0 l.length] H (zB (zEJ l)) H:=zC mixed zEx (zO7 zPj b l H hv hl hr)
theorem zPR (va vb : AV) (xs ys : List Val) (H : Heap) (ha : zAv va 3 (xs.map zB)) (hb : zAv vb 3 (ys.map zB)) (hl : xs.length ≤ 9223372036854775807) : G GT zr [va,vb] H (.bool (decide (xs = ys))) H:=
 zC mixed zFw (zN3 va vb xs ys H ha hb hl)
theorem zPS (xa xb kv : AV) (a b : Row) (ks : List Key) (H : Heap) (ha : zDB xa a) (hb : zDB xb b) (hk : zKR H kv ks) (hia : ∀ k ∈ ks,zIe a k) (hib : ∀ k ∈ ks,zIe b k) (hva : ∀ v ∈ a,valOK v = true) (hvb : ∀ v ∈ b,valOK v = true) (hl : ks.length ≤ 1000000000000) :
  G GT zBE [xa,xb,kv] H (.bool (decide (zHK a b ks < 0))) H:=by
 rcases hk with hk | ⟨q,kb,rfl,hk⟩
 ·exact zC mixed zDa (zNf zH6 xa xb kv a b ks H ha hb hk hia hib hva hvb hl)
 ·exact zC mixed zDa (zL9 zH6 xa xb kb a b ks H ha hb hk hia hib hva hvb hl)
theorem zQa (tv kv : AV) (t : List Row) (ks : List Key) (H : Heap) (ht : zAS H tv t) (hk : zKR H kv ks) (he : zX t (zLH ks) = 0) : G GT zBR [tv,kv] H (zC3 1 ((zHL t ks).map nV)) H:=
 zC mixed zHP (zNi (KP:=zKR) (fun _ _ _ _ hO h=>h.old hO) zPS tv kv t ks H ht hk he)
theorem zPT (tv : AV) (t : List Row) (c : Nat) (H : Heap) (ht : zAS H tv t) (he : zX t [(c : Int)] = 0) : G GT zAf [tv,zJ (c : Int)] H (zC3 3 ((zp t c).map zB)) H:=
 zC mixed zGw (zNj (fun tv kv t ks H ht hk he=>zQa tv kv t ks H ht hk he) tv t c H ht he)
theorem zQb (H : Heap) : G GT zAQ [.lst (some true) 0 []] H (zB (zEJ [])) H:=zC mixed zEx (zO8 zPj H)
theorem zMU : Co0H (G GT):=fun H=>zC mixed zq (zKX H)
theorem zOF : CoH (G GT):=fun b xs H hb hne hl=>zC mixed zq (zL5 b xs H hb hne hl)
theorem zQc (tv : AV) (t : List Row) (c : Nat) (H : Heap) (ht : zAS H tv t) (hl : t.length ≤ 60) (hin : ∀ (i : Nat) (r : Row),t[i]? = some r → c < r.length) : G GT zBa [tv,zJ (c : Int)] H (zC3 3 ((zp t c).map zB)) H:=
 zC mixed zJs (zOv (fun b xs H hb hne hl=>zNs b xs H hb hne hl) (fun H=>zMN H) zMU zOF tv t c H ht hl hin)
theorem zQd (tv : AV) (t : List Row) (b o c : Int) (H : Heap) (ht : zAS H tv t) : G GT zCE [tv,zJ b,zJ o,zJ c] H (zFh t b o c) H:=
 zC mixed zJr (zOw zRJ zQc g_sum tv t b o c H ht)
end
theorem zMV {m : Int} {ev : Value} (H : Heap) : G (gtQ m ev) zA6 [.nili] H (.int .i64 0) H:=zC mixed zFk (zKh H)
theorem zMW {m : Int} {ev : Value} (n : Int) (H : Heap) : G (gtQ m ev) zA6 [zHJ n] H (.int .i64 n) H:=zC mixed zFk (zKi (fun n old b H hb=>zQS n old b H hb) n H)
theorem zQe {m : Int} {ev : Value} (x : AV) (n e : Int) (H : Heap) (h : zOm x n) : G (gtQ m ev) zAL [x,.int .i64 e] H (.bool (n == e)) H:=
 zC (GT:=gtQ m ev) mixed zGx (zQT zMV zMW x n e h H) (hn:=by rcases h with ⟨h,_⟩ | h <;> rw [h] <;> rfl)
theorem g_law {m : Int} {ev : Value} (tv : AV) (t : List Row) (b o c : Int) (H : Heap) (ht : zAS H tv t) (hN : ∀ (i : Nat) (r : Row),t[i]? = some r → ∀ v ∈ r,zAU v.num) : G (gtQ m ev) zBy [tv,zJ b,zJ o,zJ c] H (.bool true) H:=
 zC mixed zEK (zQ8 zMS zPT zQd (fun x n e H h=>zQe x n e H h) zPR zQb zQZ tv t b o c H ht hN)
end Go.AM.Gs
namespace Go.AM
section
variable {H : Type} {enc : TypeId × Value → H} {P : Program} {w : World} {held : Bool} {base : Nat} {sp : Nat → Bool}
end
end Go.AM
namespace Go.AM
section
variable {H : Type} {enc : TypeId × Value → H} {P : Program} {w : World} {held : Bool}
end
end Go.AM
namespace Go.Proofs
open Go.RowKit Go.AM
section
variable {H : Type} {enc : TypeId × Value → H}
theorem zDD {a : Assume} {C : Checked} {os : Os} {f : FuncId} {fn : Func} {s : ChangeSpec} {conds : List PathCond} {apart fresh handsOn again : Bool} {X : World → Array Value → Prop}
  (hX : ∀ (w w' : World) (args : Array Value),w.heap = w'.heap → X w args → X w' args)
  (own : ownKnob C.prog.godebug = none) (started : os.Started) (noInit : C.prog.inits.idxOf? f = none) (hfn : C.prog.funcs[f]? = some fn)
  (witness : ∃ (w : World) (tape : Tape) (i : Input),w.os = os ∧ (w.forCall tape i).Shaped C.prog ∧ i.vars = [] ∧ Input.okWide C.prog (w.forCall tape i) .any w.heap.size f i ∧
   ((s.pre enc C.prog fn conds apart (w.forCall tape i).memory i.args ∧ X (w.forCall tape i).memory i.args) ∧ sizedMet enc C.prog fn (OpenSpec.ofChange s) apart (w.forCall tape i).memory i.args) ∧ a.holds C.prog (lone (Frame.enter C.prog f i.args .normal) [] (w.forCall tape i)))
  (contract : ∀ (W : World) (base : Nat) (args : Array Value) (ds gs : List (DataW H)) (before : List MemPlace),
   (∀ (j : Nat) t v,fn.params[j]? = some t → args[j]? = some v → Value.okWide C.prog W .any base t v) →
   DataW.Whole enc C.prog fn.params.toList s.vars apart W args.toList ds gs before →
   conds.all (PathCond.test C.prog ⟨fn.params.toList,ds,s.plain.varTypes C.prog,gs⟩) = true →
   (DataW.weightsEach C.prog (fn.params.toList ++ s.plain.varTypes C.prog) (ds ++ gs)).all (· ≤ reachBytes) = true → X W args → W.ShapedOpen C.prog →
   Calls C.prog f args W fun e W'=>∃ v,e = .returned v ∧ s.post enc C.prog fn apart fresh handsOn again W args v W') :
  ReturnsInHanded a C os f .any (fun w args=>(s.pre enc C.prog fn conds apart w args ∧ X w args) ∧ sizedMet enc C.prog fn (OpenSpec.ofChange s) apart w args) (s.post enc C.prog fn apart fresh handsOn again):=by
 refine returnsInHanded_of_calls own started noInit witness ?_
 intro w tape i _ hsh _ hok hpre hholds
 obtain ⟨_,_,_,fn',hfn',_,_,_,_,hval⟩:=hok
 have e : fn' = fn:=Option.some.inj (hfn'.symm.trans hfn)
 subst e
 obtain ⟨⟨⟨ds,gs,before,hw,hc⟩,hx⟩,hz⟩:=hpre
 have hw':=DataW.Whole.of_heap (w':=w.forCall tape i) (by rfl) hw
 refine (contract (w.forCall tape i) w.heap.size i.args ds gs before hval hw' hc (hz.weights hw) (hX _ _ _ (by rfl) hx) hsh).mono fun e W' ⟨v,he,hp⟩=>?_
 subst he
 exact ChangeSpec.post_blind hp
def zLP (P : Program) (w : World) : Bool:=
 let w₀:=(begin P (fun _ _=>0) default).world
 (List.range P.globals.size).all fun g=>
  match (w₀.heap[g]?).bind Obj.row? with
  | none=>true
  | some (zero,t)=>
   match w.heap[g]? with
   | some (.cells cs t' frozen)=>decide (t' = t) && decide (frozen = (0,0)) && cs.size == zero.size && (!P.buildable t || Row.okRefB P w t cs)
   | _=>false
theorem zHW {P : Program} {w : World} (hv : zLP P w = true)
  (hr : (w.heap.toList.drop P.globals.size).take ((begin P (fun _ _=>0) default).world.heap.size - P.globals.size) =
   (begin P (fun _ _=>0) default).world.heap.toList.drop P.globals.size) : w.Shaped P:=by
 refine ⟨fun g zero t hg hz=>?_,fun k h1 h2=>?_⟩
 case refine_2=>
  have:=congrArg (·[k - P.globals.size]?) hr
  simp only [List.getElem?_take,List.getElem?_drop,Array.getElem?_toList] at this
  rw [if_pos tO,Nat.add_sub_cancel' h1] at this
  exact this
 unfold zLP at hv
 simp only [List.all_eq_true,List.mem_range] at hv
 have:=hv g hg
 rw [hz] at this
 simp only at this
 split at this
 ·rename_i cs t' fr hw
  simp only [Bool.and_eq_true,decide_eq_true_eq,beq_iff_eq,Bool.or_eq_true,Bool.not_eq_true'] at this
  obtain ⟨⟨⟨rfl,rfl⟩,hs⟩,hb⟩:=this
  refine ⟨cs,hw,hs,fun hbuild=>?_⟩
  rcases hb with hb | hb
  ·rw [hbuild] at hb; cases hb
  ·exact Row.ok_of_okRefB hb
 ·cases this
theorem zHX {C : Checked} {os : Os} {f : FuncId} {fn : Func} {s : ChangeSpec} {conds : List PathCond} {apart : Bool} {X : World → Array Value → Prop} (modest : Bool) (w0 : World) (args : Array Value) (fuel : Nat) (hos : w0.os = os)
  (hsh : (w0.forCall (fun _ _=>0) ⟨#[],args,[]⟩).Shaped C.prog)
  (hok : Input.okWideB C.prog (w0.forCall (fun _ _=>0) ⟨#[],args,[]⟩) f ⟨#[],args,[]⟩ = true)
  (hpre : s.preB enc C.prog fn conds apart (w0.forCall (fun _ _=>0) ⟨#[],args,[]⟩).memory args fuel = true)
  (hsz : s.sizedB enc C.prog fn apart (w0.forCall (fun _ _=>0) ⟨#[],args,[]⟩).memory args fuel = true)
  (hx : X (w0.forCall (fun _ _=>0) ⟨#[],args,[]⟩).memory args) :
  ∃ (w : World) (tape : Tape) (i : Input),w.os = os ∧ (w.forCall tape i).Shaped C.prog ∧ i.vars = [] ∧ Input.okWide C.prog (w.forCall tape i) .any w.heap.size f i ∧
   ((s.pre enc C.prog fn conds apart (w.forCall tape i).memory i.args ∧ X (w.forCall tape i).memory i.args) ∧ sizedMet enc C.prog fn (OpenSpec.ofChange s) apart (w.forCall tape i).memory i.args) ∧ ({ modest:=modest } : Assume).holds C.prog (lone (Frame.enter C.prog f i.args .normal) [] (w.forCall tape i)):=
 ⟨w0,fun _ _=>0,⟨#[],args,[]⟩,hos,hsh,(Input.okWide_of_okWideB (base:=0) hok).1,(Input.okWide_of_okWideB hok).2,⟨⟨ChangeSpec.pre_of_preB hpre,hx⟩,sizedMet_of_sizedB hsz⟩,by
  simp only [Assume.holds]
  exact ⟨by simp,by simp,fun _=>Modest.zero,by simp,by simp⟩⟩
end
end Go.Proofs
namespace Go.AM
theorem zOG {x : AV} (h : Fits (.int .i64) x) : ∃ n,x = zJ n ∧ zAU n:=by
 obtain ⟨n,rfl,hn⟩:=zIp h
 exact ⟨n,rfl,zPg hn⟩
end Go.AM
