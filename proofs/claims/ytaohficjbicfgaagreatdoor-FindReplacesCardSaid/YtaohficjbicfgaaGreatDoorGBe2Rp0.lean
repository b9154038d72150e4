/- Several texts of mine in one (Be2, Fn1, Fn2, Gfc, Rp0). Own work. -/
import Derived.Test.YtaohficjbicfgaaGreatDoorGRfgBe1
import Derived.Test.YtaohficjbicfgaaGreatDoorGItQLvs
set_option linter.all false
set_option maxRecDepth 20000
namespace Go.AM
section
variable {C : CSpec} {GT : Nat → Option AV}
end
end Go.AM
set_option maxRecDepth 20000
namespace Go.AM
theorem pre_iff (part s : Bs) (i : Nat) (hi : i ≤ s.length) : part.isPrefixOf (s.drop i) = true ↔ i + part.length ≤ s.length ∧ sub s i (i + part.length) = part:=by
 unfold sub
 rw [Nat.add_sub_cancel_left]
 constructor
 ·intro h
  obtain ⟨t,ht⟩:=List.isPrefixOf_iff_prefix.1 h
  have hl : (s.drop i).length = part.length + t.length:=by rw [← ht,List.length_append]
  rw [List.length_drop] at hl
  refine ⟨by omega, ?_⟩
  rw [← ht]
  simp
 ·rintro ⟨h1,h2⟩
  refine List.isPrefixOf_iff_prefix.2 ⟨(s.drop i).drop part.length, ?_⟩
  conv=>lhs; rw [← h2]
  rw [h2]
  have:=List.take_append_drop part.length (s.drop i)
  rw [h2] at this
  exact this
structure CnS where
 i : Nat
 v : AV
 n : Nat
 a : Bs
section
variable {C : CSpec} {GT : Nat → Option AV}
theorem rcount_ev (s part new : Bs) (hp : 1 ≤ part.length) (hs : s.length ≤ 1000) (hpl : part.length ≤ 140737488355328) (hn : new.length ≤ 1000) (H : Heap) : EFun C GT zGf [.str s,.str part,.str new] H (.tup [zJ (zDJ part new s).1,.str (zDJ part new s).2]) H:=by
 obtain ⟨r1,hr1⟩ : ∃ r,(zDJ part new s).1 = r:=⟨_,rfl⟩
 obtain ⟨r2,hr2⟩ : ∃ r,(zDJ part new s).2 = r:=⟨_,rfl⟩
 rw [hr1,hr2]
 refine zf ?_; refine zBu (fun x : CnS=>[(1,.str part),(10,zJ x.i),(2,.str new),(9,x.v),(8,zJ x.n),(0,.str s)])
  (fun x H'=>Old H H' ∧ x.i ≤ s.length ∧ Owns H H' x.v 1 (x.a.map zAa) ∧ x.n + (zDJ part new (s.drop x.i)).1 = r1 ∧ x.a ++ (zDJ part new (s.drop x.i)).2 = r2 ∧ x.a.length ≤ x.i * 1001 ∧ x.n ≤ x.i)
  (fun x=>s.length - x.i) ⟨0,.lst (some true) 0 [],0,[]⟩ rfl ⟨Old.refl _,by simp,.inl ⟨rfl,rfl⟩,by simp only [List.drop_zero]; omega,by simp only [List.drop_zero,List.nil_append]; exact hr2,by simp,by simp⟩ (fun ⟨i,v,n,a⟩ H1 ⟨hO,hi,ho,h1,h2,hal,hni⟩=>?_)
 dsimp only at hi ho h1 h2 hal hni ⊢
 by_cases hlt : i < s.length
 ·obtain ⟨c,hc⟩ : ∃ c,s[i]? = some c:=⟨_,List.getElem?_eq_getElem hlt⟩
  have hdc : s.drop i = c :: s.drop (i + 1):=by rw [List.drop_eq_getElem_cons hlt,(zg hc).2]
  have hpi:=pre_iff part s i hi
  cases hb : part.isPrefixOf (s.drop i) with
  | true=>
   obtain ⟨hr,hsub⟩:=hpi.1 hb
   rw [zIl part new hp _ hb,List.drop_drop] at h1 h2
   have hsl:=zBy s i (i + part.length) tO hr
   refine zP tT ?_; refine zM (r:=i + part.length) rfl tO ?_; refine zP tT ?_; refine zM (r:=i + part.length) rfl tO ?_; refine zU (v:=.str (sub s i (i + part.length))) hsl ?_; refine zH <| zP (tE hsub) ?_; refine zM (r:=n + 1) rfl tO ?_; refine sAppStr (H0:=H) ho hO (by simp only [List.length_map]; omega) (fun v' H' ho' hO' _=>?_)
   rw [← List.map_append] at ho'
   refine zM (r:=i + part.length) rfl tO ?_; refine zAM (CnS.mk (i + part.length) v' (n + 1) (a ++ new)) rfl ⟨hO',hr,ho',by simp only; omega,by rw [List.append_assoc]; exact h2, ?_,by simp only; omega⟩ (by simp only; omega)
   simp only [List.length_append]
   omega
  | false=>
   rw [hdc] at hb
   rw [hdc,zIm part new c _ hb] at h1 h2
   have hno : ¬ (i + part.length ≤ s.length ∧ sub s i (i + part.length) = part):=fun h=>by
    have:=hpi.2 h
    rw [hdc,hb] at this; cases this
   by_cases hr : i + part.length ≤ s.length
   ·have hsl:=zBy s i (i + part.length) tO hr
    have hne : sub s i (i + part.length) ≠ part:=fun h=>hno ⟨hr,h⟩
    refine zP tT ?_; refine zM (r:=i + part.length) rfl tO ?_; refine zP tT ?_; refine zM (r:=i + part.length) rfl tO ?_; refine zU (v:=.str (sub s i (i + part.length))) hsl ?_; refine zH <| zN (tN hne) ?_; refine zl rfl hc ?_; refine zAi (vs':=[zAa c]) rfl rfl ?_; refine zBT (H0:=H) (ys:=[zAa c]) (ho.push _) (hO.push _) zAp (by decide) (by simp only [List.length_map,List.length_cons,List.length_nil]; omega) (by simp) (fun v' H' ho' hO' _ _=>?_)
    have ho' : Owns H H' v' 1 ((a ++ [c]).map zAa):=by rw [List.map_append]; exact ho'
    refine zM (r:=i + 1) rfl tO ?_; refine zAM (CnS.mk (i + 1) v' n (a ++ [c])) rfl ⟨hO',by simp only; omega,ho',h1,by rw [List.append_assoc]; exact h2, ?_,by simp only; omega⟩ (by simp only; omega)
    simp only [List.length_append,List.length_cons,List.length_nil]
    omega
   ·refine zP tT ?_; refine zM (r:=i + part.length) rfl tO ?_; refine zN tF <| zG <| zG ?_; refine zl rfl hc ?_; refine zAi (vs':=[zAa c]) rfl rfl ?_; refine zBT (H0:=H) (ys:=[zAa c]) (ho.push _) (hO.push _) zAp (by decide) (by simp only [List.length_map,List.length_cons,List.length_nil]; omega) (by simp) (fun v' H' ho' hO' _ _=>?_)
    have ho' : Owns H H' v' 1 ((a ++ [c]).map zAa):=by rw [List.map_append]; exact ho'
    refine zM (r:=i + 1) rfl tO ?_; refine zAM (CnS.mk (i + 1) v' n (a ++ [c])) rfl ⟨hO',by simp only; omega,ho',h1,by rw [List.append_assoc]; exact h2, ?_,by simp only; omega⟩ (by simp only; omega)
    simp only [List.length_append,List.length_cons,List.length_nil]
    omega
 ·have hd : s.drop i = []:=List.drop_eq_nil_of_le tO
  rw [hd,cntS_nil] at h1 h2
  have h1 : n + 0 = r1:=h1
  have h2 : a ++ [] = r2:=h2
  rw [Nat.add_zero] at h1
  rw [List.append_nil] at h2
  subst h1 h2
  refine zN tF ?_; refine zGb ho ?_
  exact zc rfl rfl rfl rfl hO
end
end Go.AM
set_option maxRecDepth 20000
namespace Go.AM
theorem lstF_view (k : Nat) (xs : List AV) (H : Heap) : view H k (lstF k xs) = some xs:=(lstF_of k xs).view H
section
variable {C : CSpec} {GT : Nat → Option AV}
end
end Go.AM
set_option maxRecDepth 100000
namespace Go.Proofs.YtaohficjbicfgaaGreatDoor
open Go.AM
section
variable {m : Int} {ev : Value} (hev : ∃ te pe,ev = .iface te pe)
theorem g_count (s part new : Bs) (hp : 1 ≤ part.length) (hs : s.length ≤ 1000) (hpl : part.length ≤ 140737488355328) (hn : new.length ≤ 1000) (H : Heap) : GQ m ev zC3 [.str s,.str part,.str new] H (.tup [zJ (zDJ part new s).1,.str (zDJ part new s).2]) H:=
 zO mixed zKt (rcount_ev s part new hp hs hpl hn H)
end
end Go.Proofs.YtaohficjbicfgaaGreatDoor
set_option maxRecDepth 20000
namespace Go.AM
def repC (part new : Bs) (whole : Bool) (f : Fil) : Nat × Bs:=if whole = true ∧ f.text ≠ part then (0,f.text) else if 0 < (zDJ part new f.text).1 then zDJ part new f.text else (0,f.text)
def repF (part new : Bs) (whole : Bool) (f : Fil) : Fil:=⟨f.col,f.row,(repC part new whole f).2⟩
def zHL (part new : Bs) (whole : Bool) (f : Fil) : Nat:=if 0 < (repC part new whole f).1 then zBE (repC part new whole f).2 else 0
def repE (part new : Bs) (whole : Bool) : List Fil → Nat
 | []=>0
 | f :: r=>if zHL part new whole f = 0 then repE part new whole r else zHL part new whole f
def repO (part new : Bs) (whole : Bool) (l : List Fil) : List Fil:=l.filterMap fun f=>if (repC part new whole f).2 = [] then none else some (repF part new whole f)
def repM (part new : Bs) (whole : Bool) (l : List Fil) : Nat:=(l.map fun f=>(repC part new whole f).1).sum
section
variable {part new : Bs} {whole : Bool}
theorem repE_drop (l : List Fil) (i : Nat) (f : Fil) (h : l[i]? = some f) : repE part new whole (l.drop i) = if zHL part new whole f = 0 then repE part new whole (l.drop (i + 1)) else zHL part new whole f:=by
 have hlt:=(zg h).1
 rw [List.drop_eq_getElem_cons hlt,(zg h).2]
 rfl
theorem repO_take (l : List Fil) (i : Nat) (f : Fil) (h : l[i]? = some f) : repO part new whole (l.take (i + 1)) = repO part new whole (l.take i) ++ (if (repC part new whole f).2 = [] then [] else [repF part new whole f]):=by
 unfold repO
 rw [List.take_succ,h,List.filterMap_append]
 congr 1
 by_cases hh : (repC part new whole f).2 = []
 ·simp [hh]
 ·simp [hh]
theorem repM_take (l : List Fil) (i : Nat) (f : Fil) (h : l[i]? = some f) : repM part new whole (l.take (i + 1)) = repM part new whole (l.take i) + (repC part new whole f).1:=by
 unfold repM
 rw [List.take_succ,h]
 simp
theorem cnt_le (part new : Bs) (hp : 1 ≤ part.length) : ∀ (k : Nat) (s : Bs),s.length ≤ k → (zDJ part new s).1 ≤ s.length ∧ (zDJ part new s).2.length ≤ s.length * (new.length + 1):=by
 intro k
 induction k with
 | zero=>
  intro s h
  obtain rfl : s = []:=List.length_eq_zero_iff.1 tO
  exact ⟨Nat.le_refl _,Nat.zero_le _⟩
 | succ k ih=>
  intro s h
  cases s with
  | nil=>exact ⟨Nat.le_refl _,Nat.zero_le _⟩
  | cons c r=>
   cases hb : part.isPrefixOf (c :: r) with
   | true=>
    obtain ⟨h1,h2⟩:=ih ((c :: r).drop part.length) (by simp only [List.length_drop,List.length_cons] at *; omega)
    rw [zIl part new hp _ hb]
    have hpl : part.length ≤ (c :: r).length:=by
     have:=congrArg List.length (pre_app hb)
     rw [List.length_append] at this
     omega
    simp only [List.length_drop,List.length_append,List.length_cons] at h1 h2 hpl ⊢
    have e : (r.length + 1) * (new.length + 1) = (r.length + 1 - part.length) * (new.length + 1) + part.length * (new.length + 1):=by rw [← Nat.add_mul]; congr 1; omega
    have e2 : new.length + 1 ≤ part.length * (new.length + 1):=Nat.le_mul_of_pos_left _ tO
    exact ⟨by omega,by omega⟩
   | false=>
    obtain ⟨h1,h2⟩:=ih r (by simp only [List.length_cons] at h; omega)
    rw [zIm part new c r hb]
    simp only [List.length_cons] at h1 h2 ⊢
    have e : (r.length + 1) * (new.length + 1) = r.length * (new.length + 1) + (new.length + 1):=Nat.succ_mul _ _
    exact ⟨by omega,by omega⟩
theorem repC_le (hp : 1 ≤ part.length) (f : Fil) (hf : f.text.length ≤ 200) : (repC part new whole f).1 ≤ 200:=by
 have:=(cnt_le part new hp _ f.text (Nat.le_refl _)).1
 unfold repC
 split
 ·exact Nat.zero_le _
 ·split
  ·omega
  ·exact Nat.zero_le _
theorem repM_le (hp : 1 ≤ part.length) (l : List Fil) (h : ∀ f ∈ l,f.text.length ≤ 200) : repM part new whole l ≤ 200 * l.length:=by
 induction l with
 | nil=>exact Nat.le_refl _
 | cons f r ih=>
  have h1:=repC_le (part:=part) (new:=new) (whole:=whole) hp f (h f (by simp))
  have h2:=ih fun g hg=>h g (List.mem_cons_of_mem _ hg)
  unfold repM at *
  simp only [List.map_cons,List.sum_cons,List.length_cons]
  omega
theorem repO_len (l : List Fil) : (repO part new whole l).length ≤ l.length:=List.length_filterMap_le _ _
end
def zCh (l : List Fil) (part new : Bs) (whole : Bool) : Nat:=if zCW l ≠ 0 then zCW l else if 200 < part.length ∨ 200 < new.length then 4 else if part = [] then 2 else repE part new whole l
def zLE (l : List Fil) (part new : Bs) (whole : Bool) : AV:=if zCh l part new whole = 0 then lstF 3 ((repO part new whole l).map zk) else .lst (some true) 0 []
def replM (l : List Fil) (part new : Bs) (whole : Bool) : Nat:=if zCh l part new whole = 0 then repM part new whole l else 0
end Go.AM
