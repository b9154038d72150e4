/- Several texts of mine in one (Rp0, Mg3, Rp1, Rp2, Mf1). Own work. -/
import Derived.Test.YtmmbcogejaofpaaGreatDoorGMw4Fn2
import Derived.Test.YtmmbcogejaofpaaGreatDoorGGdsMg2
set_option linter.all false
set_option maxRecDepth 20000
namespace Go.AM
def repC (part new : Bs) (whole : Bool) (f : Fil) : Nat × Bs:=if whole = true ∧ f.text ≠ part then (0,f.text) else if 0 < (zDI part new f.text).1 then zDI part new f.text else (0,f.text)
def repF (part new : Bs) (whole : Bool) (f : Fil) : Fil:=⟨f.col,f.row,(repC part new whole f).2⟩
def zGQ (part new : Bs) (whole : Bool) (f : Fil) : Nat:=if 0 < (repC part new whole f).1 then zBh (repC part new whole f).2 else 0
def repE (part new : Bs) (whole : Bool) : List Fil → Nat
 | []=>0
 | f :: r=>if zGQ part new whole f = 0 then repE part new whole r else zGQ part new whole f
def zFK (part new : Bs) (whole : Bool) (l : List Fil) : List Fil:=l.filterMap fun f=>if (repC part new whole f).2 = [] then none else some (repF part new whole f)
def repM (part new : Bs) (whole : Bool) (l : List Fil) : Nat:=(l.map fun f=>(repC part new whole f).1).sum
section
variable {part new : Bs} {whole : Bool}
theorem repE_drop (l : List Fil) (i : Nat) (f : Fil) (h : l[i]? = some f) : repE part new whole (l.drop i) = if zGQ part new whole f = 0 then repE part new whole (l.drop (i + 1)) else zGQ part new whole f:=by
 have hlt:=(zg h).1
 rw [List.drop_eq_getElem_cons hlt,(zg h).2]
 rfl
theorem repO_take (l : List Fil) (i : Nat) (f : Fil) (h : l[i]? = some f) : zFK part new whole (l.take (i + 1)) = zFK part new whole (l.take i) ++ (if (repC part new whole f).2 = [] then [] else [repF part new whole f]):=by
 unfold zFK
 rw [List.take_succ,h,List.filterMap_append]
 congr 1
 by_cases hh : (repC part new whole f).2 = []
 ·simp [hh]
 ·simp [hh]
theorem repM_take (l : List Fil) (i : Nat) (f : Fil) (h : l[i]? = some f) : repM part new whole (l.take (i + 1)) = repM part new whole (l.take i) + (repC part new whole f).1:=by
 unfold repM
 rw [List.take_succ,h]
 simp
theorem cnt_le (part new : Bs) (hp : 1 ≤ part.length) : ∀ (k : Nat) (s : Bs),s.length ≤ k → (zDI part new s).1 ≤ s.length ∧ (zDI part new s).2.length ≤ s.length * (new.length + 1):=by
 intro k
 induction k with
 | zero=>
  intro s h
  obtain rfl : s = []:=List.length_eq_zero_iff.1 tO
  exact ⟨Nat.le_refl _,Nat.zero_le _⟩
 | succ k ih=>
  intro s h
  cases s with
  | nil=>exact ⟨Nat.le_refl _,Nat.zero_le _⟩
  | cons c r=>
   cases hb : part.isPrefixOf (c :: r) with
   | true=>
    obtain ⟨h1,h2⟩:=ih ((c :: r).drop part.length) (by simp only [List.length_drop,List.length_cons] at *; omega)
    rw [zF3 part new hp _ hb]
    have hpl : part.length ≤ (c :: r).length:=by
     have:=congrArg List.length (pre_app hb)
     rw [List.length_append] at this
     omega
    simp only [List.length_drop,List.length_append,List.length_cons] at h1 h2 hpl ⊢
    have e : (r.length + 1) * (new.length + 1) = (r.length + 1 - part.length) * (new.length + 1) + part.length * (new.length + 1):=by rw [← Nat.add_mul]; congr 1; omega
    have e2 : new.length + 1 ≤ part.length * (new.length + 1):=Nat.le_mul_of_pos_left _ tO
    exact ⟨by omega,by omega⟩
   | false=>
    obtain ⟨h1,h2⟩:=ih r (by simp only [List.length_cons] at h; omega)
    rw [zF4 part new c r hb]
    simp only [List.length_cons] at h1 h2 ⊢
    have e : (r.length + 1) * (new.length + 1) = r.length * (new.length + 1) + (new.length + 1):=Nat.succ_mul _ _
    exact ⟨by omega,by omega⟩
theorem repC_le (hp : 1 ≤ part.length) (f : Fil) (hf : f.text.length ≤ 200) : (repC part new whole f).1 ≤ 200:=by
 have:=(cnt_le part new hp _ f.text (Nat.le_refl _)).1
 unfold repC
 split
 ·exact Nat.zero_le _
 ·split
  ·omega
  ·exact Nat.zero_le _
theorem repM_le (hp : 1 ≤ part.length) (l : List Fil) (h : ∀ f ∈ l,f.text.length ≤ 200) : repM part new whole l ≤ 200 * l.length:=by
 induction l with
 | nil=>exact Nat.le_refl _
 | cons f r ih=>
  have h1:=repC_le (part:=part) (new:=new) (whole:=whole) hp f (h f (by simp))
  have h2:=ih fun g hg=>h g (List.mem_cons_of_mem _ hg)
  unfold repM at *
  simp only [List.map_cons,List.sum_cons,List.length_cons]
  omega
theorem repO_len (l : List Fil) : (zFK part new whole l).length ≤ l.length:=List.length_filterMap_le _ _
end
def zCq (l : List Fil) (part new : Bs) (whole : Bool) : Nat:=if zAV l ≠ 0 then zAV l else if 200 < part.length ∨ 200 < new.length then 4 else if part = [] then 2 else repE part new whole l
def replV (l : List Fil) (part new : Bs) (whole : Bool) : AV:=if zCq l part new whole = 0 then zFh 3 ((zFK part new whole l).map zZ) else .lst (some true) 0 []
def replM (l : List Fil) (part new : Bs) (whole : Bool) : Nat:=if zCq l part new whole = 0 then repM part new whole l else 0
end Go.AM
namespace Go.AM
theorem pre_one (c x : UInt8) (r : Bs) : ([c] : Bs).isPrefixOf (x :: r) = (c == x):=by simp [List.isPrefixOf]
theorem cnt_one (c : UInt8) (new : Bs) : ∀ s : Bs,zDI [c] new s = (s.count c,s.flatMap fun x=>if x = c then new else [x])
 | []=>rfl
 | x :: r=>by
  have ih:=cnt_one c new r
  by_cases h : x = c
  ·subst h
   rw [zF3 [x] new (by simp) (x :: r) (by simp [List.isPrefixOf])]
   simp only [List.length_singleton,List.drop_succ_cons,List.drop_zero]
   rw [ih]
   simp
  ·rw [zF4 [c] new x r (by rw [pre_one]; simp [Ne.symm h]),ih]
   simp [h]
def subB (c : UInt8) (new s : Bs) : Bs:=s.flatMap fun x=>if x = c then new else [x]
theorem sub_no {c : UInt8} {new : Bs} (hn : c ∉ new) (s : Bs) : c ∉ subB c new s:=by
 unfold subB
 intro h
 obtain ⟨x,_,hx⟩:=List.mem_flatMap.1 h
 by_cases e : x = c
 ·rw [if_pos e] at hx; exact hn hx
 ·rw [if_neg e] at hx; exact e (List.mem_singleton.1 hx).symm
theorem zHG {c : UInt8} {new : Bs} : ∀ {s : Bs},c ∉ s → subB c new s = s
 | [],_=>rfl
 | x :: r,h=>by
  simp only [List.mem_cons,not_or] at h
  unfold subB
  rw [List.flatMap_cons,if_neg (Ne.symm h.1)]
  have:=zHG (new:=new) h.2
  unfold subB at this
  rw [this]; rfl
theorem zHH (c : UInt8) (new : Bs) (f : Fil) : repC [c] new false f = (f.text.count c,subB c new f.text):=by
 unfold repC
 rw [if_neg (by simp),cnt_one]
 by_cases h : 0 < f.text.count c
 ·rw [if_pos h]; rfl
 ·rw [if_neg h]
  have hc : c ∉ f.text:=fun k=>h (List.count_pos_iff.2 k)
  rw [zHG hc]
  simp; omega
theorem zHI (c : UInt8) (f : Fil) : hasF [c] false f = decide (c ∈ f.text):=by
 unfold hasF
 rw [cnt_one]
 rw [Bool.eq_iff_iff]
 simp only [Bool.or_eq_true,beq_iff_eq,Bool.and_eq_true,Bool.not_eq_true',decide_eq_true_eq,true_and,List.count_pos_iff]
 constructor
 ·rintro (h | h)
  ·rw [h]; simp
  ·exact h
 ·exact .inr
theorem repO_one (c : UInt8) (new : Bs) (l : List Fil) : zFK [c] new false l = l.filterMap fun f=>if subB c new f.text = [] then none else some ⟨f.col,f.row,subB c new f.text⟩:=by
 unfold zFK repF
 simp only [zHH]
theorem repO_text {c : UInt8} {new : Bs} {l : List Fil} (h : Srtd l) (p : Int × Int) : Srtd (zFK [c] new false l) ∧ zAE (zFK [c] new false l) p = subB c new (zAE l p):=by
 rw [repO_one]
 have hs : Srtd (l.filterMap fun f=>if subB c new f.text = [] then none else some (⟨f.col,f.row,subB c new f.text⟩ : Fil)):=by
  refine List.Pairwise.filterMap _ (fun a b hab x hx y hy=>?_) h
  split at hx
  ·cases hx
  ·split at hy
   ·cases hy
   ·cases hx; cases hy; exact hab
 refine ⟨hs, ?_⟩
 by_cases hm : p ∈ l.map zB1
 ·obtain ⟨f,hf,rfl⟩:=List.mem_map.1 hm
  rw [zCX h hf]
  by_cases he : subB c new f.text = []
  ·rw [he]
   refine zF5 fun k=>?_
   obtain ⟨g,hg,e⟩:=List.mem_map.1 k
   obtain ⟨f',hf',e2⟩:=List.mem_filterMap.1 hg
   split at e2
   ·cases e2
   ·rename_i hne
    cases e2
    have ek : zB1 f' = zB1 f:=e
    have t1:=zCX h hf'
    have t2:=zCX h hf
    rw [ek,t2] at t1
    exact hne (by rw [← t1]; exact he)
  ·exact textAt_of hs ⟨⟨f.col,f.row,subB c new f.text⟩,List.mem_filterMap.2 ⟨f,hf,by rw [if_neg he]⟩,rfl,rfl⟩
 ·rw [zF5 hm]
  refine zF5 fun k=>hm ?_
  obtain ⟨g,hg,e⟩:=List.mem_map.1 k
  obtain ⟨f',hf',e2⟩:=List.mem_filterMap.1 hg
  split at e2
  ·cases e2
  ·cases e2; exact List.mem_map.2 ⟨f',hf',e⟩
theorem repE_each {part new : Bs} {whole : Bool} : ∀ {l : List Fil},repE part new whole l = 0 → ∀ f ∈ l,zGQ part new whole f = 0
 | [],_,f,hf=>absurd hf (by simp)
 | g :: l,h,f,hf=>by
  unfold repE at h
  by_cases h0 : zGQ part new whole g = 0
  ·rw [if_pos h0] at h
   rcases List.mem_cons.1 hf with rfl | hf
   ·exact h0
   ·exact repE_each h f hf
  ·rw [if_neg h0] at h; exact absurd h h0
theorem repO_goods {c : UInt8} {new : Bs} {l : List Fil} (h : Goods l) (he : repE [c] new false l = 0) : Goods (zFK [c] new false l):=by
 refine ⟨(repO_text h.srt (0,0)).1, ?_,fun g hg=>?_⟩
 ·unfold zFK
  exact Nat.le_trans (List.length_filterMap_le _ _) h.len
 ·rw [repO_one] at hg
  obtain ⟨f,hf,e⟩:=List.mem_filterMap.1 hg
  split at e
  ·cases e
  ·rename_i hne
   cases e
   refine ⟨?_,hne⟩
   have hm:=(h.each f hf).1
   have h1:=repE_each he f hf
   unfold zGQ at h1
   rw [zHH] at h1
   unfold mayN at hm ⊢
   cases hc : okC f.col f.row with
   | false=>rw [hc] at hm; cases hm
   | true=>
    rw [hc,if_pos rfl] at hm
    rw [if_pos rfl]
    show zBh (subB c new f.text) = 0
    by_cases hp : 0 < f.text.count c
    ·rwa [if_pos hp] at h1
    ·rw [zHG fun k=>hp (List.count_pos_iff.2 k)]; exact hm
theorem gone_keys {c : UInt8} {new : Bs} (hn : c ∉ new) {l : List Fil} (h : Goods l) {cs : List (Int × Int)} (hc : IsCells [l,zFK [c] new false l] cs) : (zGy l (zFK [c] new false l) cs).map zB1 = (zGP [c] false l).map zB1:=by
 have e1 : (zGy l (zFK [c] new false l) cs).map zB1 = cs.filter fun p=>decide (zAE l p ≠ zAE (zFK [c] new false l) p):=by
  unfold zGy
  rw [List.map_map]
  exact List.map_id _
 rw [e1]
 refine asc_ext (hc.1.filter _) (srtd_keys (h.srt.sublist (List.filter_sublist))) fun p=>?_
 have key : zAE l p ≠ subB c new (zAE l p) ↔ c ∈ zAE l p:=by
  constructor
  ·intro k
   exact Classical.byContradiction fun hc=>k (zHG hc).symm
  ·intro k e
   have:=sub_no hn (zAE l p)
   rw [← e] at this
   exact this k
 simp only [List.mem_filter,decide_eq_true_eq,(repO_text h.srt p).2,key]
 unfold zGP
 constructor
 ·rintro ⟨_,h2⟩
  have hne : zAE l p ≠ []:=fun e=>by rw [e] at h2; simp at h2
  obtain ⟨f,hf,rfl⟩:=List.mem_map.1 (textAt_some hne)
  rw [zCX h.srt hf] at h2
  exact List.mem_map.2 ⟨f,List.mem_filter.2 ⟨hf,by rw [zHI]; exact decide_eq_true h2⟩,rfl⟩
 ·intro k
  obtain ⟨f,hf,rfl⟩:=List.mem_map.1 k
  obtain ⟨h1,h2⟩:=List.mem_filter.1 hf
  rw [zHI,decide_eq_true_eq] at h2
  refine ⟨(hc.2 _).2 ⟨l,by simp,List.mem_map.2 ⟨f,h1,rfl⟩⟩, ?_⟩
  rw [zCX h.srt h1]
  exact h2
theorem gone_none {c : UInt8} {new : Bs} (hn : c ∉ new) (l : List Fil) : zGP [c] false (zFK [c] new false l) = []:=by
 unfold zGP
 refine List.filter_eq_nil_iff.2 fun g hg=>?_
 rw [repO_one] at hg
 obtain ⟨f,_,e⟩:=List.mem_filterMap.1 hg
 split at e
 ·cases e
 ·cases e
  rw [zHI]
  simpa using sub_no hn f.text
theorem gone_many (c : UInt8) (new : Bs) : ∀ l : List Fil,(zGP [c] false l).length ≤ repM [c] new false l ∧ (repM [c] new false l = 0 ↔ zGP [c] false l = [])
 | []=>by simp [zGP,repM]
 | f :: l=>by
  obtain ⟨h1,h2⟩:=gone_many c new l
  unfold zGP repM at *
  rw [List.filter_cons,zHI]
  simp only [List.map_cons,List.sum_cons,zHH]
  simp only [zHH] at h1 h2
  by_cases hc : c ∈ f.text
  ·have:=List.count_pos_iff.2 hc
   rw [if_pos (decide_eq_true hc)]
   simp only [List.length_cons]
   refine ⟨by omega, ?_⟩
   constructor
   ·intro h; exfalso; omega
   ·intro h; cases h
  ·have : f.text.count c = 0:=List.count_eq_zero.2 hc
   rw [if_neg (by simpa using hc),this,Nat.zero_add]
   exact ⟨h1,h2⟩
end Go.AM
set_option maxRecDepth 20000
namespace Go.AM
structure RpS where
 i : Nat
 v : AV
 n : Nat
section
variable {C : CSpec} {GT : Nat → Option AV}
set_option maxHeartbeats 4000000 in
theorem krep_ev (hG : ∀ lv l H,view H 3 lv = some (l.map zZ) → C zAA [lv] H (eV (zAV l)) H) (hS : ∀ s part new H,1 ≤ part.length → s.length ≤ 1000 → C zBp [.str s,.str part] H (zP (zDI part new s).1) H)
  (hA : ∀ s part new H,1 ≤ part.length → s.length ≤ 1000 → new.length ≤ 1000 → C zAu [.str s,.str part,.str new] H (.str (zDI part new s).2) H) (hT : ∀ s H,C zAO [.str s] H (eV (zBh s)) H)
  (lv : AV) (l : List Fil) (part new : Bs) (whole : Bool) (H : Heap) (hv : view H 3 lv = some (l.map zZ)) : EFun C GT zEx [lv,.str part,.str new,.bool whole] H (.tup [replV l part new whole,zP (replM l part new whole),eV (zCq l part new whole)]) H:=by
 have hlm : (l.map zZ).length = l.length:=List.length_map _
 have hg:=hG lv l H hv
 clear hG
 refine ze ?_
 unfold replV replM
 by_cases c0 : zAV l = 0
 case neg=>
  have hn : zCq l part new whole = zAV l:=if_pos c0
  rw [hn,if_neg c0,if_neg c0]
  have he : eV (zAV l) = zD6 (zAV l : Nat):=by unfold eV; rw [if_neg c0]
  rw [he] at hg ⊢
  clear hS hA hT
  refine zI hg ?_; refine zT rfl ?_; refine zH ?_
  exact sRr
 obtain ⟨hl,hok⟩:=zIF c0
 rw [c0] at hg
 have hg : C zAA [lv] H .nili H:=hg
 by_cases c1 : 200 < part.length
 ·have hn : zCq l part new whole = 4:=by unfold zCq; rw [if_neg tO,if_pos (.inl c1)]
  rw [hn,if_neg (by decide),if_neg (by decide)]
  clear hS hA hT
  refine zI hg ?_; refine zT rfl ?_; refine zF <| za tT <| zH <| zH ?_
  exact sRr
 by_cases c2 : 200 < new.length
 ·have hn : zCq l part new whole = 4:=by unfold zCq; rw [if_neg tO,if_pos (.inr c2)]
  rw [hn,if_neg (by decide),if_neg (by decide)]
  clear hS hA hT
  refine zI hg ?_; refine zT rfl ?_; refine zF <| zV tF <| zF <| za tT ?_
  exact sRr
 by_cases hp0 : part = []
 ·have hn : zCq l part new whole = 2:=by unfold zCq; rw [if_neg tO,if_neg tO,if_pos hp0]
  rw [hn,if_neg (by decide),if_neg (by decide)]
  clear hS hA hT
  refine zI hg ?_; refine zT rfl ?_; refine zF <| zV tF <| zF <| zV tF <| za (tE hp0) ?_
  exact sRr
 have hp : 1 ≤ part.length:=by
  cases part with
  | nil=>exact absurd rfl hp0
  | cons a t=>simp
 have hn : zCq l part new whole = repE part new whole l:=by unfold zCq; rw [if_neg tO,if_neg tO,if_neg hp0]
 rw [hn]
 obtain ⟨e,he⟩ : ∃ e,repE part new whole l = e:=⟨_,rfl⟩
 rw [he]
 refine zI hg ?_; refine zT rfl ?_; refine zF <| zV tF <| zF <| zV tF <| zV (tN hp0) ?_; refine sLenV hv ?_; refine zCI (fun x : RpS=>[(39,zP x.i),(12,x.v),(2,.str new),(1,.str part),(13,zP x.n),(3,.bool whole),(37,lv),(38,.int .i64 ((l.map zZ).length : Nat))]) (fun x H'=>Old H H' ∧ x.i ≤ l.length ∧ Owns H H' x.v 3 ((zFK part new whole (l.take x.i)).map zZ) ∧ x.n = repM part new whole (l.take x.i) ∧ repE part new whole (l.drop x.i) = e) (fun x=>l.length - x.i) ⟨0,.lst (some true) 0 [],0⟩ rfl ⟨Old.refl _,by simp,.inl ⟨rfl,rfl⟩,rfl,he⟩ (fun ⟨i,v,n⟩ H1 ⟨hO,hi,ho,hnm,hde⟩=>?_)
 dsimp only at hi ho hnm hde ⊢
 have hv1:=zCv hO hv
 by_cases hlt : i < l.length
 case neg=>
  have ht : l.take i = l:=List.take_of_length_le tO
  have hd : l.drop i = []:=List.drop_eq_nil_of_le tO
  rw [ht] at ho hnm
  rw [hd] at hde
  subst hnm
  obtain rfl : e = 0:=hde.symm
  rw [if_pos rfl,if_pos rfl]
  refine zV tF ?_
  obtain ⟨H3,hz,hO3,_⟩:=ho.frz hO
  exact sRetF rfl rfl (show zB0 H.length (.tup [v,zP (repM part new whole l),.nili]) H1 = some (.tup [_,zP (repM part new whole l),.nili],H3) from by simp only [zB0,zGR,hz,zP]) (by show (AV.tup [zFh 3 _,zP _,.nili]).bel _ = true; generalize (zFK part new whole l).map zZ = xs; cases xs <;> rfl) hO3
 obtain ⟨f,hf⟩ : ∃ f,l[i]? = some f:=⟨_,List.getElem?_eq_getElem hlt⟩
 have hfm : (l.map zZ)[i]? = some (zZ f):=by rw [List.getElem?_map,hf]; rfl
 have hfo:=hok f (List.mem_of_getElem? hf)
 have hft : f.text.length ≤ 200:=hfo.2.2
 have hs:=fun H=>hS f.text part new H hp tO
 have ha:=fun H=>hA f.text part new H hp tO tO
 have hot:=repO_take (part:=part) (new:=new) (whole:=whole) l i f hf
 have hmt:=repM_take (part:=part) (new:=new) (whole:=whole) l i f hf
 have hed:=repE_drop (part:=part) (new:=new) (whole:=whole) l i f hf
 have hfl : (zFK part new whole (l.take i)).length ≤ 200:=by
  have:=repO_len (part:=part) (new:=new) (whole:=whole) (l.take i)
  rw [List.length_take] at this
  omega
 have hml : n ≤ 40000:=by
  have h1:=repM_le (part:=part) (new:=new) (whole:=whole) hp (l.take i) fun g hg=>(hok g (List.mem_of_mem_take hg)).2.2
  have h2 : (l.take i).length ≤ 200:=by rw [List.length_take]; omega
  have : 200 * (l.take i).length ≤ 200 * 200:=Nat.mul_le_mul_left _ h2
  omega
 have hcl:=(cnt_le part new hp _ f.text (Nat.le_refl _)).1
 rw [hed] at hde
 rw [← hnm] at hmt
 clear hS hA
 have stays : (repC part new whole f) = (0,f.text) → ∀ (H4 : Heap) (bx : Nat),Old H H4 → Owns H H4 v 3 ((zFK part new whole (l.take i)).map zZ) → H4[bx]? = some (.box (zZ f).cells) → bx < H4.length → True:=fun _ _ _ _ _ _ _=>trivial
 by_cases cA : whole = true ∧ f.text ≠ part
 ·obtain ⟨rfl,hne⟩:=cA
  have hrc : repC part new true f = (0,f.text):=if_pos ⟨rfl,hne⟩
  have hre : zGQ part new true f = 0:=by unfold zGQ; rw [hrc]; rfl
  rw [hre,if_pos rfl] at hde
  rw [hrc] at hmt hot
  have hrf : repF part new true f = f:=by unfold repF; rw [hrc]
  rw [hrf] at hot
  by_cases ht : f.text = []
  ·rw [if_pos ht,List.append_nil] at hot
   refine za tT ?_; refine zB4 i (zZ f) hv1 rfl hfm (fun p hp=>?_)
   refine zAT (zZ f) hp rfl ?_; refine zG (v:=zZ f) (AV.cells (zZ f)) zD rfl rfl rfl rfl ?_; refine zC (AV.str f.text) (zE zD) rfl ?_; refine zI (hs _) ?_; refine zH ?_; refine zC (AV.str f.text) (zE zD) rfl ?_; refine zV (tN hne) <| zF ?_; refine zC (AV.str f.text) (zE zD) rfl ?_; refine zV (bne_eq_false_iff_eq.2 ht) ?_; refine zb (r:=i + 1) rfl tO ?_; refine zAf (RpS.mk (i + 1) v n) rfl ⟨hO.pushSet _ _,by simp only; omega,by rw [hot]; exact ho.pushSet _ _,hmt.symm,hde⟩ (by simp only; omega)
  ·rw [if_neg ht] at hot
   refine za tT ?_; refine zB4 i (zZ f) hv1 rfl hfm (fun p hp=>?_)
   refine zAT (zZ f) hp rfl ?_; refine zG (v:=zZ f) (AV.cells (zZ f)) zD rfl rfl rfl rfl ?_; refine zC (AV.str f.text) (zE zD) rfl ?_; refine zI (hs _) ?_; refine zH ?_; refine zC (AV.str f.text) (zE zD) rfl ?_; refine zV (tN hne) <| zF ?_; refine zC (AV.str f.text) (zE zD) rfl ?_; refine za (bne_iff_ne.2 ht) ?_; refine zC (zZ f) (zE zD) rfl ?_; refine zAv (vs':=[zZ f]) rfl rfl ?_; refine zB5 (H0:=H) (ys:=[zZ f]) ((ho.pushSet _ _).push _) ((hO.pushSet _ _).push _) zAt (by decide) (by simp only [List.length_map,List.length_cons,List.length_nil]; omega) (by simp) (fun v' H' ho' hO' _ _=>?_)
   have ho' : Owns H H' v' 3 ((zFK part new true (l.take (i + 1))).map zZ):=by rw [hot,List.map_append]; exact ho'
   refine zb (r:=i + 1) rfl tO ?_; refine zAf (RpS.mk (i + 1) v' n) rfl ⟨hO',by simp only; omega,ho',hmt.symm,hde⟩ (by simp only; omega)
 have hself : whole = true → f.text = part:=fun h=>Classical.byContradiction fun h2=>cA ⟨h,h2⟩
 by_cases cB : 0 < (zDI part new f.text).1
 case neg=>
  have hw : whole = false:=by
   cases hw : whole with
   | false=>rfl
   | true=>
    rw [hself hw,cnt_self part new hp] at cB
    exact absurd (by decide : 0 < 1) cB
  subst hw
  have hrc : repC part new false f = (0,f.text):=by unfold repC; rw [if_neg cA,if_neg cB]
  have hre : zGQ part new false f = 0:=by unfold zGQ; rw [hrc]; rfl
  rw [hre,if_pos rfl] at hde
  rw [hrc] at hmt hot
  have hrf : repF part new false f = f:=by unfold repF; rw [hrc]
  rw [hrf] at hot
  generalize (zDI part new f.text).1 = cn at *
  by_cases ht : f.text = []
  ·rw [if_pos ht,List.append_nil] at hot
   refine za tT ?_; refine zB4 i (zZ f) hv1 rfl hfm (fun p hp=>?_)
   refine zAT (zZ f) hp rfl ?_; refine zG (v:=zZ f) (AV.cells (zZ f)) zD rfl rfl rfl rfl ?_; refine zC (AV.str f.text) (zE zD) rfl ?_; refine zI (hs _) ?_; refine zF <| zV tF ?_; refine zC (AV.str f.text) (zE zD) rfl ?_; refine zV (bne_eq_false_iff_eq.2 ht) ?_; refine zb (r:=i + 1) rfl tO ?_; refine zAf (RpS.mk (i + 1) v n) rfl ⟨hO.pushSet _ _,by simp only; omega,by rw [hot]; exact ho.pushSet _ _,hmt.symm,hde⟩ (by simp only; omega)
  ·rw [if_neg ht] at hot
   refine za tT ?_; refine zB4 i (zZ f) hv1 rfl hfm (fun p hp=>?_)
   refine zAT (zZ f) hp rfl ?_; refine zG (v:=zZ f) (AV.cells (zZ f)) zD rfl rfl rfl rfl ?_; refine zC (AV.str f.text) (zE zD) rfl ?_; refine zI (hs _) ?_; refine zF <| zV tF ?_; refine zC (AV.str f.text) (zE zD) rfl ?_; refine za (bne_iff_ne.2 ht) ?_; refine zC (zZ f) (zE zD) rfl ?_; refine zAv (vs':=[zZ f]) rfl rfl ?_; refine zB5 (H0:=H) (ys:=[zZ f]) ((ho.pushSet _ _).push _) ((hO.pushSet _ _).push _) zAt (by decide) (by simp only [List.length_map,List.length_cons,List.length_nil]; omega) (by simp) (fun v' H' ho' hO' _ _=>?_)
   have ho' : Owns H H' v' 3 ((zFK part new false (l.take (i + 1))).map zZ):=by rw [hot,List.map_append]; exact ho'
   refine zb (r:=i + 1) rfl tO ?_; refine zAf (RpS.mk (i + 1) v' n) rfl ⟨hO',by simp only; omega,ho',hmt.symm,hde⟩ (by simp only; omega)
 have hrc : repC part new whole f = zDI part new f.text:=by unfold repC; rw [if_neg cA,if_pos cB]
 have hre : zGQ part new whole f = zBh (zDI part new f.text).2:=by unfold zGQ; rw [hrc,if_pos cB]
 rw [hre] at hde
 have hrf : repF part new whole f = ⟨f.col,f.row,(zDI part new f.text).2⟩:=by unfold repF; rw [hrc]
 rw [hrf,hrc] at hot
 rw [hrc] at hmt
 have h1 : whole = true → (zDI part new f.text).1 = 1:=fun h=>by rw [hself h,cnt_self part new hp]
 have htx:=hT (zDI part new f.text).2
 clear hT
 generalize (zDI part new f.text).1 = cn at *
 generalize (zDI part new f.text).2 = ct at *
 by_cases ce : zBh ct = 0
 ·rw [ce,if_pos rfl] at hde
  rw [ce] at htx
  have htx : ∀ H,C zAO [.str ct] H .nili H:=htx
  cases hw : whole with
  | true=>
   subst hw
   obtain rfl:=h1 rfl
   have hps:=hself rfl
   by_cases ht : ct = []
   ·rw [if_pos ht,List.append_nil] at hot
    refine za tT ?_; refine zB4 i (zZ f) hv1 rfl hfm (fun p hp=>?_)
    refine zAT (zZ f) hp rfl ?_; refine zG (v:=zZ f) (AV.cells (zZ f)) zD rfl rfl rfl rfl ?_; refine zC (AV.str f.text) (zE zD) rfl ?_; refine zI (hs _) ?_; refine zH ?_; refine zC (AV.str f.text) (zE zD) rfl ?_; refine za (tE hps) <| za tT ?_; refine zb (r:=n + 1) rfl tO ?_; refine zC (AV.str f.text) (zE zD) rfl ?_; refine zI (ha _) ?_; refine zG (v:=AV.str ct) [zf f.col,zf f.row,AV.str ct] (zE zD) rfl rfl rfl rfl ?_
    refine zC (AV.str ct) (zE (zE zD)) rfl ?_; refine zI (htx _) ?_; refine zT rfl ?_; refine zF ?_; refine zC (AV.str ct) (zE (zE zD)) rfl ?_; refine zV (bne_eq_false_iff_eq.2 ht) ?_; refine zb (r:=i + 1) rfl tO ?_; refine zAf (RpS.mk (i + 1) v (n + 1)) rfl ⟨(hO.pushSet _ _).set hO.1 _,by simp only; omega,by rw [hot]; exact (ho.pushSet _ _).setBox (zE zD) _,hmt.symm,hde⟩ (by simp only; omega)
   ·rw [if_neg ht] at hot
    refine za tT ?_; refine zB4 i (zZ f) hv1 rfl hfm (fun p hp=>?_)
    refine zAT (zZ f) hp rfl ?_; refine zG (v:=zZ f) (AV.cells (zZ f)) zD rfl rfl rfl rfl ?_; refine zC (AV.str f.text) (zE zD) rfl ?_; refine zI (hs _) ?_; refine zH ?_; refine zC (AV.str f.text) (zE zD) rfl ?_; refine za (tE hps) <| za tT ?_; refine zb (r:=n + 1) rfl tO ?_; refine zC (AV.str f.text) (zE zD) rfl ?_; refine zI (ha _) ?_; refine zG (v:=AV.str ct) [zf f.col,zf f.row,AV.str ct] (zE zD) rfl rfl rfl rfl ?_
    refine zC (AV.str ct) (zE (zE zD)) rfl ?_; refine zI (htx _) ?_; refine zT rfl ?_; refine zF ?_; refine zC (AV.str ct) (zE (zE zD)) rfl ?_; refine za (bne_iff_ne.2 ht) ?_; refine zC (AV.agg [zf f.col,zf f.row,AV.str ct]) (zE (zE zD)) rfl ?_; refine zAv (vs':=[AV.agg [zf f.col,zf f.row,AV.str ct]]) rfl rfl ?_; refine zB5 (H0:=H) (ys:=[AV.agg [zf f.col,zf f.row,.str ct]]) (((ho.pushSet _ _).setBox (zE zD) _).push _) (((hO.pushSet _ _).set hO.1 _).push _) zAt (by decide) (by simp only [List.length_map,List.length_cons,List.length_nil]; omega) (by simp) (fun v' H' ho' hO' _ _=>?_)
    have ho' : Owns H H' v' 3 ((zFK part new true (l.take (i + 1))).map zZ):=by rw [hot,List.map_append]; exact ho'
    refine zb (r:=i + 1) rfl tO ?_; refine zAf (RpS.mk (i + 1) v' (n + 1)) rfl ⟨hO',by simp only; omega,ho',hmt.symm,hde⟩ (by simp only; omega)
  | false=>
   subst hw
   by_cases ht : ct = []
   ·rw [if_pos ht,List.append_nil] at hot
    refine za tT ?_; refine zB4 i (zZ f) hv1 rfl hfm (fun p hp=>?_)
    refine zAT (zZ f) hp rfl ?_; refine zG (v:=zZ f) (AV.cells (zZ f)) zD rfl rfl rfl rfl ?_; refine zC (AV.str f.text) (zE zD) rfl ?_; refine zI (hs _) ?_; refine zF <| za tT ?_; refine zb (r:=n + cn) rfl tO ?_; refine zC (AV.str f.text) (zE zD) rfl ?_; refine zI (ha _) ?_; refine zG (v:=AV.str ct) [zf f.col,zf f.row,AV.str ct] (zE zD) rfl rfl rfl rfl ?_; refine zC (AV.str ct) (zE (zE zD)) rfl ?_
    refine zI (htx _) ?_; refine zT rfl ?_; refine zF ?_; refine zC (AV.str ct) (zE (zE zD)) rfl ?_; refine zV (bne_eq_false_iff_eq.2 ht) ?_; refine zb (r:=i + 1) rfl tO ?_; refine zAf (RpS.mk (i + 1) v (n + cn)) rfl ⟨(hO.pushSet _ _).set hO.1 _,by simp only; omega,by rw [hot]; exact (ho.pushSet _ _).setBox (zE zD) _,hmt.symm,hde⟩ (by simp only; omega)
   ·rw [if_neg ht] at hot
    refine za tT ?_; refine zB4 i (zZ f) hv1 rfl hfm (fun p hp=>?_)
    refine zAT (zZ f) hp rfl ?_; refine zG (v:=zZ f) (AV.cells (zZ f)) zD rfl rfl rfl rfl ?_; refine zC (AV.str f.text) (zE zD) rfl ?_; refine zI (hs _) ?_; refine zF <| za tT ?_; refine zb (r:=n + cn) rfl tO ?_; refine zC (AV.str f.text) (zE zD) rfl ?_; refine zI (ha _) ?_; refine zG (v:=AV.str ct) [zf f.col,zf f.row,AV.str ct] (zE zD) rfl rfl rfl rfl ?_; refine zC (AV.str ct) (zE (zE zD)) rfl ?_
    refine zI (htx _) ?_; refine zT rfl ?_; refine zF ?_; refine zC (AV.str ct) (zE (zE zD)) rfl ?_; refine za (bne_iff_ne.2 ht) ?_; refine zC (AV.agg [zf f.col,zf f.row,AV.str ct]) (zE (zE zD)) rfl ?_; refine zAv (vs':=[AV.agg [zf f.col,zf f.row,AV.str ct]]) rfl rfl ?_; refine zB5 (H0:=H) (ys:=[AV.agg [zf f.col,zf f.row,.str ct]]) (((ho.pushSet _ _).setBox (zE zD) _).push _) (((hO.pushSet _ _).set hO.1 _).push _) zAt (by decide) (by simp only [List.length_map,List.length_cons,List.length_nil]; omega) (by simp) (fun v' H' ho' hO' _ _=>?_)
    have ho' : Owns H H' v' 3 ((zFK part new false (l.take (i + 1))).map zZ):=by rw [hot,List.map_append]; exact ho'
    refine zb (r:=i + 1) rfl tO ?_; refine zAf (RpS.mk (i + 1) v' (n + cn)) rfl ⟨hO',by simp only; omega,ho',hmt.symm,hde⟩ (by simp only; omega)
 ·rw [if_neg ce] at hde
  have hee : eV (zBh ct) = zD6 (zBh ct : Nat):=by unfold eV; rw [if_neg ce]
  rw [hee] at htx
  rw [hde] at htx ce
  rw [if_neg ce,if_neg ce]
  have hee : eV e = zD6 (e : Nat):=by unfold eV; rw [if_neg ce]
  rw [hee]
  cases hw : whole with
  | true=>
   subst hw
   obtain rfl:=h1 rfl
   have hps:=hself rfl
   refine za tT ?_; refine zB4 i (zZ f) hv1 rfl hfm (fun p hp=>?_)
   refine zAT (zZ f) hp rfl ?_; refine zG (v:=zZ f) (AV.cells (zZ f)) zD rfl rfl rfl rfl ?_; refine zC (AV.str f.text) (zE zD) rfl ?_; refine zI (hs _) ?_; refine zH ?_; refine zC (AV.str f.text) (zE zD) rfl ?_; refine za (tE hps) <| za tT ?_; refine zb (r:=n + 1) rfl tO ?_; refine zC (AV.str f.text) (zE zD) rfl ?_; refine zI (ha _) ?_; refine zG (v:=AV.str ct) [zf f.col,zf f.row,AV.str ct] (zE zD) rfl rfl rfl rfl ?_
   refine zC (AV.str ct) (zE (zE zD)) rfl ?_; refine zI (htx _) ?_; refine zT rfl ?_; refine zH ?_
   exact zBX rfl rfl rfl rfl ((hO.pushSet _ _).set hO.1 _)
  | false=>
   subst hw
   refine za tT ?_; refine zB4 i (zZ f) hv1 rfl hfm (fun p hp=>?_)
   refine zAT (zZ f) hp rfl ?_; refine zG (v:=zZ f) (AV.cells (zZ f)) zD rfl rfl rfl rfl ?_; refine zC (AV.str f.text) (zE zD) rfl ?_; refine zI (hs _) ?_; refine zF <| za tT ?_; refine zb (r:=n + cn) rfl tO ?_; refine zC (AV.str f.text) (zE zD) rfl ?_; refine zI (ha _) ?_; refine zG (v:=AV.str ct) [zf f.col,zf f.row,AV.str ct] (zE zD) rfl rfl rfl rfl ?_; refine zC (AV.str ct) (zE (zE zD)) rfl ?_
   refine zI (htx _) ?_; refine zT rfl ?_; refine zH ?_
   exact zBX rfl rfl rfl rfl ((hO.pushSet _ _).set hO.1 _)
end
end Go.AM
set_option maxRecDepth 20000
namespace Go.AM
theorem gone_ok {c : UInt8} {new : Bs} (hn : c ∉ new) {l : List Fil} (h : zCq l [c] new false = 0) : Goods l ∧ Goods (zFK [c] new false l) ∧ replM l [c] new false = repM [c] new false l ∧ replV l [c] new false = zFh 3 ((zFK [c] new false l).map zZ) ∧
  (zGP [c] false l).length ≤ repM [c] new false l ∧ (repM [c] new false l = 0 ↔ zGP [c] false l = []) ∧ zGP [c] false (zFK [c] new false l) = [] ∧ (diffL l (zFK [c] new false l)).map zB1 = (zGP [c] false l).map zB1:=by
 have h0 : zAV l = 0:=by
  unfold zCq at h
  by_cases k : zAV l ≠ 0
  ·rw [if_pos k] at h; exact absurd h k
  ·omega
 have hg:=goods_of h0
 have he : repE [c] new false l = 0:=by
  unfold zCq at h
  rw [if_neg tO] at h
  by_cases k : 200 < ([c] : Bs).length ∨ 200 < new.length
  ·rw [if_pos k] at h; cases h
  ·rw [if_neg k,if_neg (by simp)] at h; exact h
 have hr:=repO_goods hg he
 obtain ⟨m1,m2⟩:=gone_many c new l
 exact ⟨hg,hr,if_pos h,if_pos h,m1,m2,gone_none hn l,gone_keys hn hg (cellsS_is _)⟩
theorem findV_ok {l : List Fil} {c : UInt8} (h : Goods l) : zGz l [c] = 0 ∧ findV l [c] false = zFh 2 ((zGP [c] false l).map fcel):=by
 have : zGz l [c] = 0:=by
  unfold zGz
  rw [if_neg (by rw [h.check]; simp),if_neg (by simp)]
 exact ⟨this,if_pos this⟩
theorem small_rep : zCq zCP [50] [51] false = 0 ∧ repM [50] [51] false zCP = 1 ∧ zFK [50] [51] false zCP = [⟨1,1,[51]⟩,⟨2,1,[61,65,49,43,49]⟩]:=by decide +kernel
theorem sBytesV {H : Heap} {v : AV} {u : List UInt8} {K : AV → Heap → Prop} (hv : view H 1 v = some (u.map zAS)) (q : K (.str u) H) : actP .bytesToStr [v] H K:=
 sAct (by simp only [astep,hv,zFE,Option.map_some]) q
section
variable {C : CSpec} {GT : Nat → Option AV}
set_option maxHeartbeats 16000000 in
theorem fgone_ev (hC : ∀ H,C zBo [] H (.lst (some false) 3 (zCP.map zZ)) H)
  (hR : ∀ (lv : AV) (l : List Fil) (part new : Bs),(∀ H,view H 3 lv = some (l.map zZ)) → ∀ H,C zAl [lv,.str part,.str new,.bool false] H (.tup [replV l part new false,zP (replM l part new false),eV (zCq l part new false)]) H)
  (hF : ∀ (lv : AV) (l : List Fil) (part : Bs),(∀ H,view H 3 lv = some (l.map zZ)) → ∀ H,C zBd [lv,.str part,.bool false] H (.tup [findV l part false,eV (zGz l part)]) H)
  (hD : ∀ (av bv : AV) (a b : List Fil),zCJ av 3 (a.map zZ) → zCJ bv 3 (b.map zZ) → ∀ H,C zCC [av,bv] H (.tup [diffV a b,eV (zAN [a,b])]) H)
  (lv : AV) (l : List Fil) (hlv : zCJ lv 3 (l.map zZ)) (c : UInt8) (new : Bs) (hnl : new.length ≤ 140737488355328) (H : Heap) : EFun C GT zCx [lv,zAS c,.str new] H (.bool true) H:=by
 have h0:=hC H
 obtain ⟨s1,s2,s3⟩:=small_rep
 have hsl : zCJ (.lst (some false) 3 (zCP.map zZ)) 3 (zCP.map zZ):=⟨_,_,rfl,.inl rfl⟩
 have h1:=hR (.lst (some false) 3 (zCP.map zZ)) zCP [50] [51] (fun H=>hsl.view H) H
 have e1 : replV zCP [50] [51] false = zFh 3 ((zFK [50] [51] false zCP).map zZ):=if_pos s1
 have e2 : replM zCP [50] [51] false = repM [50] [51] false zCP:=if_pos s1
 rw [e1,e2,s1,s2,s3] at h1
 have h1' : C zAl [.lst (some false) 3 (zCP.map zZ),.str [50],.str [51],.bool false] H (.tup [.lst (some false) 3 [zZ ⟨1,1,[51]⟩,zZ ⟨2,1,[61,65,49,43,49]⟩],zP 1,.nili]) H:=h1
 clear h1 s1 s2 s3 e1 e2 hsl
 generalize AV.lst (some false) 3 (zCP.map zZ) = sv at *
 obtain ⟨fv,hfv⟩ : ∃ fv,AV.lst (some false) 3 [zZ ⟨1,1,[51]⟩,zZ ⟨2,1,[61,65,49,43,49]⟩] = fv:=⟨_,rfl⟩
 have hfl : zCJ fv 3 [zZ ⟨1,1,[51]⟩,zZ ⟨2,1,[61,65,49,43,49]⟩]:=⟨_,_,hfv.symm,.inl rfl⟩
 rw [hfv] at h1'
 clear hfv
 have hnil : ∀ k,zCJ (.lst (some true) 0 []) k []:=fun k=>⟨_,_,rfl,.inr rfl⟩
 refine ze ?_; refine zI h0 ?_; refine zI h1' ?_; refine zT rfl ?_; refine zT rfl ?_; refine zT rfl ?_; refine zT rfl ?_; refine zF ?_; refine zF ?_; refine zF ?_; refine sLenO 2 hfl rfl ?_; refine zF ?_; refine zF ?_; refine sIdxO 0 (zZ ⟨1,1,[51]⟩) hfl rfl rfl ?_; refine zCN (.str [51]) rfl ?_; refine zF ?_; refine zF ?_; refine zAv (vs':=[zAS c]) rfl rfl ?_; refine sBytesV (u:=[c]) zAt ?_
 have hO : Old H (H ++ [ABlk.row 1 [zAS c]]):=(Old.refl H).push _
 generalize H ++ [ABlk.row 1 [zAS c]] = H1 at *
 refine zCI (fun i : Nat=>[(11,zP i),(1,zAS c),(2,.str new),(0,lv),(10,.str [c])]) (fun i H'=>H' = H1 ∧ i ≤ new.length ∧ c ∉ new.take i) (fun i=>new.length - i) 0 rfl ⟨rfl,by omega,by simp⟩ (fun i H2 hi=>?_)
 obtain ⟨hH,hi,hno⟩:=hi
 subst hH
 dsimp only
 by_cases hlt : i < new.length
 ·obtain ⟨b,hb⟩ : ∃ b,new[i]? = some b:=⟨_,List.getElem?_eq_getElem hlt⟩
  by_cases e : b = c
  ·have ex : ((b.toNat : Int) == (c.toNat : Int)) = true:=by rw [e]; simp
   refine za tT ?_; refine zBB (i:=i) rfl hb ?_; refine za ex ?_
   exact zBX rfl rfl rfl rfl hO
  ·have ex : ((b.toNat : Int) == (c.toNat : Int)) = false:=by
    rw [beq_eq_false_iff_ne]
    intro k
    exact e (UInt8.toNat_inj.1 (Int.ofNat_inj.1 k))
   refine za tT ?_; refine zBB (i:=i) rfl hb ?_; refine zV ex ?_; refine zb (r:=i + 1) rfl tO ?_; refine zAf (i + 1) rfl ⟨rfl,by omega, ?_⟩ tO
   rw [List.take_succ,hb,List.mem_append]
   rintro (k | k)
   ·exact hno k
   ·simp at k; exact e k.symm
 ·have hn : c ∉ new:=by rwa [List.take_of_length_le tO] at hno
  have h2:=hR lv l [c] new (fun H=>hlv.view H) H2
  have h3:=hF lv l [c] (fun H=>hlv.view H) H2
  by_cases r0 : zCq l [c] new false = 0
  ·obtain ⟨g1,g2,g3,g4,g5,g6,g7,g8⟩:=gone_ok hn r0
   obtain ⟨f1,f2⟩:=findV_ok (c:=c) g1
   obtain ⟨f3,f4⟩:=findV_ok (c:=c) g2
   obtain ⟨d1,d2⟩:=diffV_ok g1 g2
   rw [r0,g3,g4] at h2
   rw [f1,f2] at h3
   have hkn : (zGP [c] false l).length ≤ 200:=Nat.le_trans (List.length_filter_le _ _) g1.len
   generalize zFK [c] new false l = R at *
   obtain ⟨mv,hmv⟩ : ∃ v,zFh 3 (R.map zZ) = v:=⟨_,rfl⟩
   have hml : zCJ mv 3 (R.map zZ):=by rw [← hmv]; exact lstF_of _ _
   have h4:=hF mv R [c] (fun H=>hml.view H) H2
   rw [f3,f4,g7] at h4
   have hd:=hD lv mv l R hlv hml H2
   rw [d1,d2] at hd
   have hdl : ((diffL l R).map zZ).length = (zGP [c] false l).length:=by
    have:=congrArg List.length g8
    simpa using this
   have hcell : ∀ (i : Nat) (f : Fil),(zGP [c] false l)[i]? = some f → ∃ g,(diffL l R)[i]? = some g ∧ zB1 g = zB1 f:=fun i f hf=>by
    have h9 : ((diffL l R).map zB1)[i]? = some (zB1 f):=by rw [g8,List.getElem?_map,hf]; rfl
    rw [List.getElem?_map] at h9
    exact Option.map_eq_some_iff.1 h9
   generalize repM [c] new false l = k at *
   generalize zGP [c] false l = F at *
   generalize diffL l R = E at *
   have hFn : (F.map fcel).length = F.length:=List.length_map _
   obtain ⟨Fv,hFv⟩ : ∃ v,zFh 2 (F.map fcel) = v:=⟨_,rfl⟩
   have hFl : zCJ Fv 2 (F.map fcel):=by rw [← hFv]; exact lstF_of _ _
   obtain ⟨Ev,hEv⟩ : ∃ v,zFh 3 (E.map zZ) = v:=⟨_,rfl⟩
   have hEl : zCJ Ev 3 (E.map zZ):=by rw [← hEv]; exact lstF_of _ _
   have h2' : C zAl [lv,.str [c],.str new,.bool false] H2 (.tup [mv,zP k,.nili]) H2:=by rw [← hmv]; exact h2
   have h3' : C zBd [lv,.str [c],.bool false] H2 (.tup [Fv,.nili]) H2:=by rw [← hFv]; exact h3
   have h4' : C zBd [mv,.str [c],.bool false] H2 (.tup [.lst (some true) 0 [],.nili]) H2:=h4
   have hd' : C zCC [lv,mv] H2 (.tup [Ev,.nili]) H2:=by rw [← hEv]; exact hd
   have hk0 : ((k : Int) == 0) = ((F.length : Int) == 0):=by
    rw [Bool.eq_iff_iff,beq_iff_eq,beq_iff_eq]
    have h7 : k = 0 ↔ F.length = 0:=g6.trans List.length_eq_zero_iff.symm
    omega
   have hkx : negB true (((k : Int) == 0) == ((F.length : Int) == 0)) = false:=by rw [hk0]; simp [negB]
   clear h2 h3 h4 hd hFv hEv hmv hR hF hD hC f1 f2 f3 f4 d1 d2 g3 g4 g7
   refine zV tF ?_; refine zI h2' ?_; refine zT rfl ?_; refine zT rfl ?_; refine zT rfl ?_; refine zT rfl ?_; refine zF ?_; refine zI h3' ?_; refine zT rfl ?_; refine zT rfl ?_; refine zI h4' ?_; refine zT rfl ?_; refine zT rfl ?_; refine zT rfl ?_; refine zF ?_; refine zT rfl ?_; refine zF ?_; refine zF ?_; refine sLenO 0 (hnil 2) rfl ?_; refine zF ?_; refine zV (bne_eq_false_iff_eq.2 rfl) ?_; refine sLenO F.length hFl hFn ?_
   refine zF ?_; refine zV hkx ?_; refine sLenO F.length hFl hFn ?_; refine zF ?_; refine zV tF ?_; refine zI hd' ?_; refine zT rfl ?_; refine zT rfl ?_; refine zT rfl ?_; refine zF ?_; refine sLenO F.length hEl hdl ?_; refine sLenO F.length hFl hFn ?_; refine zF ?_; refine zV (bne_eq_false_iff_eq.2 rfl) ?_; refine zCI (fun i : Nat=>[(19,zP i),(14,Fv),(18,Ev)]) (fun i H'=>H' = H2 ∧ i ≤ F.length) (fun i=>F.length - i) 0 rfl ⟨rfl,by omega⟩ (fun i H3 hi3=>?_)
   obtain ⟨hH3,hi3⟩:=hi3
   subst hH3
   try dsimp only
   by_cases hlt3 : i < F.length
   ·obtain ⟨f,hf⟩ : ∃ f,F[i]? = some f:=⟨_,List.getElem?_eq_getElem hlt3⟩
    obtain ⟨g,hg,hgf⟩:=hcell i f hf
    have hfm : (F.map fcel)[i]? = some (zB7 f.col f.row):=by rw [List.getElem?_map,hf]; rfl
    have hgm : (E.map zZ)[i]? = some (zZ g):=by rw [List.getElem?_map,hg]; rfl
    have q1 : g.col = f.col:=congrArg Prod.fst hgf
    have q2 : g.row = f.row:=congrArg Prod.snd hgf
    have hx : negB true (g.col == f.col && (g.row == f.row && true)) = false:=by rw [q1,q2]; simp [negB]
    refine sLenO F.length hEl hdl ?_; refine za tT ?_; refine sIdxO i (zZ g) hEl rfl hgm ?_; refine zCN (zB7 g.col g.row) rfl ?_; refine sIdxO i (zB7 f.col f.row) hFl rfl hfm ?_; refine zCN (zB7 f.col f.row) rfl ?_; refine zT rfl ?_; refine zV hx ?_; refine zb (r:=i + 1) rfl tO ?_; refine zAf (i + 1) rfl ⟨rfl,by omega⟩ tO
   ·refine sLenO F.length hEl hdl ?_; refine zV tF ?_
    exact zBX rfl rfl rfl rfl hO
  ·have he : eV (zCq l [c] new false) = zD6 (zCq l [c] new false : Nat):=by unfold eV; rw [if_neg r0]
   have e1 : replV l [c] new false = .lst (some true) 0 []:=if_neg r0
   have e2 : replM l [c] new false = 0:=if_neg r0
   rw [he,e1,e2] at h2
   generalize zCq l [c] new false = n at *
   refine zV tF ?_; refine zI h2 ?_; refine zT rfl ?_; refine zT rfl ?_; refine zT rfl ?_; refine zT rfl ?_; refine zH ?_
   exact zBX rfl rfl rfl rfl hO
end
end Go.AM
