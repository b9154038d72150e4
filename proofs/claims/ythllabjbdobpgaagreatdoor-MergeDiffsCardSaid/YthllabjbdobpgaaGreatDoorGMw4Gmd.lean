/- Several texts of mine in one (Mw4, Mw9, Rd4, Rd5, Gmd). Own work. -/
import Derived.Test.YthllabjbdobpgaaGreatDoorGMw3Rd2
import Derived.Test.YthllabjbdobpgaaGreatDoorGInsDlg
set_option linter.all false
set_option maxRecDepth 20000
namespace Go.AM
theorem withS_grow (l : List Fil) (c r : Int) (t : Bs) : (zBj l c r t).length ≤ l.length + 1:=by
 have h : ∀ l : List Fil,(l.filter (aheadC c r)).length + (l.filter (zAg c r)).length ≤ l.length:=fun l=>by
  induction l with
  | nil=>simp
  | cons f l ih=>
   simp only [zPY,zMu]
   by_cases h1 : aheadC c r f = true
   ·have h2 : zAg c r f = false:=by
     unfold aheadC at h1
     unfold zAg
     simp only [zMz] at h1
     exact tF
    rw [zMt h1,h2,zMq (by simp),zMu]
    omega
   ·rw [zMq h1]
    split <;> (try simp only [zMu]) <;> omega
 have:=h l
 unfold zBj
 simp only [zM3]
 split <;> simp <;> omega
theorem zHs : ∀ (d l : List Fil),(zBg l d).length ≤ l.length + d.length
 | [],l=>by simp [zBg]
 | g :: d,l=>by
  have h1:=zHs d (zBj l g.col g.row g.text)
  have h2:=withS_grow l g.col g.row g.text
  have : zBg l (g :: d) = zBg (zBj l g.col g.row g.text) d:=rfl
  rw [this,zMu]
  omega
def ShV (v : AV) (l : List Fil) : Prop:=∃ q k,v = .lst (some q) k (l.map zR) ∧ (k = 3 ∨ l = []) ∧ (q = true → l = [])
theorem ShV.of {v : AV} {l : List Fil} (h : ShV v l) : zBI v 3 (l.map zR):=by
 obtain ⟨q,k,rfl,h1,_⟩:=h
 exact ⟨_,_,rfl,h1.imp id fun h=>by rw [h]; rfl⟩
theorem ShV.view {v : AV} {l : List Fil} (h : ShV v l) (H : Heap) : view H 3 v = some (l.map zR):=h.of.view H
section
variable {C : CSpec} {GT : Nat → Option AV}
def nilQ (q : Bool) (d : List Fil) : Bool:=q && d.all fun f=>decide (f.text = [])
theorem zMn {q : Bool} {a : List Fil} (hq : q = true → a = []) : ∀ {d : List Fil},nilQ q d = true → zBg a d = []:=by
 intro d
 unfold nilQ
 rw [zMs]
 rintro ⟨h1,h2⟩
 obtain rfl:=hq h1
 induction d with
 | nil=>rfl
 | cons g d ih=>
  rw [zOK,zMs,zMz] at h2
  have : zBg [] (g :: d) = zBg (zBj [] g.col g.row g.text) d:=rfl
  rw [this,h2.1,withS_nil]
  exact ih h2.2
end
end Go.AM
set_option maxRecDepth 20000
namespace Go.AM
def badP : Option Fil → Fil → Bool
 | none,_=>false
 | some g,f=>!lessC g f
def zMo (prev : Option Fil) (f : Fil) : Nat:=if okC f.col f.row = false then 1 else if badP prev f = true then 5 else zAo f.text
def appF (prev : Option Fil) : List Fil → Nat
 | []=>0
 | f :: r=>if zMo prev f = 0 then appF (some f) r else zMo prev f
def zJs (d : List Fil) : Nat → Option Fil
 | 0=>none
 | i + 1=>d[i]?
theorem appF_drop (d : List Fil) (i : Nat) (f : Fil) (h : d[i]? = some f) : appF (zJs d i) (d.drop i) = if zMo (zJs d i) f = 0 then appF (zJs d (i + 1)) (d.drop (i + 1)) else zMo (zJs d i) f:=by
 have hi:=(zg h).1
 rw [zN0 hi,(zg h).2]
 show (if zMo (zJs d i) f = 0 then appF (some f) (d.drop (i + 1)) else _) = _
 rw [show zJs d (i + 1) = some f from h]
theorem app_good : ∀ (d : List Fil) (prev : Option Fil),appF prev d = 0 → Srtd d ∧ (∀ f ∈ d,okC f.col f.row = true ∧ zAo f.text = 0) ∧ ∀ g,prev = some g → ∀ f ∈ d,g.row < f.row ∨ (g.row = f.row ∧ g.col < f.col)
 | [],_,_=>⟨List.Pairwise.nil,by simp,by simp⟩
 | f :: d,prev,h=>by
  unfold appF at h
  by_cases h0 : zMo prev f = 0
  ·rw [zMt h0] at h
   obtain ⟨s,e,o⟩:=app_good d (some f) h
   unfold zMo at h0
   by_cases h1 : okC f.col f.row = false
   ·rw [zMt h1] at h0; cases h0
   ·rw [zMq h1] at h0
    have h1 : okC f.col f.row = true:=by simpa using h1
    by_cases h2 : badP prev f = true
    ·rw [zMt h2] at h0; cases h0
    ·rw [zMq h2] at h0
     have hp : ∀ g,prev = some g → g.row < f.row ∨ (g.row = f.row ∧ g.col < f.col):=fun g hg=>by
      subst hg
      exact (zMf g f).1 (by simpa [badP] using h2)
     refine ⟨List.Pairwise.cons (fun g hg=>o f rfl g hg) s,fun g hg=>?_,fun p hpp g hg=>?_⟩
     ·rcases zNe.1 hg with rfl | hg
      ·exact ⟨h1,h0⟩
      ·exact e g hg
     ·rcases zNe.1 hg with rfl | hg
      ·exact hp p hpp
      ·have k1:=hp p hpp
       have k2:=o f rfl g hg
       omega
  ·rw [zMq h0] at h; exact absurd h h0
theorem gridK_len : gridK.length = 2574:=by decide +kernel
theorem app_len {d : List Fil} (hs : Srtd d) (h : ∀ f ∈ d,okC f.col f.row = true) : d.length ≤ 2574:=by
 have e : d.map zDa = gridK.filter fun p=>decide (p ∈ d.map zDa):=asc_ext (srtd_keys hs) (gridK_asc.filter _) fun p=>by
  rw [zNx,zMz,gridK_mem]
  constructor
  ·intro k
   obtain ⟨f,hf,rfl⟩:=zNh.1 k
   exact ⟨h f hf,k⟩
  ·exact fun k=>k.2
 have h1:=zNF List.length e
 rw [zMx] at h1
 have h2:=zOP (fun p=>decide (p ∈ d.map zDa)) gridK
 rw [gridK_len] at h2
 omega
def zFO (a d : List Fil) : Nat:=if zAP a ≠ 0 then zAP a else if appF none d ≠ 0 then appF none d else if 200 < (zBg a d).length then 4 else 0
def zIN (q : Bool) (a d : List Fil) : AV:=if zFO a d = 0 then .tup [opV (nilQ q d) (zBg a d),.nili] else .tup [.lst (some true) 0 [],zEJ (zFO a d : Nat)]
theorem zGD {q : Bool} {a d : List Fil} {R : Nat} (h0 : zAP a = 0) (h : appF none d = R) (hR : R ≠ 0) : zIN q a d = .tup [.lst (some true) 0 [],zEJ (R : Nat)]:=by
 have e : zFO a d = R:=by
  unfold zFO
  rw [zMq tO,h,zMt hR]
 unfold zIN
 rw [e,zMq hR]
theorem applyV_end {q : Bool} {a d : List Fil} (h0 : zAP a = 0) (h : appF none d = 0) : zIN q a d = if 200 < (zBg a d).length then .tup [.lst (some true) 0 [],zEJ 4] else .tup [opV (nilQ q d) (zBg a d),.nili]:=by
 unfold zIN zFO
 rw [zMq (by omega : ¬ zAP a ≠ 0),zMq (by omega : ¬ appF none d ≠ 0)]
 by_cases k : 200 < (zBg a d).length
 ·rw [zMt k,zMt k,zMq (by decide)]; rfl
 ·rw [zMq k,zMq k,zMt rfl]
section
variable {C : CSpec} {GT : Nat → Option AV}
set_option maxHeartbeats 4000000 in
theorem applyG_ev (hM : MergC C) (hA : ∀ c r H,C zBE [zn c r] H (if okC c r = true then .nili else zEJ 1) H) (hL : ∀ (a b : Fil) H,C zDz [zn a.col a.row,zn b.col b.row] H (.bool (lessC a b)) H)
  (hT : ∀ s H,C zA1 [.str s] H (eV (zAo s)) H)
  (hW : ∀ q k (l : List Fil) c r t H,(k = 3 ∨ l = []) → (q = true → l = []) → l.length ≤ 3000 → Srtd l → C zFA [.lst (some q) k (l.map zR),zn c r,.str t] H (opV (q && decide (t = [])) (zBj l c r t)) H)
  (hC0 : ∀ k H,C zZ [.lst (some true) k []] H (.lst (some true) 0 []) H)
  (hC1 : ∀ k (l : List Fil) H,(k = 3 ∨ l = []) → l.length ≤ 3000 → C zZ [.lst (some false) k (l.map zR)] H (.sl (some false) (H.length + 1) 3 0 l.length) ((H ++ [ABlk.row 3 []]).set H.length .dead ++ [.row 3 (l.map zR)]))
  (q : Bool) (k : Nat) (dv : AV) (a d : List Fil) (hk : k = 3 ∨ a = []) (hq : q = true → a = []) (hdv : zBI dv 3 (d.map zR)) (hdB : d.length ≤ 140737488355328) (H : Heap) :
  EFun C GT zJF [.lst (some q) k (a.map zR),dv] H (zIN q a d) H:=by
 have hav : zBI (.lst (some q) k (a.map zR)) 3 (a.map zR):=⟨_,_,rfl,hk.imp id fun h=>by rw [h]; rfl⟩
 obtain ⟨av,hav0⟩ : ∃ av,AV.lst (some q) k (a.map zR) = av:=⟨_,rfl⟩
 rw [hav0] at hav
 have fra : ∀ H,zIt 0 [av] H = some ([av],H):=fun H=>by
  obtain ⟨q,k,rfl,_⟩:=hav
  rfl
 have hel : [av].all (fun v=>v.elem 1) = true:=by
  obtain ⟨q,k,rfl,_⟩:=hav
  rfl
 have hck:=hM.check (.sl (some false) H.length 1 0 [av].length) [av] [a] (H ++ [.row 1 [av]]) zAM rfl (by simp) (fun i x l hx hl=>by
  match i,hx,hl with
  | 0,hx,hl=>cases hx; cases hl; exact ⟨hav.cells,hav.view _⟩
  | i + 1,hx,_=>simp at hx)
 have ca : zAb [a] = zAP a:=by
  unfold zAb
  by_cases k : zAP a = 0
  ·rw [zMt k,k]; rfl
  ·rw [zMq k]
 rw [ca] at hck
 have hdm : (d.map zR).length = d.length:=zMx _
 clear hM
 rw [hav0]
 by_cases c0 : zAP a = 0
 case neg=>
  have he : eV (zAP a) = zEJ (zAP a : Nat):=by unfold eV; rw [zMq c0]
  have hr : zIN q a d = .tup [.lst (some true) 0 [],zEJ (zAP a : Nat)]:=by
   unfold zIN zFO
   rw [zMt c0,zMq c0]
  rw [hr]
  rw [he] at hck
  generalize zAP a = n at *
  clear hA hL hT hW hC0 hC1
  refine za ?_; refine zAF (fra _) hel ?_; refine zI hck ?_; refine zl rfl ?_; refine zG ?_
  exact zBN rfl rfl rfl rfl ((Old.refl _).push _)
 have hg:=zJq c0
 have hla:=hg.len
 have hck' : C zCv [.sl (some false) H.length 1 0 [av].length] (H ++ [.row 1 [av]]) .nili (H ++ [.row 1 [av]]):=by rw [c0] at hck; exact hck
 obtain ⟨R,hR⟩ : ∃ R,appF none d = R:=⟨_,rfl⟩
 refine za ?_; refine zAF (fra _) hel ?_; refine zI hck' ?_; refine zl rfl ?_; refine zF ?_; refine zAz d.length hdv hdm ?_; refine zBM (fun i : Nat=>[(20,zK i),(1,dv),(18,dv),(0,av),(19,zK d.length)]) (fun i H'=>Old H H' ∧ i ≤ d.length ∧ appF (zJs d i) (d.drop i) = R) (fun i=>d.length - i) 0 rfl ⟨(Old.refl H).push _,by simp,hR⟩ (fun i H1 hi=>?_)
 obtain ⟨hO,hi,hde⟩:=hi
 dsimp only
 by_cases hlt : i < d.length
 ·obtain ⟨g,hgi⟩ : ∃ g,d[i]? = some g:=⟨_,zMr hlt⟩
  have hgm : (d.map zR)[i]? = some (zR g):=by rw [zM2,hgi]; rfl
  rw [appF_drop d i g hgi] at hde
  have ha:=fun H=>hA g.col g.row H
  have ht:=fun H=>hT g.text H
  cases i with
  | zero=>
   have hx : zMo (zJs d 0) g = if okC g.col g.row = false then 1 else zAo g.text:=rfl
   cases h1 : okC g.col g.row with
   | false=>
    rw [h1,zMt rfl] at hx
    rw [hx,zMq (by decide)] at hde
    rw [h1] at ha
    have ha : ∀ H,C zBE [zn g.col g.row] H (zEJ 1) H:=ha
    rw [zGD c0 hR tO,← hde]
    clear ht hL hT hW
    refine zc tT ?_; refine zBP 0 _ hdv rfl hgm ?_; refine zi (zR g) rfl ?_; refine zH (v:=zR g) (AV.cells (zR g)) zB rfl rfl rfl rfl ?_; refine zC (zn g.col g.row) (zE zB) rfl ?_; refine zI (ha _) ?_; refine zl rfl ?_; refine zG ?_
    exact zBN rfl rfl rfl rfl ((hO.push _).set hO.1 _)
   | true=>
    rw [h1,zMq (by simp)] at hx
    rw [hx] at hde
    rw [h1] at ha
    have ha : ∀ H,C zBE [zn g.col g.row] H .nili H:=ha
    by_cases h3 : zAo g.text = 0
    ·rw [zMt h3] at hde
     rw [h3] at ht
     have ht' : ∀ H,C zA1 [.str g.text] H .nili H:=ht
     refine zc tT ?_; refine zBP 0 _ hdv rfl hgm ?_; refine zi (zR g) rfl ?_; refine zH (v:=zR g) (AV.cells (zR g)) zB rfl rfl rfl rfl ?_; refine zC (zn g.col g.row) (zE zB) rfl ?_; refine zI (ha _) ?_; refine zl rfl ?_; refine zF ?_; refine zF ?_; refine zF ?_; refine zF ?_; refine zC (AV.str g.text) (zE zB) rfl ?_; refine zI (ht' _) ?_; refine zl rfl ?_; refine zF ?_; refine zN (r:=1) rfl tO ?_
     refine zAC (1) rfl ⟨(hO.push _).set hO.1 _,by omega,hde⟩ tO
    ·rw [zMq h3] at hde
     have he : eV (zAo g.text) = zEJ (zAo g.text : Nat):=by unfold eV; rw [zMq h3]
     rw [he] at ht
     rw [zGD c0 hR (by rw [← hde]; exact h3),← hde]
     generalize zAo g.text = n at *
     refine zc tT ?_; refine zBP 0 _ hdv rfl hgm ?_; refine zi (zR g) rfl ?_; refine zH (v:=zR g) (AV.cells (zR g)) zB rfl rfl rfl rfl ?_; refine zC (zn g.col g.row) (zE zB) rfl ?_; refine zI (ha _) ?_; refine zl rfl ?_; refine zF ?_; refine zF ?_; refine zF ?_; refine zF ?_; refine zC (AV.str g.text) (zE zB) rfl ?_; refine zI (ht _) ?_; refine zl rfl ?_; refine zG ?_
     exact zBN rfl rfl rfl rfl ((hO.push _).set hO.1 _)
  | succ j=>
   obtain ⟨f,hfj⟩ : ∃ f,d[j]? = some f:=⟨_,zMr tO⟩
   have hfm : (d.map zR)[j]? = some (zR f):=by rw [zM2,hfj]; rfl
   have hx : zMo (zJs d (j + 1)) g = if okC g.col g.row = false then 1 else if (!lessC f g) = true then 5 else zAo g.text:=by
    have : zJs d (j + 1) = some f:=hfj
    rw [this]
    rfl
   have hl:=fun H=>hL f g H
   cases h1 : okC g.col g.row with
   | false=>
    rw [h1,zMt rfl] at hx
    rw [hx,zMq (by decide)] at hde
    rw [h1] at ha
    have ha : ∀ H,C zBE [zn g.col g.row] H (zEJ 1) H:=ha
    rw [zGD c0 hR tO,← hde]
    clear ht hL hT hW
    refine zc tT ?_; refine zBP (j + 1) _ hdv rfl hgm ?_; refine zi (zR g) rfl ?_; refine zH (v:=zR g) (AV.cells (zR g)) zB rfl rfl rfl rfl ?_; refine zC (zn g.col g.row) (zE zB) rfl ?_; refine zI (ha _) ?_; refine zl rfl ?_; refine zG ?_
    exact zBN rfl rfl rfl rfl ((hO.push _).set hO.1 _)
   | true=>
    rw [h1,zMq (by simp)] at hx
    rw [h1] at ha
    have ha : ∀ H,C zBE [zn g.col g.row] H .nili H:=ha
    cases h2 : lessC f g with
    | false=>
     rw [h2,zMt (show (!false) = true from rfl)] at hx
     rw [hx,zMq (by decide)] at hde
     rw [h2] at hl
     rw [zGD c0 hR tO,← hde]
     refine zc tT ?_; refine zBP (j + 1) _ hdv rfl hgm ?_; refine zi (zR g) rfl ?_; refine zH (v:=zR g) (AV.cells (zR g)) zB rfl rfl rfl rfl ?_; refine zC (zn g.col g.row) (zE zB) rfl ?_; refine zI (ha _) ?_; refine zl rfl ?_; refine zF ?_; refine zc tT ?_; refine zN (r:=j) (by simp) tO ?_; refine zBP j _ hdv rfl hfm ?_; refine zi (zn f.col f.row) rfl ?_; refine zC (zn g.col g.row) (zE zB) rfl ?_
     refine zI (hl _) ?_; refine zG ?_; refine zG ?_
     exact zBN rfl rfl rfl rfl ((hO.push _).set hO.1 _)
    | true=>
     rw [h2,zMq (by simp)] at hx
     rw [hx] at hde
     rw [h2] at hl
     by_cases h3 : zAo g.text = 0
     ·rw [zMt h3] at hde
      rw [h3] at ht
      have ht' : ∀ H,C zA1 [.str g.text] H .nili H:=ht
      refine zc tT ?_; refine zBP (j + 1) _ hdv rfl hgm ?_; refine zi (zR g) rfl ?_; refine zH (v:=zR g) (AV.cells (zR g)) zB rfl rfl rfl rfl ?_; refine zC (zn g.col g.row) (zE zB) rfl ?_; refine zI (ha _) ?_; refine zl rfl ?_; refine zF ?_; refine zc tT ?_; refine zN (r:=j) (by simp) tO ?_; refine zBP j _ hdv rfl hfm ?_; refine zi (zn f.col f.row) rfl ?_; refine zC (zn g.col g.row) (zE zB) rfl ?_
      refine zI (hl _) ?_; refine zG ?_; refine zF ?_; refine zC (AV.str g.text) (zE zB) rfl ?_; refine zI (ht' _) ?_; refine zl rfl ?_; refine zF ?_; refine zN (r:=j + 1 + 1) rfl tO ?_; refine zAC (j + 1 + 1) rfl ⟨(hO.push _).set hO.1 _,by omega,hde⟩ tO
     ·rw [zMq h3] at hde
      have he : eV (zAo g.text) = zEJ (zAo g.text : Nat):=by unfold eV; rw [zMq h3]
      rw [he] at ht
      rw [zGD c0 hR (by rw [← hde]; exact h3),← hde]
      generalize zAo g.text = n at *
      refine zc tT ?_; refine zBP (j + 1) _ hdv rfl hgm ?_; refine zi (zR g) rfl ?_; refine zH (v:=zR g) (AV.cells (zR g)) zB rfl rfl rfl rfl ?_; refine zC (zn g.col g.row) (zE zB) rfl ?_; refine zI (ha _) ?_; refine zl rfl ?_; refine zF ?_; refine zc tT ?_; refine zN (r:=j) (by simp) tO ?_; refine zBP j _ hdv rfl hfm ?_; refine zi (zn f.col f.row) rfl ?_; refine zC (zn g.col g.row) (zE zB) rfl ?_
      refine zI (hl _) ?_; refine zG ?_; refine zF ?_; refine zC (AV.str g.text) (zE zB) rfl ?_; refine zI (ht _) ?_; refine zl rfl ?_; refine zG ?_
      exact zBN rfl rfl rfl rfl ((hO.push _).set hO.1 _)
 ·have hR0 : R = 0:=by rw [← hde,zNs tO]; rfl
  subst hR0
  obtain ⟨hds,hdo,_⟩:=app_good d none hR
  have hdl:=app_len hds fun f hf=>(hdo f hf).1
  rw [applyV_end c0 hR]
  clear hA hL hT hde
  refine zW tF ?_; refine zAz d.length hdv hdm ?_; refine zBM (fun x : Nat × Nat=>[(56,zK x.1),(0,.lst (some (nilQ q (d.take x.1))) x.2 ((zBg a (d.take x.1)).map zR)),(54,dv),(55,zK d.length)]) (fun x H'=>Old H H' ∧ x.1 ≤ d.length ∧ (x.2 = 3 ∨ zBg a (d.take x.1) = [])) (fun x=>d.length - x.1) (0,k) (by rw [← hav0]; cases q <;> rfl) ⟨hO,by simp,hk⟩ (fun x H2 hi2=>?_)
  obtain ⟨i2,k2⟩:=x
  obtain ⟨hO2,hi2,hk2⟩:=hi2
  dsimp only at hi2 hk2 ⊢
  have hqq : nilQ q (d.take i2) = true → zBg a (d.take i2) = []:=zMn hq
  by_cases hlt2 : i2 < d.length
  ·obtain ⟨g,hgi⟩ : ∃ g,d[i2]? = some g:=⟨_,zMr hlt2⟩
   have hgm : (d.map zR)[i2]? = some (zR g):=by rw [zM2,hgi]; rfl
   have htk : d.take (i2 + 1) = d.take i2 ++ [g]:=by rw [zOD,hgi]; rfl
   have hfw:=foldW_snoc a (d.take i2) g
   rw [← htk] at hfw
   have hnq : nilQ q (d.take (i2 + 1)) = (nilQ q (d.take i2) && decide (g.text = [])):=by unfold nilQ; rw [htk,List.all_append,Bool.and_assoc]; simp
   have hgr:=zHs (d.take i2) a
   rw [zM8] at hgr
   have hsr:=(zKS (d.take i2) a hg.srt fun f hf=>(hg.each f hf).2).1
   have hw:=fun H=>hW (nilQ q (d.take i2)) k2 (zBg a (d.take i2)) g.col g.row g.text H hk2 hqq tO hsr
   rw [← hfw,← hnq] at hw
   refine zc tT ?_; refine zBP i2 _ hdv rfl hgm ?_; refine zi (zR g) rfl ?_; refine zH (v:=zR g) (AV.cells (zR g)) zB rfl rfl rfl rfl ?_; refine zC (zn g.col g.row) (zE zB) rfl ?_; refine zC (AV.str g.text) (zE zB) rfl ?_; refine zI (hw _) ?_; refine zN (r:=i2 + 1) rfl tO ?_
   have hqq2 : nilQ q (d.take (i2 + 1)) = true → zBg a (d.take (i2 + 1)) = []:=zMn hq
   refine zAC (i2 + 1,if nilQ q (d.take (i2 + 1)) = true then 0 else 3) rfl ⟨(hO2.push _).set hO2.1 _,by simp only; omega, ?_⟩ (by simp only; omega)
   simp only
   cases hz : nilQ q (d.take (i2 + 1)) with
   | true=>exact .inr (hqq2 hz)
   | false=>exact .inl rfl
  ·have he : d.take i2 = d:=zNK tO
   rw [he] at hk2 hqq ⊢
   have hfl : ((zBg a d).map zR).length = (zBg a d).length:=zMx _
   have hfo : zBI (.lst (some (nilQ q d)) k2 ((zBg a d).map zR)) 3 ((zBg a d).map zR):=⟨_,_,rfl,hk2.imp id fun h=>by rw [h]; rfl⟩
   have hc0:=fun h=>hC0 k2 h
   have hc1:=fun h=>hC1 k2 (zBg a d) h hk2 (by have:=zHs d a; omega)
   clear hC0 hC1 hW
   have hgr:=zHs d a
   generalize nilQ q d = Q at *
   generalize zBg a d = L at *
   by_cases hbig : 200 < L.length
   ·rw [zMt hbig]
    refine zW tF ?_; refine zAz L.length hfo hfl ?_; refine zc (tT) ?_
    exact zBN rfl rfl rfl rfl hO2
   rw [zMq hbig]
   cases Q with
   | true=>
    obtain rfl:=hqq rfl
    refine zW tF ?_; refine zAz 0 hfo rfl ?_; refine zW tF ?_; refine zAZ (hc0 _) (fun h=>by cases h) ?_
    exact zBN rfl rfl rfl rfl hO2
   | false=>
    have hgt : decide ((L.length : Int) > 200) = false:=tF
    refine zW tF ?_; refine zAz L.length hfo hfl ?_; refine zW tF ?_; refine zAZ (hc1 _) (fun h=>by cases h) ?_
    exact zIX rfl rfl (frz_pair2 (frz_slw (by have:=hO2.1; omega) (by rw [zM6 (by simp)]; simp) (zMx _).symm) fun _=>rfl) rfl (((hO2.push _).set hO2.1 _ |>.push _).set (by have:=hO2.1; omega) _)
end
end Go.AM
set_option maxRecDepth 20000
namespace Go.AM
def rappV (av : AV) (a d : List Fil) : AV:=if zFO a d = 0 then .tup [outV av a d,zK 0] else .tup [.lst (some true) 0 [],zK (zFO a d)]
theorem zHg {av : AV} {a d : List Fil} {R : Nat} (h0 : zAP a = 0) (h : appF none d = R) (hR : R ≠ 0) : rappV av a d = .tup [.lst (some true) 0 [],zK R]:=by
 have e : zFO a d = R:=by
  unfold zFO
  rw [zMq tO,h,zMt hR]
 unfold rappV
 rw [e,zMq hR]
theorem rappV_end {av : AV} {a d : List Fil} (h0 : zAP a = 0) (h : appF none d = 0) : rappV av a d = if 200 < (zBg a d).length then .tup [.lst (some true) 0 [],zK 4] else .tup [outV av a d,zK 0]:=by
 unfold rappV zFO
 rw [zMq (by omega : ¬ zAP a ≠ 0),zMq (by omega : ¬ appF none d ≠ 0)]
 by_cases k : 200 < (zBg a d).length
 ·rw [zMt k,zMt k,zMq (by decide)]
 ·rw [zMq k,zMq k,zMt rfl]
section
variable {C : CSpec} {GT : Nat → Option AV}
set_option maxHeartbeats 8000000 in
theorem rapp_ev (hG : ∀ lv l H,view H 3 lv = some (l.map zR) → C zAr [lv] H (zK (zAP l)) H) (hI : ∀ c r H,C zCh [zn c r] H (.bool (okC c r)) H)
  (hL : ∀ (a b : Fil) H,C zAd [zn a.col a.row,zn b.col b.row] H (.bool (lessC a b)) H) (hT : ∀ s H,C zBW [.str s] H (zK (zAo s)) H)
  (hW : ∀ (lv : AV) (l : List Fil) c r t H,zBI lv 3 (l.map zR) → l.length ≤ 3000 → Srtd l → C zC4 [lv,zn c r,.str t] H (zIo 3 ((zBj l c r t).map zR)) H)
  (av dv : AV) (a d : List Fil) (hav : zBI av 3 (a.map zR)) (hdv : zBI dv 3 (d.map zR)) (hdB : d.length ≤ 140737488355328) (H : Heap) :
  EFun C GT zFp [av,dv] H (rappV av a d) H:=by
 have g1:=hG av a H (hav.view H)
 have hdm : (d.map zR).length = d.length:=zMx _
 have tst : ∀ n : Nat,n ≠ 0 → (!((n : Int) == 0)) = true:=fun n hn=>by simp; omega
 clear hG
 by_cases c0 : zAP a = 0
 case neg=>
  have hr : rappV av a d = .tup [.lst (some true) 0 [],zK (zAP a)]:=by
   unfold rappV zFO
   rw [zMt c0,zMq c0]
  rw [hr]
  have ex:=tst _ c0
  generalize zAP a = n at *
  clear hI hL hT hW
  refine za ?_; refine zI g1 ?_; refine zc ex ?_
  exact sRr
 have hg:=zJq c0
 have hla:=hg.len
 have hstep : ∀ (ds : List Fil) (f : Fil) H,ds.length ≤ 2574 → C zC4 [outV av a ds,zn f.col f.row,.str f.text] H (outV av a (ds ++ [f])) H:=fun ds f H hl=>by
  rw [← outV_snoc]
  have:=foldW_len ds a
  exact hW _ _ _ _ _ H (outV_of hav ds) tO (zKS ds a hg.srt fun f hf=>(hg.each f hf).2).1
 clear hW
 rw [c0] at g1
 obtain ⟨R,hR⟩ : ∃ R,appF none d = R:=⟨_,rfl⟩
 refine za ?_; refine zI g1 ?_; refine zF ?_; refine zBM (fun i : Nat=>[(7,zK i),(1,dv),(0,av)]) (fun i H'=>H' = H ∧ i ≤ d.length ∧ appF (zJs d i) (d.drop i) = R) (fun i=>d.length - i) 0 rfl ⟨rfl,by simp,hR⟩ (fun i H1 hi=>?_)
 obtain ⟨hO,hi,hde⟩:=hi
 subst hO
 dsimp only
 by_cases hlt : i < d.length
 ·obtain ⟨g,hgi⟩ : ∃ g,d[i]? = some g:=⟨_,zMr hlt⟩
  have hgm : (d.map zR)[i]? = some (zR g):=by rw [zM2,hgi]; rfl
  rw [appF_drop d i g hgi] at hde
  have ha:=fun H=>hI g.col g.row H
  have ht:=fun H=>hT g.text H
  cases i with
  | zero=>
   have hx : zMo (zJs d 0) g = if okC g.col g.row = false then 1 else zAo g.text:=rfl
   cases h1 : okC g.col g.row with
   | false=>
    rw [h1,zMt rfl] at hx
    rw [hx,zMq (by decide)] at hde
    rw [h1] at ha
    rw [zHg c0 hR tO,← hde]
    clear ht hL hT
    refine zAz d.length hdv hdm ?_; refine zc tT ?_; refine zBP 0 _ hdv rfl hgm ?_; refine zi (zn g.col g.row) rfl ?_; refine zI (ha _) ?_; refine zG ?_
    exact sRr
   | true=>
    rw [h1,zMq (by simp)] at hx
    rw [hx] at hde
    rw [h1] at ha
    by_cases h3 : zAo g.text = 0
    ·rw [zMt h3] at hde
     rw [h3] at ht
     refine zAz d.length hdv hdm ?_; refine zc tT ?_; refine zBP 0 _ hdv rfl hgm ?_; refine zi (zn g.col g.row) rfl ?_; refine zI (ha _) ?_; refine zF <| zF <| zF <| zF ?_; refine zBP 0 _ hdv rfl hgm ?_; refine zi (AV.str g.text) rfl ?_; refine zI (ht _) ?_; refine zF ?_; refine zN (r:=1) rfl tO ?_; refine zAC (1) rfl ⟨rfl,by omega,hde⟩ tO
    ·rw [zMq h3] at hde
     rw [zHg c0 hR (by rw [← hde]; exact h3),← hde]
     have ex:=tst _ h3
     generalize zAo g.text = n at *
     refine zAz d.length hdv hdm ?_; refine zc tT ?_; refine zBP 0 _ hdv rfl hgm ?_; refine zi (zn g.col g.row) rfl ?_; refine zI (ha _) ?_; refine zF <| zF <| zF <| zF ?_; refine zBP 0 _ hdv rfl hgm ?_; refine zi (AV.str g.text) rfl ?_; refine zI (ht _) ?_; refine zc ex ?_
     exact sRr
  | succ j=>
   obtain ⟨f,hfj⟩ : ∃ f,d[j]? = some f:=⟨_,zMr tO⟩
   have hfm : (d.map zR)[j]? = some (zR f):=by rw [zM2,hfj]; rfl
   have hx : zMo (zJs d (j + 1)) g = if okC g.col g.row = false then 1 else if (!lessC f g) = true then 5 else zAo g.text:=by
    have : zJs d (j + 1) = some f:=hfj
    rw [this]
    rfl
   have hl:=fun H=>hL f g H
   cases h1 : okC g.col g.row with
   | false=>
    rw [h1,zMt rfl] at hx
    rw [hx,zMq (by decide)] at hde
    rw [h1] at ha
    rw [zHg c0 hR tO,← hde]
    clear ht hL hT
    refine zAz d.length hdv hdm ?_; refine zc tT ?_; refine zBP (j + 1) _ hdv rfl hgm ?_; refine zi (zn g.col g.row) rfl ?_; refine zI (ha _) ?_; refine zG ?_
    exact sRr
   | true=>
    rw [h1,zMq (by simp)] at hx
    rw [h1] at ha
    cases h2 : lessC f g with
    | false=>
     rw [h2,zMt (show (!false) = true from rfl)] at hx
     rw [hx,zMq (by decide)] at hde
     rw [h2] at hl
     rw [zHg c0 hR tO,← hde]
     clear ht hT
     refine zAz d.length hdv hdm ?_; refine zc tT ?_; refine zBP (j + 1) _ hdv rfl hgm ?_; refine zi (zn g.col g.row) rfl ?_; refine zI (ha _) ?_; refine zF <| zc tT ?_; refine zN (r:=j) (by simp) tO ?_; refine zBP j _ hdv rfl hfm ?_; refine zi (zn f.col f.row) rfl ?_; refine zBP (j + 1) _ hdv rfl hgm ?_; refine zi (zn g.col g.row) rfl ?_; refine zI (hl _) ?_; refine zG <| zG ?_
     exact sRr
    | true=>
     rw [h2,zMq (by simp)] at hx
     rw [hx] at hde
     rw [h2] at hl
     by_cases h3 : zAo g.text = 0
     ·rw [zMt h3] at hde
      rw [h3] at ht
      refine zAz d.length hdv hdm ?_; refine zc tT ?_; refine zBP (j + 1) _ hdv rfl hgm ?_; refine zi (zn g.col g.row) rfl ?_; refine zI (ha _) ?_; refine zF <| zc tT ?_; refine zN (r:=j) (by simp) tO ?_; refine zBP j _ hdv rfl hfm ?_; refine zi (zn f.col f.row) rfl ?_; refine zBP (j + 1) _ hdv rfl hgm ?_; refine zi (zn g.col g.row) rfl ?_; refine zI (hl _) ?_; refine zG <| zF ?_; refine zBP (j + 1) _ hdv rfl hgm ?_
      refine zi (AV.str g.text) rfl ?_; refine zI (ht _) ?_; refine zF ?_; refine zN (r:=j + 1 + 1) rfl tO ?_; refine zAC (j + 1 + 1) rfl ⟨rfl,by omega,hde⟩ tO
     ·rw [zMq h3] at hde
      rw [zHg c0 hR (by rw [← hde]; exact h3),← hde]
      have ex:=tst _ h3
      generalize zAo g.text = n at *
      refine zAz d.length hdv hdm ?_; refine zc tT ?_; refine zBP (j + 1) _ hdv rfl hgm ?_; refine zi (zn g.col g.row) rfl ?_; refine zI (ha _) ?_; refine zF <| zc tT ?_; refine zN (r:=j) (by simp) tO ?_; refine zBP j _ hdv rfl hfm ?_; refine zi (zn f.col f.row) rfl ?_; refine zBP (j + 1) _ hdv rfl hgm ?_; refine zi (zn g.col g.row) rfl ?_; refine zI (hl _) ?_; refine zG <| zF ?_; refine zBP (j + 1) _ hdv rfl hgm ?_
      refine zi (AV.str g.text) rfl ?_; refine zI (ht _) ?_; refine zc ex ?_
      exact sRr
 ·have hR0 : R = 0:=by rw [← hde,zNs tO]; rfl
  subst hR0
  obtain ⟨hds,hdo,_⟩:=app_good d none hR
  have hdl:=app_len hds fun f hf=>(hdo f hf).1
  rw [rappV_end c0 hR]
  clear hI hL hT hde
  refine zAz d.length hdv hdm ?_; refine zW tF ?_; refine zBM (fun i : Nat=>[(9,zK i),(1,dv),(0,outV av a (d.take i))]) (fun i H'=>H' = H1 ∧ i ≤ d.length) (fun i=>d.length - i) 0 rfl ⟨rfl,by omega⟩ (fun i2 H2 hi2=>?_)
  obtain ⟨hO2,hi2⟩:=hi2
  subst hO2
  by_cases hlt2 : i2 < d.length
  ·obtain ⟨g,hgi⟩ : ∃ g,d[i2]? = some g:=⟨_,zMr hlt2⟩
   have hgm : (d.map zR)[i2]? = some (zR g):=by rw [zM2,hgi]; rfl
   have hs:=fun H=>hstep (d.take i2) g H (by rw [zM8]; omega)
   rw [show d.take i2 ++ [g] = d.take (i2 + 1) from by rw [zOD,hgi]; rfl] at hs
   refine zAz d.length hdv hdm ?_; refine zc tT ?_; refine zBP i2 (zR g) hdv rfl hgm ?_; refine zi (zn g.col g.row) rfl ?_; refine zBP i2 (zR g) hdv rfl hgm ?_; refine zi (AV.str g.text) rfl ?_; refine zI (hs _) ?_; refine zN (r:=i2 + 1) rfl tO ?_; refine zAC (i2 + 1) rfl ⟨rfl,by omega⟩ tO
  ·rw [show d.take i2 = d from zNK tO]
   have hol:=outV_of hav d
   have hom : ((zBg a d).map zR).length = (zBg a d).length:=zMx _
   clear hstep
   by_cases hbig : 200 < (zBg a d).length
   ·rw [zMt hbig]
    generalize zBg a d = L at *
    generalize outV av a d = ov at *
    refine zAz d.length hdv hdm ?_; refine zW tF ?_; refine zAz L.length hol hom ?_; refine zc tT ?_
    exact sRr
   ·rw [zMq hbig]
    generalize zBg a d = L at *
    generalize outV av a d = ov at *
    have hfo : ∀ n H,zDJ n (.tup [ov,zK 0]) H = some (.tup [ov,zK 0],H):=fun n H=>by
     obtain ⟨q,k,e,_⟩:=hol
     rw [e]; rfl
    have hob : ∀ n,(AV.tup [ov,zK 0]).bel n = true:=fun n=>by
     obtain ⟨q,k,e,_⟩:=hol
     rw [e]; rfl
    refine zAz d.length hdv hdm ?_; refine zW tF ?_; refine zAz L.length hol hom ?_; refine zW tF ?_
    exact zBN rfl rfl (hfo _ _) (hob _) (Old.refl _)
end
end Go.AM
set_option maxRecDepth 20000
namespace Go.AM
section
variable {C : CSpec} {GT : Nat → Option AV}
set_option maxHeartbeats 8000000 in
theorem mdiffs_ev (hG : ∀ lv l H,view H 3 lv = some (l.map zR) → C zAr [lv] H (zK (zAP l)) H)
  (hR : ∀ (av bv : AV) (a b : List Fil) H,zBI av 3 (a.map zR) → zBI bv 3 (b.map zR) → Goods a → Goods b → C zD2 [av,bv] H (zIo 3 ((zKT a b).map zR)) H)
  (hRA : ∀ (av dv : AV) (a d : List Fil) H,zBI av 3 (a.map zR) → zBI dv 3 (d.map zR) → d.length ≤ 140737488355328 → C zCu [av,dv] H (rappV av a d) H)
  (hD : ∀ (av bv : AV) (a b : List Fil) H,zBI av 3 (a.map zR) → zBI bv 3 (b.map zR) → C zD9 [av,bv] H (.tup [zLG a b,eV (zAb [a,b])]) H)
  (hDA : ∀ (q : Bool) (dv : AV) (a d : List Fil) H,(q = true → a = []) → zBI dv 3 (d.map zR) → d.length ≤ 140737488355328 → C zES [.lst (some q) 3 (a.map zR),dv] H (zIN q a d) H)
  (hM : ∀ (v v' : AV) (l : List Fil) (n : Nat) H,view H 3 v = some (l.map zR) → view H 3 v' = some (l.map zR) → l.length ≤ 1000000 → C zBV [v,eV n,v',zK n] H (.bool true) H)
  (q : Bool) (bv dv : AV) (a b d : List Fil) (hq : q = true → a = []) (hbv : zBI bv 3 (b.map zR)) (hdv : zBI dv 3 (d.map zR)) (hdB : d.length ≤ 140737488355328) (H : Heap) : EFun C GT zEN [.lst (some q) 3 (a.map zR),bv,dv] H (.bool true) H:=by
 have hav : zBI (.lst (some q) 3 (a.map zR)) 3 (a.map zR):=⟨_,_,rfl,.inl rfl⟩
 have g1:=hG _ a H (hav.view H)
 have g2:=hG bv b H (hbv.view H)
 have d1:=hD _ bv a b H hav hbv
 have ra:=hRA _ dv a d H hav hdv hdB
 have ka:=hDA q dv a d H hq hdv hdB
 have n0 : ∀ H,view H 3 (.lst (some true) 0 []) = some (([] : List Fil).map zR):=fun H=>by simp [view]
 have bad : ∀ n : Nat,n ≠ 0 → C zBV [.lst (some true) 0 [],zEJ (n : Nat),.lst (some true) 0 [],zK n] H (.bool true) H:=fun n hn=>by
  have:=hM (.lst (some true) 0 []) (.lst (some true) 0 []) [] n H (n0 H) (n0 H) (by simp)
  rwa [show eV n = zEJ (n : Nat) from zMq hn] at this
 have tst : ∀ n : Nat,n ≠ 0 → ((n : Int) == 0) = false:=fun n hn=>by simp; omega
 obtain ⟨w2,e2,x2,v2,hr2,hk2,hm2⟩ : ∃ (w2 : AV) (e2 : Nat) (x2 v2 : AV),rappV (.lst (some q) 3 (a.map zR)) a d = .tup [w2,zK e2] ∧ zIN q a d = .tup [v2,x2] ∧ C zBV [v2,x2,w2,zK e2] H (.bool true) H:=by
  by_cases h : zFO a d = 0
  ·refine ⟨_,_,_,_,zMt h,zMt h, ?_⟩
   have hlen : (zBg a d).length ≤ 1000000:=by
    unfold zFO at h
    by_cases c1 : zAP a = 0
    ·rw [zMq tO] at h
     by_cases c2 : appF none d = 0
     ·rw [zMq tO] at h
      by_cases c3 : 200 < (zBg a d).length
      ·rw [zMt c3] at h; cases h
      ·omega
     ·rw [zMt c2] at h; exact absurd h c2
    ·rw [zMt c1] at h; exact absurd h c1
   refine hM _ _ (zBg a d) 0 H ?_ ((outV_of hav d).view H) hlen
   unfold opV
   by_cases h2 : nilQ q d = true
   ·have:=zMn hq h2
    rw [h2,this]
    simp [view]
   ·rw [zMq h2]
    simp [view]
  ·refine ⟨_,_,_,_,zMq h,zMq h,bad _ h⟩
 rw [hr2] at ra
 rw [hk2] at ka
 clear hr2 hk2 hG hD hRA hDA
 generalize hAV : AV.lst (some q) 3 (a.map zR) = av at *
 by_cases c1 : zAP a = 0
 case neg=>
  have hb1:=bad _ c1
  have hc : zAb [a,b] = zAP a:=by unfold zAb; simp [c1]
  have hv : zLG a b = .lst (some true) 0 []:=by unfold zLG; rw [hc]; simp [c1]
  rw [hc,hv,show eV (zAP a) = zEJ (zAP a : Nat) from zMq c1] at d1
  have ex:=tst _ c1
  clear hR hM bad hv hc g2
  generalize zAP a = n at *
  refine za ?_; refine zI g1 ?_; refine zW ex ?_; refine zW ex ?_; refine zI d1 ?_; refine zl rfl ?_; refine zl rfl ?_; refine zI hb1 ?_; refine zI ra ?_; refine zl rfl ?_; refine zl rfl ?_; refine zI ka ?_; refine zl rfl ?_; refine zl rfl ?_; refine zI hm2 ?_; refine zG <| zG ?_
  exact sRr
 rw [c1] at g1
 by_cases c2 : zAP b = 0
 case neg=>
  have hb1:=bad _ c2
  have hc : zAb [a,b] = zAP b:=by unfold zAb zAb; simp [c1,c2]
  have hv : zLG a b = .lst (some true) 0 []:=by unfold zLG; rw [hc]; simp [c2]
  rw [hc,hv,show eV (zAP b) = zEJ (zAP b : Nat) from zMq c2] at d1
  have ex:=tst _ c2
  clear hR hM bad hv hc
  generalize zAP b = n at *
  refine za ?_; refine zI g1 ?_; refine zG ?_; refine zI g2 ?_; refine zW ex ?_; refine zI d1 ?_; refine zl rfl ?_; refine zl rfl ?_; refine zI hb1 ?_; refine zI ra ?_; refine zl rfl ?_; refine zl rfl ?_; refine zI ka ?_; refine zl rfl ?_; refine zl rfl ?_; refine zI hm2 ?_; refine zG <| zG ?_
  exact sRr
 rw [c2] at g2
 have ga:=zJq c1
 have gb:=zJq c2
 have r1:=hR av bv a b H hav hbv ga gb
 have hc : zAb [a,b] = 0:=zIM fun l hl=>by simp at hl; rcases hl with rfl | rfl <;> assumption
 have hv : zLG a b = zIo 3 ((zKT a b).map zR):=by unfold zLG; rw [hc]; simp
 have hlen:=diffL_len ga gb
 rw [hc,hv] at d1
 have hmd:=hM (zIo 3 ((zKT a b).map zR)) (zIo 3 ((zKT a b).map zR)) (zKT a b) 0 H ((lstF_of _ _).view H) ((lstF_of _ _).view H) tO
 generalize zIo 3 ((zKT a b).map zR) = gv at *
 have hmd' : C zBV [gv,.nili,gv,zK 0] H (.bool true) H:=hmd
 have d1' : C zD9 [av,bv] H (.tup [gv,.nili]) H:=d1
 clear hR hM bad tst hmd d1
 refine za ?_; refine zI g1 ?_; refine zG ?_; refine zI g2 ?_; refine zG ?_; refine zI r1 ?_; refine zI d1' ?_; refine zl rfl ?_; refine zl rfl ?_; refine zI hmd' ?_; refine zI ra ?_; refine zl rfl ?_; refine zl rfl ?_; refine zI ka ?_; refine zl rfl ?_; refine zl rfl ?_; refine zI hm2 ?_; refine zG <| zG ?_
 exact sRr
end
end Go.AM
set_option maxRecDepth 100000
namespace Go.Proofs.YthllabjbdobpgaaGreatDoor
open Go.AM
open Go.AM Go.RowKit
section
variable {m : Int} {ev : Value} (hev : ∃ te pe,ev = .iface te pe)
include hev in
theorem g_applyG (q : Bool) (dv : AV) (a d : List Fil) (H : Heap) (hq : q = true → a = []) (hdv : zBI dv 3 (d.map zR)) (hdB : d.length ≤ 140737488355328) : GQ m ev zES [.lst (some q) 3 (a.map zR),dv] H (zIN q a d) H:=
 zM mixed k_merge_Apply (applyG_ev (mergC hev) g_acheck g_aless (g_text hev) (fun q k l c r t H hk hq hl hs=>g_kwith q k l c r t H hk hq hl hs) (fun k H=>zMj k H) (fun k l H hk hl=>good_clone k l H hk hl) q 3 dv a d (.inl rfl) hq hdv hdB H)
theorem g_rapp (av dv : AV) (a d : List Fil) (H : Heap) (hav : zBI av 3 (a.map zR)) (hdv : zBI dv 3 (d.map zR)) (hdB : d.length ≤ 140737488355328) : GQ m ev zCu [av,dv] H (rappV av a d) H:=
 zM mixed zKD (rapp_ev g_rcheck (q_in refK2) (q_ahead refK2) g_rtext g_rwith av dv a d hav hdv hdB H)
include hev in
theorem g_mergeDiffs {x0 x1 x2 : AV} (h0 : Fits (.sl true shFil) x0) (h1 : Fits (.sl true shFil) x1) (h2 : Fits (.sl true shFil) x2) (hz : ∀ q k d,x2 = .lst q k d → d.length ≤ 140737488355328) (H : Heap) : GQ m ev zEM [x0,x1,x2] H (.bool true) H:=by
 obtain ⟨a,q,rfl,hq⟩:=fl_filsq h0
 obtain ⟨b,q',rfl,_⟩:=fl_filsq h1
 obtain ⟨d,q'',rfl,_⟩:=fl_filsq h2
 have hdB : d.length ≤ 140737488355328:=by have:=hz _ _ _ rfl; rwa [zMx] at this
 exact zM mixed zH4 (mdiffs_ev g_rcheck g_rdiff g_rapp (fun av bv a b H hav hbv=>g_diff hev av bv a b hav hbv H) (g_applyG hev) (g_made hev) q _ _ a b d hq ⟨_,_,rfl,.inl rfl⟩ ⟨_,_,rfl,.inl rfl⟩ hdB H)
end
end Go.Proofs.YthllabjbdobpgaaGreatDoor
