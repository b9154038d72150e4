/- Several texts of mine in one (Sk1, Be1, Wt0). Own work. -/
import Derived.Test.YthpjgjdeogodjaaGreatDoorGRfhSk0
import Derived.Test.YthpjgjdeogodjaaGreatDoorGAm23Am29
import Derived.Test.YthpjgjdeogodjaaGreatDoorGRfdRfg
import Derived.Test.YthpjgjdeogodjaaGreatDoorGRf5Rf3
set_option linter.all false
namespace Go.AM
open Go Go.Lib Go.Proofs
structure SameBut (g : Nat) (w w' : World) : Prop where
 os : w'.os = w.os
 tape : w'.tape = w.tape
 out : w'.output = w.output
 size : w.heap.size ≤ w'.heap.size
 other : ∀ j,j < w.heap.size → j ≠ g → w'.heap[j]? = w.heap[j]?
 shape : ∀ j s,w.shape? j = some s → w'.shape? j = some s
theorem SameBut.refl (g : Nat) (w : World) : SameBut g w w:=⟨rfl,rfl,rfl,Nat.le_refl _,fun _ _ _=>rfl,fun _ _ h=>h⟩
theorem SameBut.trans {g : Nat} {w w1 w2 : World} (h : SameBut g w w1) (k : SameBut g w1 w2) : SameBut g w w2:=
 ⟨k.os.trans h.os,k.tape.trans h.tape,k.out.trans h.out,Nat.le_trans h.size k.size,fun j hj hn=>(k.other j (Nat.lt_of_lt_of_le hj h.size) hn).trans (h.other j hj hn),fun j s hs=>k.shape j s (h.shape j s hs)⟩
theorem SameBut.drew {g : Nat} (w : World) : SameBut g w w.drew:=⟨rfl,rfl,rfl,Nat.le_refl _,fun _ _ _=>rfl,fun _ _ h=>h⟩
theorem SameBut.setCell (w : World) (g o : Nat) (v : Value) : SameBut g w (w.setCell ⟨g,o,none⟩ v):=by
 refine ⟨rfl,rfl,rfl,by simp [World.setCell],fun j _ hn=>?_,fun j s hs=>?_⟩
 ·simp only [World.setCell,Array.getElem?_modify]
  rw [if_neg (Ne.symm hn)]
 ·simp only [World.shape?,World.setCell,Array.getElem?_modify] at hs ⊢
  by_cases e : g = j
  ·rw [if_pos e]
   cases hq : w.heap[j]? with
   | none=>rw [hq] at hs; cases hs
   | some ob=>
    rw [hq] at hs
    cases ob <;> simp_all
  ·rw [if_neg e]; exact hs
theorem SameBut.setCells (g : Nat) : ∀ (vs : List Value) (o : Nat) (w : World),SameBut g w (w.setCells g o vs)
 | [],_,w=>SameBut.refl g w
 | v :: r,o,w=>by
  rw [World.setCells]
  exact (SameBut.setCell w g o v).trans (SameBut.setCells g r (o + 1) _)
theorem SameBut.alloc (g : Nat) (w : World) (ob : Obj) : SameBut g w (w.alloc ob):=by
 have hh : (w.alloc ob).heap = w.heap.push ob:=rfl
 refine ⟨rfl,rfl,rfl,by rw [hh]; simp,fun j hj _=>?_,fun j s hs=>?_⟩
 ·rw [hh,Array.getElem?_push]
  rw [if_neg tO]
 ·have hlt : j < w.heap.size:=by
   rcases Nat.lt_or_ge j w.heap.size with h | h
   ·exact h
   ·simp [World.shape?,Array.getElem?_eq_none h] at hs
  simp only [World.shape?] at hs ⊢
  rw [hh,Array.getElem?_push,if_neg tO]
  exact hs
theorem zHy {P : Program} {GT : Nat → Option AV} {f : FuncId} {fn : Func} {args : List AV} {H H' : Heap} {v : AV} (hf : P.funcs[f]? = some fn) (hname : (fn.name == "runtime.NumGoroutine") = false) (hb : fn.body.isSome = true) (hn : zHY args = true)
  (h : ∀ (w : World) (M : AMap) (I : Nat → Prop) (cargs : List Value),Sim GT w M I H → zDI w M I H.length args cargs → Calls P f cargs.toArray w fun e w'=>∃ v',e = .returned v' ∧ ∃ M' I',Grow w M I H w' M' I' H' ∧ Sim GT w' M' I' H' ∧ Rel w' M' I' H'.length v v') : Good P GT f args H v H':=by
 refine zGy hn ?_
 intro w M I cargs hS hA
 have h1 : fn.name ≠ "runtime.NumGoroutine" := by simpa using hname
 obtain ⟨c,hb⟩:=Option.isSome_iff_exists.1 hb
 have hrun : (callFunc f cargs.toArray).run P w = .ok (.enter f cargs.toArray) w:=by simp [callFunc,hf,h1,hb]
 rw [hrun]
 exact h w M I cargs hS hA
def zIP (f : Fil) : List Value:=[.int .i64 f.col,.int .i64 f.row,.string ⟨f.text.toArray⟩]
def zBG (l : List Fil) : List Value:=l.flatMap zIP
theorem zDc (l : List Fil) : (zBG l).length = l.length * 3:=by
 unfold zBG
 induction l with
 | nil=>rfl
 | cons f r ih=>simp only [List.flatMap_cons,List.length_append,List.length_cons,ih,zIP,List.length_nil]; omega
theorem filCs_get (l : List Fil) (i j : Nat) (f : Fil) (v : Value) (hf : l[i]? = some f) (hv : (zIP f)[j]? = some v) : (zBG l)[i * 3 + j]? = some v:=by
 unfold zBG
 induction l generalizing i with
 | nil=>simp at hf
 | cons g r ih=>
  have hj : j < 3:=by have:=(zg hv).1; simpa [zIP] using this
  cases i with
  | zero=>
   simp only [List.getElem?_cons_zero,Option.some.injEq] at hf
   subst hf
   rw [List.flatMap_cons,List.getElem?_append_left (by simp [zIP]; omega)]
   simpa using hv
  | succ i=>
   rw [List.flatMap_cons,List.getElem?_append_right (by simp [zIP]; omega)]
   have:=ih i (by simpa using hf)
   have e : (i + 1) * 3 + j - (zIP g).length = i * 3 + j:=by simp [zIP]; omega
   rw [e]; exact this
theorem filCs_split (l : List Fil) (x : Nat) (v : Value) (h : (zBG l)[x]? = some v) : ∃ f,l[x / 3]? = some f ∧ (zIP f)[x % 3]? = some v:=by
 have hx:=(zg h).1
 rw [zDc] at hx
 obtain ⟨f,hf⟩ : ∃ f,l[x / 3]? = some f:=⟨_,List.getElem?_eq_getElem tO⟩
 obtain ⟨u,hu⟩ : ∃ u,(zIP f)[x % 3]? = some u:=⟨_,List.getElem?_eq_getElem (by simp [zIP]; omega)⟩
 have:=filCs_get l (x / 3) (x % 3) f u hf hu
 rw [show x / 3 * 3 + x % 3 = x by omega,h] at this
 cases this
 exact ⟨f,hf,hu⟩
theorem zHL (l : List Fil) : ∀ v ∈ zBG l,v.oneCell' = true:=by
 intro v hv
 unfold zBG at hv
 obtain ⟨f,_,hf⟩:=List.mem_flatMap.1 hv
 simp only [zIP,List.mem_cons,List.not_mem_nil,or_false] at hf
 rcases hf with rfl | rfl | rfl <;> rfl
theorem fil_elems (l : List Fil) : Elems 3 (l.map zi):=by
 intro x hx
 obtain ⟨f,_,rfl⟩:=List.mem_map.1 hx
 rfl
theorem fil_rel {w : World} {M : AMap} {I : Nat → Prop} {n : Nat} (f : Fil) (j : Nat) (c : AV) (v : Value) (hc : (zi f).cells[j]? = some c) (hv : (zIP f)[j]? = some v) : Rel w M I n c v:=by
 match j,hc,hv with
 | 0,hc,hv=>cases hc; cases hv; exact .int _ _
 | 1,hc,hv=>cases hc; cases hv; exact .int _ _
 | 2,hc,hv=>cases hc; cases hv; exact .str _
 | j + 3,hc,hv=>simp [zIP] at hv
theorem rel_fil {w : World} {M : AMap} {I : Nat → Prop} {n : Nat} (f : Fil) (j : Nat) (c : AV) (v : Value) (hc : (zi f).cells[j]? = some c) (h : Rel w M I n c v) : (zIP f)[j]? = some v:=by
 match j,hc with
 | 0,hc=>cases hc; cases h; rfl
 | 1,hc=>cases hc; cases h; rfl
 | 2,hc=>cases hc; cases h; rfl
 | j + 3,hc=>simp [zi,AV.cells] at hc
theorem row_fils {GT : Nat → Option AV} {w : World} {M : AMap} {I : Nat → Prop} {H : Heap} (hS : Sim GT w M I H) {b : Nat} {l : List Fil} (hb : H[b]? = some (.row 3 (l.map zi))) (hl : l ≠ []) :
  ∃ g o e sz,M b = some (g,o) ∧ g < w.heap.size ∧ w.shape? g = some (e,sz) ∧ o + l.length * 3 ≤ sz ∧ (∀ j v,(zBG l)[j]? = some v → w.cell? ⟨g,o + j,none⟩ = some v) ∧ (∀ j,j < sz → (w.cell? ⟨g,j,none⟩).isSome = true) ∧ (∀ j,j ≤ sz → w.frozen? ⟨g,j,none⟩ = false):=by
 obtain ⟨_,⟨_,h⟩ | ⟨g,o,cur,hM,⟨e,fz,h1,h2⟩,_,hfit,hc⟩⟩:=hS.blk b _ hb
 ·exact absurd (List.map_eq_nil_iff.1 h) hl
 ·rw [List.length_map] at hfit
  refine ⟨g,o,e,cur.size,hM,(Array.getElem?_eq_some_iff.1 h1).1,by simp [World.shape?,h1],hfit,fun j v hj=>?_,fun j hj=>?_,fun j hj=>?_⟩
  ·obtain ⟨f,hf,hv⟩:=filCs_split l j v hj
   have hjl : j % 3 < 3:=Nat.mod_lt _ tO
   obtain ⟨c,hcc⟩ : ∃ c,(zi f).cells[j % 3]? = some c:=⟨_,List.getElem?_eq_getElem (by simpa [zi,AV.cells] using hjl)⟩
   obtain ⟨u,hu,hr⟩:=hc (j / 3) (j % 3) (zi f) c (by rw [List.getElem?_map,hf]; rfl) hcc
   have:=rel_fil f (j % 3) c u hcc hr
   rw [hv] at this
   cases this
   have e2 : o + j / 3 * 3 + j % 3 = o + j:=by omega
   rw [e2] at hu
   simp only [World.cell?,h1]
   simpa using hu
  ·simp only [World.cell?,h1]
   simpa using hj
  ·simp only [World.frozen?,h1]
   have:=h2 j tO
   simpa using this
theorem zJJ (a b : List Fil) : zBG (a ++ b) = zBG a ++ zBG b:=by unfold zBG; exact List.flatMap_append
theorem zHU (l : List Fil) (i : Nat) (hi : i ≤ l.length) : zBG (l.take i) = (zBG l).take (i * 3):=by
 have h:=zJJ (l.take i) (l.drop i)
 rw [List.take_append_drop] at h
 rw [h,List.take_left' (by rw [zDc,List.length_take]; congr 1; omega)]
theorem filCs_drop (l : List Fil) (i : Nat) (hi : i ≤ l.length) : zBG (l.drop i) = (zBG l).drop (i * 3):=by
 have h:=zJJ (l.take i) (l.drop i)
 rw [List.take_append_drop] at h
 rw [h,List.drop_left' (by rw [zDc,List.length_take]; congr 1; omega)]
theorem zHM {GT : Nat → Option AV} {w w' : World} {M : AMap} {I : Nat → Prop} {H : Heap} (hS : Sim GT w M I H) {b k : Nat} {xs : List Fil} (hb : H[b]? = some (.row 3 (xs.map zi))) {g o : Nat} (hM : M b = some (g,o)) (hs : SameBut g w w') {ys : List Fil} {g' o' cap : Nat} (hg : g' = g ∨ w.heap.size ≤ g') (hlt : g' < w'.heap.size)
  (hc : ys.length ≤ cap) (hm : cap ≤ maxLen) (hcells : ∀ x v,(zBG ys)[x]? = some v → w'.cell? ⟨g',o' + x,none⟩ = some v) :
  ∃ M' I',Grow w M I H w' M' I' (H.set b .dead) ∧ Sim GT w' M' I' (H.set b .dead) ∧ Rel w' M' I' (H.set b .dead).length (.lst (some false) 3 (ys.map zi)) (.slice (some ⟨g',o',none⟩) ys.length cap):=by
 have h:=row_gone (ys:=ys.map zi) hS hb hM hs.os hs.tape hs.out hs.size hs.other (fun s h=>hs.shape g s h) (fil_elems ys) hg hlt (by rw [List.length_map]; exact hc) hm (o':=o') fun i j y c hy hc=>by
  rw [List.getElem?_map] at hy
  obtain ⟨f,hf,rfl⟩:=Option.map_eq_some_iff.1 hy
  have hj : j < 3:=by have:=(zg hc).1; simpa [zi,AV.cells] using this
  obtain ⟨v,hv⟩ : ∃ v,(zIP f)[j]? = some v:=⟨_,List.getElem?_eq_getElem (by simp [zIP]; omega)⟩
  refine ⟨v, ?_,fun M I n=>fil_rel f j c v hc hv⟩
  have:=hcells (i * 3 + j) v (filCs_get ys i j f v hf hv)
  rw [← Nat.add_assoc] at this
  exact this
 rw [List.length_map] at h
 exact h
end Go.AM
set_option maxRecDepth 20000
namespace Go.AM
def sumN (s : Nat) : Bs → Nat
 | []=>s
 | c :: r=>sumN ((s * 257 + c.toNat) % 65521) r
theorem sumN_lt (l : Bs) : ∀ s,s < 65521 → sumN s l < 65521:=by
 induction l with
 | nil=>exact fun s h=>h
 | cons c r ih=>exact fun s _=>ih _ (Nat.mod_lt _ (by decide))
theorem sumN_drop (l : Bs) (i : Nat) (c : UInt8) (h : l[i]? = some c) (s : Nat) : sumN s (l.drop i) = sumN ((s * 257 + c.toNat) % 65521) (l.drop (i + 1)):=by
 have hi:=(zg h).1
 rw [List.drop_eq_getElem_cons hi,(zg h).2]
 rfl
def u8N (n : Nat) : UInt8:=UInt8.ofNat n
def zKs (f : Fil) : Bs:=[u8N f.col.toNat,u8N f.row.toNat,u8N f.text.length] ++ f.text
def zKE (f : Fil) : Bs:=zKs f ++ [u8N (sumN 1 (zKs f) % 256),u8N (sumN 1 (zKs f) / 256)]
def zBY : List Fil → Bs
 | []=>[]
 | f :: r=>zKE f ++ zBY r
def okF (f : Fil) : Prop:=(1 ≤ f.col ∧ f.col ≤ 26) ∧ (1 ≤ f.row ∧ f.row ≤ 99) ∧ f.text.length ≤ 200
theorem okC_iff (c r : Int) : okC c r = true ↔ (1 ≤ c ∧ c ≤ 26) ∧ (1 ≤ r ∧ r ≤ 99):=by
 unfold okC
 simp only [Bool.and_eq_true,decide_eq_true_eq]
 constructor
 ·rintro ⟨⟨⟨h1,h2⟩,h3⟩,h4⟩; exact ⟨⟨h1,h2⟩,h3,h4⟩
 ·rintro ⟨⟨h1,h2⟩,h3,h4⟩; exact ⟨⟨⟨h1,h2⟩,h3⟩,h4⟩
theorem textN_len {s : Bs} (h : zDC s = 0) : s.length ≤ 200:=by
 unfold zDC at h
 by_cases hl : 200 < s.length
 ·rw [if_pos hl] at h; cases h
 ·omega
def mayN (f : Fil) : Nat:=if okC f.col f.row = true then zDC f.text else 1
theorem okF_of {f : Fil} (h1 : okC f.col f.row = true) (h2 : zDC f.text = 0) : okF f:=⟨((okC_iff _ _).1 h1).1,((okC_iff _ _).1 h1).2,textN_len h2⟩
theorem filsN_ok : ∀ (l : List Fil) (prev : Option Fil),zKf prev l = 0 → ∀ f ∈ l,okF f:=by
 intro l
 induction l with
 | nil=>intro _ _ f h; cases h
 | cons g r ih=>
  intro prev h f hf
  unfold zKf at h
  by_cases h0 : filN prev g = 0
  ·rw [if_pos h0] at h
   rcases List.mem_cons.1 hf with rfl | hf
   ·unfold filN at h0
    by_cases h1 : okC f.col f.row = false
    ·rw [if_pos h1] at h0; cases h0
    ·rw [if_neg h1] at h0
     have h1 : okC f.col f.row = true:=by simpa using h1
     have h2 : zDC f.text = 0:=by
      by_cases he : f.text = []
      ·rw [he]; rfl
      ·cases prev with
       | none=>
        have h0 : (if f.text = [] then 3 else zDC f.text) = 0:=h0
        rwa [if_neg he] at h0
       | some p=>
        have h0 : (if zFv p f = false then 5 else if f.text = [] then 3 else zDC f.text) = 0:=h0
        cases hp : zFv p f with
        | true=>rw [hp,if_neg (by simp),if_neg he] at h0; exact h0
        | false=>rw [hp,if_pos rfl] at h0; cases h0
     exact okF_of h1 h2
   ·exact ih _ h f hf
  ·rw [if_neg h0] at h; exact absurd h h0
theorem checkN_ok {l : List Fil} (h : zEe l = 0) : l.length ≤ 200 ∧ ∀ f ∈ l,okF f:=by
 unfold zEe at h
 by_cases hl : 200 < l.length
 ·rw [if_pos hl] at h; cases h
 ·rw [if_neg hl] at h
  exact ⟨by omega,filsN_ok l none h⟩
theorem zHV (f : Fil) : (zKE f).length = f.text.length + 5:=by simp [zKE,zKs]
theorem zHW (l : List Fil) (i : Nat) (f : Fil) (h : l[i]? = some f) : zBY (l.take (i + 1)) = zBY (l.take i) ++ zKE f:=by
 have hi:=(zg h).1
 have e : ∀ a b,zBY (a ++ b) = zBY a ++ zBY b:=by
  intro a b
  induction a with
  | nil=>rfl
  | cons x r ih=>simp only [List.cons_append,zBY,ih,List.append_assoc]
 rw [List.take_succ,h,e]
 simp [zBY]
theorem zFO (n : Nat) (h : n < 256) : zP (u8N n) = .int .u8 n:=by
 unfold zP u8N
 rw [UInt8.toNat_ofNat',Nat.mod_eq_of_lt tO]
theorem zKt (l : List Fil) (h : ∀ f ∈ l,okF f) : (zBY l).length ≤ 205 * l.length:=by
 induction l with
 | nil=>simp [zBY]
 | cons f r ih=>
  have:=ih fun g hg=>h g (List.mem_cons_of_mem _ hg)
  have:=(h f (List.mem_cons_self ..)).2.2
  simp only [zBY,List.length_append,zHV,List.length_cons]
  omega
def bsV (s : Bs) : AV:=zIN 1 (s.map zP)
theorem bsV_view (s : Bs) (H : Heap) : view H 1 (bsV s) = some (s.map zP):=by
 cases s <;> rfl
structure SumS where
 i : Nat
 s : Nat
section
variable {C : CSpec} {GT : Nat → Option AV}
theorem sWu16 {x : Int} {K : Int → Prop} (r : Nat) (h : x % 65536 = r) (k : K (r : Int)) : valP (IntKind.wrap .u16 x) K:=zKl (by rw [IntKind.wrap_u16]; omega) k
theorem bksum_ev (v : AV) (l : Bs) (H : Heap) (hv : view H 1 v = some (l.map zP)) (hl : l.length ≤ 1000) : EFun C GT a_book_sum [v] H (.int .u16 (sumN 1 l : Nat)) H:=by
 have hlm : (l.map zP).length = l.length:=List.length_map _
 obtain ⟨r,hr⟩ : ∃ r,sumN 1 l = r:=⟨_,rfl⟩
 have hrl : r < 65521:=by rw [← hr]; exact sumN_lt l 1 (by decide)
 rw [hr]
 refine zc ?_; refine zCa hv ?_; refine zBn (fun x : SumS=>[(8,zJ x.i),(3,.int .u32 (x.s : Nat)),(6,v),(7,.int .i64 ((l.map zP).length : Nat))]) (fun x H'=>H' = H ∧ x.i ≤ l.length ∧ x.s < 65521 ∧ sumN x.s (l.drop x.i) = r) (fun x=>l.length - x.i) ⟨0,1⟩ rfl ⟨rfl,by simp,by simp,hr⟩ (fun ⟨i,s⟩ H1 ⟨hH,hi,hs,hq⟩=>?_)
 subst hH
 dsimp only at hi hs hq ⊢
 by_cases hlt : i < l.length
 ·obtain ⟨c,hc⟩ : ∃ c,l[i]? = some c:=⟨_,List.getElem?_eq_getElem hlt⟩
  have hcm : (l.map zP)[i]? = some (zP c):=by rw [List.getElem?_map,hc]; rfl
  have hc2:=c.toNat_lt
  rw [sumN_drop l i c hc] at hq
  refine zT tT ?_; refine zF4 i (zP c) hv rfl hcm (fun p hp=>?_)
  refine zAd (zP c) hp rfl <| zKe (s * 257) tO <| zKe c.toNat tO <| zKe (s * 257 + c.toNat) tO <| zEK (by decide) <| zKl (r:=((s * 257 + c.toNat) % 65521 : Nat)) (Int.ofNat_tmod (s * 257 + c.toNat) 65521).symm ?_; refine zL (r:=i + 1) rfl tO ?_; refine zAT (SumS.mk (i + 1) ((s * 257 + c.toNat) % 65521)) rfl ⟨rfl,by simp only; omega,Nat.mod_lt _ (by decide),hq⟩ (by simp only; omega)
 ·have hd : l.drop i = []:=List.drop_eq_nil_of_le tO
  rw [hd] at hq
  have hq : s = r:=hq
  subst hq
  refine zO tF <| sWu16 s tO ?_
  exact sRr
structure EntS where
 i : Nat
 s : Nat
def OwnF (H0 H : Heap) (v : AV) (k : Nat) (xs : List AV) : Prop:=∃ b,v = .sl (some false) b k 0 xs.length ∧ H0.length ≤ b ∧ H[b]? = some (.row k xs) ∧ xs ≠ []
theorem OwnF.view {H0 H : Heap} {v : AV} {k : Nat} {xs : List AV} (h : OwnF H0 H v k xs) : view H k v = some xs:=by
 obtain ⟨b,rfl,_,h2,_⟩:=h
 simp [Go.AM.view,h2]
theorem OwnF.keep {H0 H H' : Heap} {v : AV} {k : Nat} {xs : List AV} (h : OwnF H0 H v k xs) (hk : ∀ b x,v.blk = some b → H[b]? = some x → H'[b]? = some x) : OwnF H0 H' v k xs:=by
 obtain ⟨b,rfl,h1,h2,h3⟩:=h
 exact ⟨b,rfl,h1,hk b _ rfl h2,h3⟩
theorem OwnF.push {H0 H : Heap} {v : AV} {k : Nat} {xs : List AV} (h : OwnF H0 H v k xs) (x : ABlk) : OwnF H0 (H ++ [x]) v k xs:=h.keep fun _ _ _ hx=>zC hx
theorem OwnF.frz {H0 H : Heap} {v : AV} {k : Nat} {xs : List AV} (h : OwnF H0 H v k xs) (hO : Old H0 H) : ∃ H',zDd H0.length v H = some (zIN k xs,H') ∧ Old H0 H':=by
 obtain ⟨b,rfl,h1,h2,h3⟩:=h
 refine ⟨H.set b (.frz k xs), ?_,hO.set h1 _⟩
 cases xs with
 | nil=>exact absurd rfl h3
 | cons x xs=>
  simp only [zDd]
  rw [if_neg tO,h2]
  simp [zIN,frzQ]
theorem sAppStrF {H0 H : Heap} {v : AV} {xs : List AV} {s : List UInt8} {K : AV → Heap → Prop} (ho : OwnF H0 H v 1 xs) (hH : Old H0 H) (hl : xs.length + s.length ≤ 140737488355328)
  (q : ∀ v' H',OwnF H0 H' v' 1 (xs ++ s.map zP) → Old H0 H' → (∀ c y,v.blk ≠ some c → H[c]? = some y → H'[c]? = some y) → K v' H') : actP .appendS [v,.str s] H K:=by
 obtain ⟨b,rfl,h1,h2,h3⟩:=ho
 by_cases he : s = []
 ·subst he
  refine sAct (v:=.sl (some false) b 1 0 xs.length) (H':=H) ?_ (q _ H ⟨b,by simp,h1,by simpa using h2,by simpa using h3⟩ hH fun c y _ h=>h)
  simp [astep]
 have hne : s.isEmpty = false:=by simpa using he
 refine sAct (v:=.sl (some false) H.length 1 0 (xs.length + s.length)) (H':=H.set b .dead ++ [.row 1 (xs ++ s.map zP)]) ?_ ?_
 ·simp only [astep,hne,h2]
  rw [if_neg (by simp),if_pos ⟨trivial,trivial,by omega,by omega⟩]
  simp
 ·refine q _ _ ⟨_,by rw [List.length_append,List.length_map],hH.1, ?_,by simp [h3]⟩ ((hH.set h1 _).push _) fun c x hc hx=>?_
  ·have : (H.set b .dead).length = H.length:=List.length_set
   rw [← this]; exact zD
  ·exact zC (zA (fun e=>hc (by rw [e]; rfl)) hx)
theorem sAppendF {H0 H : Heap} {v y : AV} {k bytes : Nat} {xs ys : List AV} {K : AV → Heap → Prop} (ho : OwnF H0 H v k xs) (hH : Old H0 H) (hy : view H k y = some ys) (hb : bytes ≤ 1024) (hl : xs.length + ys.length ≤ 137438953472)
  (q : ∀ v' H',OwnF H0 H' v' k (xs ++ ys) → Old H0 H' → K v' H') : actP (.append k bytes) [v,y] H K:=by
 have hm : (xs.length + ys.length) * bytes ≤ 137438953472 * 1024:=Nat.mul_le_mul hl hb
 obtain ⟨b,rfl,h1,h2,h3⟩:=ho
 refine sAct (v:=.sl (some false) H.length k 0 (xs.length + ys.length)) (H':=H.set b .dead ++ [.row k (xs ++ ys)]) ?_ ?_
 ·simp only [astep,hy,h2]
  rw [if_pos ⟨trivial,trivial,by omega,by omega,by omega⟩]
  simp
 ·refine q _ _ ⟨_,by rw [List.length_append],hH.1, ?_,by simp [h3]⟩ ((hH.set h1 _).push _)
  have : (H.set b .dead).length = H.length:=List.length_set
  rw [← this]; exact zD
theorem sWu8n {x : Int} {K : Int → Prop} (r : Nat) (h : x % 256 = r) (k : K (r : Int)) : valP (IntKind.wrap .u8 x) K:=zKl (by rw [IntKind.wrap_u8]; omega) k
theorem shr8 (n : Nat) (h : n < 65536) : ((n : Int).fdiv (2 ^ ((Int.toNat 8).min IntKind.u16.bits))) % 256 = ((n / 256 : Nat) : Int):=by
 have e : (2 : Int) ^ ((Int.toNat 8).min IntKind.u16.bits) = 256:=by decide
 rw [e,Int.fdiv_eq_ediv_of_nonneg _ (by decide)]
 omega
theorem bentry_ev (hS : ∀ v l H,view H 1 v = some (l.map zP) → l.length ≤ 1000 → C zDj [v] H (.int .u16 (sumN 1 l : Nat)) H) (f : Fil) (hf : okF f) (H : Heap) : EFun C GT zJ7 [zi f] H (bsV (zKE f)) H:=by
 obtain ⟨⟨hc1,hc2⟩,⟨hr1,hr2⟩,hl⟩:=hf
 have hsl : sumN 1 (zKs f) < 65521:=sumN_lt _ _ (by decide)
 have hel : (zKs f).length = f.text.length + 3:=by simp [zKs]
 have hs:=fun v H h=>hS v (zKs f) H h tO
 clear hS
 refine zc ?_
 have e0 : [AV.int .u8 f.col,.int .u8 f.row,.int .u8 (f.text.length : Nat)] = [u8N f.col.toNat,u8N f.row.toNat,u8N f.text.length].map zP:=by
  simp only [List.map_cons,List.map_nil]
  rw [zFO _ tO,zFO _ tO,zFO _ tO]
  have h1 : ((f.col.toNat : Nat) : Int) = f.col:=by omega
  have h2 : ((f.row.toNat : Nat) : Int) = f.row:=by omega
  rw [h1,h2]
 refine zDM (x:=zi f) rfl <| zB (zK f.col) zD rfl <| sWu8 tO <| zB (zK f.row) zD rfl <| sWu8 tO <| zB (AV.str f.text) zD rfl ?_; refine sWu8 tO <| zAL (vs':=[AV.int IntKind.u8 f.col,AV.int IntKind.u8 f.row,AV.int IntKind.u8 ↑(List.length f.text)]) rfl rfl <| zB (AV.str f.text) (zC zD) rfl ?_; refine sAppStrF (H0:=H) (xs:=[u8N f.col.toNat,u8N f.row.toNat,u8N f.text.length].map zP) ⟨_,rfl,by simp,by rw [← e0]; exact zD,by simp⟩ (((Old.refl H).push _).push _) (by simp; omega) (fun v1 H1 ho1 hO1 _=>?_)
 rw [← List.map_append] at ho1
 have ho1 : OwnF H H1 v1 1 ((zKs f).map zP):=ho1
 have hs1:=hs v1 H1 ho1.view
 obtain ⟨sn,hsn⟩ : ∃ sn,sumN 1 (zKs f) = sn:=⟨_,rfl⟩
 have hen : zKE f = zKs f ++ [u8N (sn % 256),u8N (sn / 256)]:=by rw [← hsn]; rfl
 rw [hsn] at hs1 hsl
 clear hs
 refine zI hs1 <| sWu8n (sn % 256) tO <| zR rfl <| sWu8n (sn / 256) (shr8 sn tO) <| zAL (vs':=[AV.int IntKind.u8 ↑(sn % 256),AV.int IntKind.u8 ↑(sn / 256)]) rfl rfl ?_
 have e1 : [AV.int .u8 (sn % 256 : Nat),.int .u8 (sn / 256 : Nat)] = [u8N (sn % 256),u8N (sn / 256)].map zP:=by
  simp only [List.map_cons,List.map_nil]
  rw [zFO _ tO,zFO _ tO]
 refine sAppendF (H0:=H) (xs:=(zKs f).map zP) (ys:=[u8N (sn % 256),u8N (sn / 256)].map zP) (ho1.push _) (hO1.push _) (by rw [← e1]; exact zAW) (by decide) (by simp; omega) (fun v2 H2 ho2 hO2=>?_)
 rw [← List.map_append,← hen] at ho2
 obtain ⟨H3,hz,hO3⟩:=ho2.frz hO2
 exact zJX rfl rfl hz (lstF_bel _ _ _) hO3
end
end Go.AM
namespace Go.AM
theorem cmpC_lt (c1 r1 c2 r2 : Int) : cmpC c1 r1 c2 r2 < 0 ↔ r1 < r2 ∨ (r1 = r2 ∧ c1 < c2):=by
 unfold cmpC cmp3
 repeat' split
 all_goals omega
theorem cmpC_zero (c1 r1 c2 r2 : Int) : cmpC c1 r1 c2 r2 = 0 ↔ r1 = r2 ∧ c1 = c2:=by
 unfold cmpC cmp3
 repeat' split
 all_goals omega
def aheadC (c r : Int) (f : Fil) : Bool:=decide (f.row < r ∨ (f.row = r ∧ f.col < c))
def zA9 (c r : Int) (f : Fil) : Bool:=decide (r < f.row ∨ (r = f.row ∧ c < f.col))
def isC (c r : Int) (f : Fil) : Bool:=decide (f.row = r ∧ f.col = c)
theorem lessC_iff (a b : Fil) : zFv a b = true ↔ a.row < b.row ∨ (a.row = b.row ∧ a.col < b.col):=by
 unfold zFv
 rw [decide_eq_true_iff]
 exact cmpC_lt _ _ _ _
def Srtd (l : List Fil) : Prop:=l.Pairwise fun a b=>a.row < b.row ∨ (a.row = b.row ∧ a.col < b.col)
theorem Srtd.nil : Srtd []:=List.Pairwise.nil
def zCD (l : List Fil) (c r : Int) (t : Bs) : List Fil:=l.filter (aheadC c r) ++ (if t = [] then [] else [⟨c,r,t⟩]) ++ l.filter (zA9 c r)
def zIQ (l : List Fil) (c r : Int) : Nat:=(l.filter (aheadC c r)).length
theorem posC_le (l : List Fil) (c r : Int) : zIQ l c r ≤ l.length:=List.length_filter_le _ _
theorem zIK {l : List Fil} (h : Srtd l) (c r : Int) : l = l.filter (aheadC c r) ++ l.filter (fun f=>!aheadC c r f):=by
 induction l with
 | nil=>rfl
 | cons f t ih=>
  obtain ⟨h1,h2⟩:=List.pairwise_cons.1 h
  cases hf : aheadC c r f with
  | true=>
   rw [List.filter_cons_of_pos hf,List.filter_cons_of_neg (by simp [hf]),List.cons_append,← ih h2]
  | false=>
   have hn : t.filter (aheadC c r) = []:=by
    refine List.filter_eq_nil_iff.2 fun g hg=>?_
    have:=h1 g hg
    have h3 : ¬ (f.row < r ∨ (f.row = r ∧ f.col < c)):=by simpa [aheadC] using hf
    simp only [aheadC,decide_eq_true_eq]
    omega
   have ht : t.filter (fun f=>!aheadC c r f) = t:=by
    refine List.filter_eq_self.2 fun g hg=>?_
    have:=List.filter_eq_nil_iff.1 hn g hg
    simpa using this
   rw [List.filter_cons_of_neg (by simp [hf]),List.filter_cons_of_pos (by simp [hf]),hn,ht,List.nil_append]
theorem take_pos {l : List Fil} (h : Srtd l) (c r : Int) : l.take (zIQ l c r) = l.filter (aheadC c r):=by
 conv=>lhs; rw [zIK h c r]
 unfold zIQ
 rw [zIK h c r]
 simp
theorem drop_pos {l : List Fil} (h : Srtd l) (c r : Int) : l.drop (zIQ l c r) = l.filter (fun f=>!aheadC c r f):=by
 have e:=zIK h c r
 have e2 : zIQ l c r = (l.filter (aheadC c r)).length:=rfl
 rw [e2]
 conv=>lhs; rw [e]
 rw [List.drop_left' (by rw [← e])]
theorem zL5 {l : List Fil} (h : Srtd l) (c r : Int) : l.filter (fun f=>!aheadC c r f) = l.filter (isC c r) ++ l.filter (zA9 c r):=by
 induction l with
 | nil=>rfl
 | cons f t ih=>
  obtain ⟨h1,h2⟩:=List.pairwise_cons.1 h
  have hi:=ih h2
  by_cases ha : f.row < r ∨ (f.row = r ∧ f.col < c)
  ·rw [List.filter_cons_of_neg (by simp [aheadC,ha]),List.filter_cons_of_neg (by simp only [isC,decide_eq_true_eq]; omega),List.filter_cons_of_neg (by simp only [zA9,decide_eq_true_eq]; omega)]
   exact hi
  ·by_cases he : f.row = r ∧ f.col = c
   ·rw [List.filter_cons_of_pos (by simp only [aheadC,Bool.not_eq_true',decide_eq_false_iff_not]; exact ha),List.filter_cons_of_pos (by simp only [isC,decide_eq_true_eq]; exact he),List.filter_cons_of_neg (by simp only [zA9,decide_eq_true_eq]; omega),List.cons_append,← hi]
   ·have hn : t.filter (isC c r) = []:=by
     refine List.filter_eq_nil_iff.2 fun g hg=>?_
     have:=h1 g hg
     simp only [isC,decide_eq_true_eq]
     omega
    rw [List.filter_cons_of_pos (by simp only [aheadC,Bool.not_eq_true',decide_eq_false_iff_not]; exact ha),List.filter_cons_of_neg (by simp only [isC,decide_eq_true_eq]; exact he),List.filter_cons_of_pos (by simp only [zA9,decide_eq_true_eq]; omega),hn,List.nil_append,hi,hn,List.nil_append]
theorem at_pos {l : List Fil} (h : Srtd l) (c r : Int) : (∃ f,l[zIQ l c r]? = some f ∧ f.row = r ∧ f.col = c ∧ l.filter (isC c r) = [f]) ∨ (l.filter (isC c r) = [] ∧ ∀ f,l[zIQ l c r]? = some f → ¬ (f.row = r ∧ f.col = c)):=by
 have e : l.drop (zIQ l c r) = l.filter (isC c r) ++ l.filter (zA9 c r):=(drop_pos h c r).trans (zL5 h c r)
 have e2 : l[zIQ l c r]? = (l.drop (zIQ l c r)).head?:=by rw [List.head?_drop]
 rw [e2,e]
 cases hq : l.filter (isC c r) with
 | nil=>
  refine .inr ⟨rfl,fun f hf hh=>?_⟩
  rw [List.nil_append] at hf
  have hm : f ∈ l.filter (zA9 c r):=List.mem_of_head? hf
  have:=(List.mem_filter.1 hm).2
  simp only [zA9,decide_eq_true_eq] at this
  omega
 | cons f t=>
  have hf : f ∈ l.filter (isC c r):=by rw [hq]; simp
  have h1:=(List.mem_filter.1 hf).2
  simp only [isC,decide_eq_true_eq] at h1
  refine .inl ⟨f,by simp,h1.1,h1.2, ?_⟩
  have hp : Srtd (f :: t):=by rw [← hq]; exact h.filter _
  have ht : t = []:=by
   cases t with
   | nil=>rfl
   | cons g u=>
    have hg : g ∈ l.filter (isC c r):=by rw [hq]; simp
    have h2:=(List.mem_filter.1 hg).2
    simp only [isC,decide_eq_true_eq] at h2
    have h3:=(List.pairwise_cons.1 hp).1 g (by simp)
    omega
  rw [ht]
theorem zJu {l : List Fil} (h : Srtd l) (c r : Int) (t : Bs) : Srtd (zCD l c r t):=by
 unfold zCD
 refine List.pairwise_append.2 ⟨List.pairwise_append.2 ⟨h.filter _, ?_,fun a ha b hb=>?_⟩,h.filter _,fun a ha b hb=>?_⟩
 ·split
  ·exact List.Pairwise.nil
  ·exact List.pairwise_singleton _ _
 ·have h1:=(List.mem_filter.1 ha).2
  simp only [aheadC,decide_eq_true_eq] at h1
  split at hb
  ·simp at hb
  ·simp only [List.mem_singleton] at hb
   subst hb
   exact h1
 ·have h2:=(List.mem_filter.1 hb).2
  simp only [zA9,decide_eq_true_eq] at h2
  rcases List.mem_append.1 ha with ha | ha
  ·have h1:=(List.mem_filter.1 ha).2
   simp only [aheadC,decide_eq_true_eq] at h1
   omega
  ·split at ha
   ·simp at ha
   ·simp only [List.mem_singleton] at ha
    subst ha
    exact h2
theorem withS_has {l : List Fil} (h : Srtd l) (c r : Int) {f : Fil} (hf : l[zIQ l c r]? = some f) (hr : f.row = r) (hc : f.col = c) (t : Bs) : zCD l c r t = if t = [] then l.eraseIdx (zIQ l c r) else l.set (zIQ l c r) ⟨c,r,t⟩:=by
 have e : l.drop (zIQ l c r) = l.filter (isC c r) ++ l.filter (zA9 c r):=(drop_pos h c r).trans (zL5 h c r)
 have hq : l.filter (isC c r) = [f]:=by
  rcases at_pos h c r with ⟨g,hg,_,_,h4⟩ | ⟨_,h4⟩
  ·rw [hf] at hg; cases hg; exact h4
  ·exact absurd ⟨hr,hc⟩ (h4 f hf)
 have hlt:=(zg hf).1
 have hd : l.drop (zIQ l c r + 1) = l.filter (zA9 c r):=by
  rw [hq,List.drop_eq_getElem_cons hlt] at e
  simp only [List.cons_append,List.nil_append,List.cons.injEq] at e
  exact e.2
 unfold zCD
 rw [← take_pos h c r,← hd]
 split
 ·rw [List.append_nil,List.eraseIdx_eq_take_drop_succ]
 ·rw [List.set_eq_take_append_cons_drop,if_pos hlt,List.append_assoc]
  rfl
theorem withS_not {l : List Fil} (h : Srtd l) (c r : Int) (hn : ∀ f,l[zIQ l c r]? = some f → ¬ (f.row = r ∧ f.col = c)) (t : Bs) : zCD l c r t = if t = [] then l else l.take (zIQ l c r) ++ ⟨c,r,t⟩ :: l.drop (zIQ l c r):=by
 have e : l.drop (zIQ l c r) = l.filter (isC c r) ++ l.filter (zA9 c r):=(drop_pos h c r).trans (zL5 h c r)
 have hq : l.filter (isC c r) = []:=by
  rcases at_pos h c r with ⟨g,hg,h1,h2,_⟩ | ⟨h4,_⟩
  ·exact absurd ⟨h1,h2⟩ (hn g hg)
  ·exact h4
 rw [hq,List.nil_append] at e
 unfold zCD
 rw [← take_pos h c r,← e]
 split
 ·rw [List.append_nil,List.take_append_drop]
 ·rw [List.append_assoc]; rfl
end Go.AM
