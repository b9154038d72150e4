/- Several texts of mine in one (Am25, Cv, Cw0, Am27, Am29). Own work. -/
import Derived.Test.YtmiknjjfgndddaaDoorGAm22Err
set_option linter.all false
namespace Go.AM
structure retQ (F : AF) (H : Heap) (fr : Fr) (H1 : Heap) (Q : AV → Heap → Prop) : Prop where
 h : ∃ v H',zEl F H fr H1 v H' ∧ Q v H'
theorem sRetQ {F : AF} {H : Heap} {fr : Fr} {H1 : Heap} {Q : AV → Heap → Prop} {v : AV} {H' : Heap} (h : retP F H fr H1 v H') (q : Q v H') : retQ F H fr H1 Q:=⟨v,H',zGJ.1 h,q⟩
def finF (F : AF) (H : Heap) (v : AV) (H' : Heap) : Post:=fun e fr H1=>match e with
  | .normal=>retP F H fr H1 v H'
  | .ret=>retP F H fr H1 v H'
  | _=>False
theorem zEd {C : CSpec} {GT : Nat → Option AV} {F : AF} {args : List AV} {H : Heap} {v : AV} {H' : Heap} (h : EW C GT F.body (finF F H v H') (zCp 0 args) H) : EFun C GT F args H v H':=h
def finQ (F : AF) (H : Heap) (Q : AV → Heap → Prop) : Post:=fun e fr H1=>match e with
  | .normal=>retQ F H fr H1 Q
  | .ret=>retQ F H fr H1 Q
  | _=>False
def zG5 (C : CSpec) (GT : Nat → Option AV) (F : AF) (args : List AV) (H : Heap) (Q : AV → Heap → Prop) : Prop:=EW C GT F.body (finQ F H Q) (zCp 0 args) H
def AC.rest : AC → AC
 | .seq _ b=>b
 | c=>c
def AC.first : AC → AC
 | .seq a _=>a
 | c=>c
def AC.body : AC → AC
 | .block _ _ c=>c
 | .loop _ c=>c
 | c=>c
def AC.behind (c : AC) : Nat → AC
 | 0=>c
 | n + 1=>(c.behind n).rest
theorem zEe {C : CSpec} {GT : Nat → Option AV} {F : AF} {args : List AV} {H : Heap} {Q : AV → Heap → Prop} (hd : det F.body = true) (h : zG5 C GT F args H Q) : ∃ v H',Q v H' ∧ AFun C GT F args H v H':=by
 have h1 : AW C GT F.body (fun e fr H1=>match e with
   | .normal=>∃ v H',zEl F H fr H1 v H' ∧ Q v H'
   | .ret=>∃ v H',zEl F H fr H1 v H' ∧ Q v H'
   | _=>False) (zCp 0 args) H:=by
  refine zEN _ _ _ _ _ H rfl (fun e f f' H1 hf h=>?_) h
  have : retQ F H f H1 Q → ∃ v H',zEl F H f' H1 v H' ∧ Q v H':=fun ⟨v,H',h,q⟩=>⟨v,H',by
   unfold zEl at h ⊢
   rw [← zBI hf]; exact h,q⟩
  cases e with
  | normal=>exact this h
  | ret=>exact this h
  | _=>exact h
 obtain ⟨e,fr',H1,hk,hall⟩:=zHj _ hd _ _ _ h1
 cases e with
 | normal=>obtain ⟨v,H',hr,hq⟩:=hk; exact ⟨v,H',hq,hall _ hr⟩
 | exit id=>exact hk.elim
 | goto l=>exact hk.elim
 | pan x=>exact hk.elim
 | ret=>obtain ⟨v,H',hr,hq⟩:=hk; exact ⟨v,H',hq,hall _ hr⟩
theorem zDV {P : Program} {GT : Nat → Option AV} (hm : P.follows .mixedOrders = true) {f : FuncId} {F : AF} (hc : zF9 P f F = true) {args : List AV} {H : Heap} {Q : AV → Heap → Prop} (h : zG5 (Good P GT) GT F args H Q) (hn : zCa args = true:=by first | rfl | exact Go.AM.zBQ (by assumption) | exact Go.AM.zDI (by assumption) | exact Go.AM.zDJ (by assumption)) (hd : det F.body = true:=by rfl) : ∃ v H',Q v H' ∧ Good P GT f args H v H':=by
 obtain ⟨v,H',hq,ha⟩:=zEe hd h
 exact ⟨v,H',hq,zDC hm hc ha hn⟩
end Go.AM
namespace Go.AM
abbrev Fld:=List UInt8
inductive CR where
 | ok (rows : List (List Fld))
 | bad (at_ : Nat)
def mach : List UInt8 → Nat → Nat → Fld → List Fld → List (List Fld) → CR
 | [],i,st,f,row,out=>if st = 2 then .bad i else if st = 0 ∧ row = [] then .ok out else .ok (out ++ [row ++ [f]])
 | c :: s,i,st,f,row,out=>
  if st = 2 then
   (if c = 34 then (if s.head? = some 34 then mach s.tail (i + 2) 2 (f ++ [34]) row out else mach s (i + 1) 3 f row out) else mach s (i + 1) 2 (f ++ [c]) row out)
  else if c = 10 then mach s (i + 1) 0 [] [] (out ++ [row ++ [f]])
  else if c = 13 ∧ s.head? = some 10 then mach s.tail (i + 2) 0 [] [] (out ++ [row ++ [f]])
  else if c = 44 then mach s (i + 1) 0 [] (row ++ [f]) out
  else if st = 3 ∨ (st = 1 ∧ c = 34) then .bad i
  else if c = 34 then mach s (i + 1) 2 f row out
  else mach s (i + 1) 1 (f ++ [c]) row out
termination_by s=>s.length
decreasing_by all_goals (simp only [List.length_tail,List.length_cons]; omega)
section
variable {s : List UInt8} {i : Nat} {c : UInt8} {st : Nat} {f : Fld} {row : List Fld} {out : List (List Fld)}
end
def zI4 (r : List Fld) : AV:=lstF 1 (r.map AV.str)
def zCU (v : AV) (t : List (List Fld)) : Prop:=∃ xs,zCI v 1 xs ∧ xs.length = t.length ∧ ∀ (i : Nat) (r : List Fld),t[i]? = some r → ∃ x,xs[i]? = some x ∧ zCI x 1 (r.map AV.str)
theorem Owns.other {H0 H : Heap} {v : AV} {k : Nat} {xs : List AV} (h : Owns H0 H v k xs) {H' : Heap} {n : Nat} (hn : ∀ b,v.blk = some b → b < n) (hk : ∀ b x,b < n → H[b]? = some x → H'[b]? = some x) : Owns H0 H' v k xs:=
 h.keep fun b x hb hx=>hk b x (hn b hb) hx
end Go.AM
set_option maxRecDepth 20000
namespace Go.AM
def zu : Fld → Fld
 | []=>[]
 | c :: r=>if c = 34 then 34 :: 34 :: zu r else c :: zu r
def zBZ (c : UInt8) : Bool:=c == 44 || (c == 34 || (c == 10 || c == 13))
def zI5 (one : Bool) (f : Fld) : Bool:=(decide (f = []) && one) || f.any zBZ
def zAR (one : Bool) (f : Fld) : Fld:=if zI5 one f = true then 34 :: (zu f ++ [34]) else f
def zL (one : Bool) : Bool → List Fld → Fld
 | _,[]=>[]
 | b,f :: r=>(if b = true then [] else [44]) ++ (zAR one f ++ zL one false r)
def zIC (r : List Fld) : Fld:=zL (decide (r.length = 1)) true r ++ [10]
def zj : List (List Fld) → Fld
 | []=>[]
 | r :: t=>zIC r ++ zj t
theorem zDW (one : Bool) (f : Fld) : ∀ (b : Bool) (l : List Fld),zL one b (l ++ [f]) = zL one b l ++ ((if b = true ∧ l = [] then [] else [44]) ++ zAR one f)
 | b,[]=>by
  cases b with
  | true=>simp [zL]
  | false=>simp [zL]
 | b,g :: l=>by
  show (if b = true then [] else [44]) ++ (zAR one g ++ zL one false (l ++ [f])) = ((if b = true then [] else [44]) ++ (zAR one g ++ zL one false l)) ++ _
  rw [zDW one f false l]
  simp [List.append_assoc]
theorem zFO (r : List Fld) : ∀ t : List (List Fld),zj (t ++ [r]) = zj t ++ zIC r
 | []=>by simp [zj]
 | a :: t=>by
  show zIC a ++ zj (t ++ [r]) = (zIC a ++ zj t) ++ zIC r
  rw [zFO r t,List.append_assoc]
theorem zGN : ∀ t u : List (List Fld),zj (t ++ u) = zj t ++ zj u
 | [],_=>rfl
 | a :: t,u=>by
  show zIC a ++ zj (t ++ u) = (zIC a ++ zj t) ++ zj u
  rw [zGN t u,List.append_assoc]
theorem zDz (one : Bool) : ∀ (b : Bool) (l u : List Fld),(zL one b l).length ≤ (zL one b (l ++ u)).length
 | b,[],u=>Nat.zero_le _
 | b,g :: l,u=>by
  show ((if b = true then [] else [44]) ++ (zAR one g ++ zL one false l)).length ≤ ((if b = true then [] else [44]) ++ (zAR one g ++ zL one false (l ++ u))).length
  have:=zDz one false l u
  simp only [List.length_append]; omega
def zD0 (t : List (List Fld)) : Nat:=if t.any (fun r=>decide (r = [])) = true then 3 else if 4000 < (zj t).length then 4 else 0
def zID (t : List (List Fld)) : Fld:=if zD0 t = 0 then zj t else []
theorem zGO (t : List (List Fld)) (i k : Nat) (r : List Fld) (hr : t[i]? = some r) : (zj (t.take i)).length + (zL (decide (r.length = 1)) true (r.take k)).length ≤ (zj t).length:=by
 have hi:=(zg hr).1
 have e : t = t.take i ++ (r :: t.drop (i + 1)):=by
  have h2 : t.drop i = r :: t.drop (i + 1):=by
   rw [List.drop_eq_getElem_cons hi,(zg hr).2]
  rw [← h2,List.take_append_drop]
 have h3 : (zj t).length = (zj (t.take i)).length + ((zIC r).length + (zj (t.drop (i + 1))).length):=by
  have : zj t = zj (t.take i) ++ (zIC r ++ zj (t.drop (i + 1))):=by
   conv=>lhs; rw [e]
   rw [zGN]; rfl
  rw [this,List.length_append,List.length_append]
 have h4:=zDz (decide (r.length = 1)) true (r.take k) (r.drop k)
 rw [List.take_append_drop] at h4
 have h5 : (zIC r).length = (zL (decide (r.length = 1)) true r).length + 1:=by unfold zIC; rw [List.length_append]; rfl
 omega
theorem zCl : ∀ f : Fld,f.length ≤ (zu f).length ∧ (zu f).length ≤ 2 * f.length
 | []=>⟨Nat.le_refl _,Nat.le_refl _⟩
 | c :: r=>by
  have:=zCl r
  show _ ≤ (if c = 34 then 34 :: 34 :: zu r else c :: zu r).length ∧ (if c = 34 then 34 :: 34 :: zu r else c :: zu r).length ≤ _
  split <;> simp only [List.length_cons] <;> omega
theorem zIE : ∀ {f : Fld},(∀ c ∈ f,c ≠ 34) → zu f = f
 | [],_=>rfl
 | c :: r,h=>by
  show (if c = 34 then 34 :: 34 :: zu r else c :: zu r) = _
  rw [if_neg (h c (by simp)),zIE fun x hx=>h x (List.mem_cons_of_mem _ hx)]
theorem zEf : ∀ f g : Fld,zu (f ++ g) = zu f ++ zu g
 | [],_=>rfl
 | c :: r,g=>by
  show (if c = 34 then 34 :: 34 :: zu (r ++ g) else c :: zu (r ++ g)) = (if c = 34 then 34 :: 34 :: zu r else c :: zu r) ++ zu g
  rw [zEf r g]
  split <;> rfl
theorem zI6 (one : Bool) (f : Fld) : (zAR one f).length ≤ 2 * f.length + 2:=by
 unfold zAR
 have:=zCl f
 split
 ·simp only [List.length_cons,List.length_append,List.length_nil]; omega
 ·omega
section
variable (row : List Fld) (out : List (List Fld))
end
end Go.AM
namespace Go.AM
theorem Owns.apart {H0 H : Heap} {v w : AV} {k k' : Nat} {xs ys : List AV} (h : Owns H0 H v k xs) (g : Owns H0 H w k' ys) (hne : ∀ x y,x ∈ xs → y ∈ ys → x ≠ y) {b : Nat} (hb : w.blk = some b) : v.blk ≠ some b:=by
 intro e
 rcases h with ⟨rfl,_⟩ | ⟨b1,rfl,_,h2,h3⟩
 ·cases e
 ·rcases g with ⟨rfl,_⟩ | ⟨b2,rfl,_,g2,g3⟩
  ·cases hb
  ·simp only [AV.blk,Option.some.injEq] at e hb
   subst e; subst hb
   rw [h2] at g2
   simp only [Option.some.injEq,ABlk.row.injEq] at g2
   obtain ⟨_,rfl⟩:=g2
   cases xs with
   | nil=>exact h3 rfl
   | cons x xs=>exact hne x x (by simp) (by simp) rfl
theorem Owns.after {H0 H H' : Heap} {v w : AV} {k : Nat} {ys : List AV} (hw : Owns H0 H w k ys) (hap : ∀ b,w.blk = some b → v.blk ≠ some b) (hfr : ∀ c x,v.blk ≠ some c → H[c]? = some x → H'[c]? = some x) : Owns H0 H' w k ys:=
 hw.keep fun b x hb hx=>hfr b x (hap b hb) hx
def zFP : AC → Option (List Nat)
 | .reg L _ _=>some L
 | .seq a _=>zFP a
 | .block _ _ c=>zFP c
 | .loop L _=>some L
 | .regt L _ _ _=>some L
 | .scope _ _ c _=>zFP c
 | _=>none
theorem zJo {C : CSpec} {GT : Nat → Option AV} {fr F : Fr} {H : Heap} {L : List Nat} (hr : zO fr L = zO F L) : ∀ (c : AC) (K : Post),zFP c = some L → EW C GT c K F H → EW C GT c K fr H:=by
 intro c
 induction c with
 | reg L' d ops=>
  intro K h g
  simp only [zFP,Option.some.injEq] at h
  subst h
  replace g : EWops C GT ops [] (zO F L') H (fun fr' H'=>K .normal fr' H'):=g
  rw [← hr] at g
  exact g
 | seq a b iha ihb=>intro K h g; exact iha (zJI (EW C GT b K) K) h g
 | block id L' c ih=>intro K h g; exact ih (zDs id L' K) h g
 | loop L' c ih=>
  intro K h g
  simp only [zFP,Option.some.injEq] at h
  subst h
  replace g : loopP C GT L' c K (zO F L') H:=g
  rw [← hr] at g
  exact g
 | regt L' d ops t=>
  intro K h g
  simp only [zFP,Option.some.injEq] at h
  subst h
  replace g : EWT C GT ops t [] (zO F L') H (fun fr' H'=>K .normal fr' H') (fun x H'=>K (.pan x) [] H'):=g
  rw [← hr] at g
  exact g
 | scope L' l c r ihc ihr=>intro K h g; exact ihc (zD6 l (fun fr' H'=>gotoP C GT L' l r K (zO fr' L') H') K) h g
 | label=>intro K h; cases h
 | goto=>intro K h; cases h
 | skip=>intro K h; cases h
 | cond=>intro K h; cases h
 | exit=>intro K h; cases h
 | ret=>intro K h; cases h
 | stuck=>intro K h; cases h
theorem zKB {C : CSpec} {GT : Nat → Option AV} {c : AC} {K : Post} {L : List Nat} {fr F : Fr} {H : Heap} (hc : zFP c = some L) (g : EW C GT c K F H) (hr : zO fr L = zO F L) : zJI (EW C GT c K) K .normal fr H:=
 zJo hr c K hc g
end Go.AM
namespace Go.AM
def zAI (k : Nat) : AV:=.int .i64 k
theorem zIF {b k s o : Nat} {v : AV} {cs : List AV} (cs' : List AV) {H : Heap} {K : AV → Heap → Prop} (h : H[b]? = some (.box cs)) (hl : v.cells.length = s) (h1 : v.cells.all AV.one = true) (ho : Nat.ble (o + s) cs.length = true) (he : splice cs o v.cells = cs')
  (q : K .undef (H.set b (.box cs'))) : actP (.store s) [.ref b k 0 o,v] H K:=
 zH0 h hl h1 (Nat.le_of_ble_eq_true ho) (by rw [he]; exact q)
theorem zCI.one {v : AV} {k : Nat} {xs : List AV} (h : zCI v k xs) : v.cells = [v] ∧ v.one = true:=by obtain ⟨q,k',rfl,_⟩:=h; exact ⟨rfl,rfl⟩
theorem Owns.one {H0 H : Heap} {v : AV} {k : Nat} {xs : List AV} (h : Owns H0 H v k xs) : v.cells = [v] ∧ v.one = true:=by
 rcases h with ⟨rfl,_⟩ | ⟨b',rfl,_⟩ <;> exact ⟨rfl,rfl⟩
end Go.AM
