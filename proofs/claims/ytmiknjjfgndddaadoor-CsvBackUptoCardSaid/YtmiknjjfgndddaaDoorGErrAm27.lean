/- Several texts of mine in one (Err, Am25, Cv, Cw0, Am27). Own work. -/
import Derived.Test.YtmiknjjfgndddaaDoorGAm22Fc
set_option linter.all false
namespace Go.AM
def zHZ (n : Int) : AV:=.iface zj (.int .i64 n)
end Go.AM
namespace Go.AM
structure retQ (F : AF) (H : Heap) (fr : Fr) (H1 : Heap) (Q : AV → Heap → Prop) : Prop where
 h : ∃ v H',zEk F H fr H1 v H' ∧ Q v H'
theorem sRetQ {F : AF} {H : Heap} {fr : Fr} {H1 : Heap} {Q : AV → Heap → Prop} {v : AV} {H' : Heap} (h : retP F H fr H1 v H') (q : Q v H') : retQ F H fr H1 Q:=⟨v,H',zGP.1 h,q⟩
def finF (F : AF) (H : Heap) (v : AV) (H' : Heap) : Post:=fun e fr H1=>match e with
  | .normal=>retP F H fr H1 v H'
  | .ret=>retP F H fr H1 v H'
  | _=>False
theorem zF2 {C : CSpec} {GT : Nat → Option AV} {F : AF} {args : List AV} {H : Heap} {v : AV} {H' : Heap} (h : EW C GT F.body (finF F H v H') (zCn 0 args) H) : EFun C GT F args H v H':=h
def finQ (F : AF) (H : Heap) (Q : AV → Heap → Prop) : Post:=fun e fr H1=>match e with
  | .normal=>retQ F H fr H1 Q
  | .ret=>retQ F H fr H1 Q
  | _=>False
def zHL (C : CSpec) (GT : Nat → Option AV) (F : AF) (args : List AV) (H : Heap) (Q : AV → Heap → Prop) : Prop:=EW C GT F.body (finQ F H Q) (zCn 0 args) H
def AC.rest : AC → AC
 | .seq _ b=>b
 | c=>c
def AC.first : AC → AC
 | .seq a _=>a
 | c=>c
def AC.body : AC → AC
 | .block _ _ c=>c
 | .loop _ c=>c
 | c=>c
def AC.behind (c : AC) : Nat → AC
 | 0=>c
 | n + 1=>(c.behind n).rest
theorem zEZ {C : CSpec} {GT : Nat → Option AV} {F : AF} {args : List AV} {H : Heap} {Q : AV → Heap → Prop} (hd : det F.body = true) (h : zHL C GT F args H Q) : ∃ v H',Q v H' ∧ AFun C GT F args H v H':=by
 have h1 : AW C GT F.body (fun e fr H1=>match e with
   | .normal=>∃ v H',zEk F H fr H1 v H' ∧ Q v H'
   | .ret=>∃ v H',zEk F H fr H1 v H' ∧ Q v H'
   | _=>False) (zCn 0 args) H:=by
  refine zEJ _ _ _ _ _ H rfl (fun e f f' H1 hf h=>?_) h
  have : retQ F H f H1 Q → ∃ v H',zEk F H f' H1 v H' ∧ Q v H':=fun ⟨v,H',h,q⟩=>⟨v,H',by
   unfold zEk at h ⊢
   rw [← zBE hf]; exact h,q⟩
  cases e with
  | normal=>exact this h
  | ret=>exact this h
  | _=>exact h
 obtain ⟨e,fr',H1,hk,hall⟩:=zH6 _ hd _ _ _ h1
 cases e with
 | normal=>obtain ⟨v,H',hr,hq⟩:=hk; exact ⟨v,H',hq,hall _ hr⟩
 | exit id=>exact hk.elim
 | goto l=>exact hk.elim
 | pan x=>exact hk.elim
 | ret=>obtain ⟨v,H',hr,hq⟩:=hk; exact ⟨v,H',hq,hall _ hr⟩
theorem zDP {P : Program} {GT : Nat → Option AV} (hm : P.follows .mixedOrders = true) {f : FuncId} {F : AF} (hc : zFa P f F = true) {args : List AV} {H : Heap} {Q : AV → Heap → Prop} (h : zHL (Good P GT) GT F args H Q) (hn : zCX args = true:=by first | rfl | exact Go.AM.zBI (by assumption) | exact Go.AM.zDF (by assumption) | exact Go.AM.zDG (by assumption)) (hd : det F.body = true:=by rfl) : ∃ v H',Q v H' ∧ Good P GT f args H v H':=by
 obtain ⟨v,H',hq,ha⟩:=zEZ hd h
 exact ⟨v,H',hq,zDA hm hc ha hn⟩
def nV (k : Nat) : AV:=.int .i64 k
end Go.AM
namespace Go.AM
abbrev Fld:=List UInt8
inductive CR where
 | ok (rows : List (List Fld))
 | bad (at_ : Nat)
def mach : List UInt8 → Nat → Nat → Fld → List Fld → List (List Fld) → CR
 | [],i,st,f,row,out=>if st = 2 then .bad i else if st = 0 ∧ row = [] then .ok out else .ok (out ++ [row ++ [f]])
 | c :: s,i,st,f,row,out=>
  if st = 2 then
   (if c = 34 then (if s.head? = some 34 then mach s.tail (i + 2) 2 (f ++ [34]) row out else mach s (i + 1) 3 f row out) else mach s (i + 1) 2 (f ++ [c]) row out)
  else if c = 10 then mach s (i + 1) 0 [] [] (out ++ [row ++ [f]])
  else if c = 13 ∧ s.head? = some 10 then mach s.tail (i + 2) 0 [] [] (out ++ [row ++ [f]])
  else if c = 44 then mach s (i + 1) 0 [] (row ++ [f]) out
  else if st = 3 ∨ (st = 1 ∧ c = 34) then .bad i
  else if c = 34 then mach s (i + 1) 2 f row out
  else mach s (i + 1) 1 (f ++ [c]) row out
termination_by s=>s.length
decreasing_by all_goals (simp only [List.length_tail,List.length_cons]; omega)
def endsL : List UInt8 → Bool
 | []=>false
 | c :: s=>c == 44 || (c == 10 || (c == 13 && s.head? == some 10))
def zHM (s : List UInt8) : CR:=mach s 0 0 [] [] []
theorem zEa (i st : Nat) (f : Fld) (row : List Fld) (out : List (List Fld)) : mach [] i st f row out = if st = 2 then .bad i else if st = 0 ∧ row = [] then .ok out else .ok (out ++ [row ++ [f]]):=by rw [mach]
theorem z1 (c : UInt8) (s : List UInt8) (i st : Nat) (f : Fld) (row : List Fld) (out : List (List Fld)) : mach (c :: s) i st f row out =
  if st = 2 then
   (if c = 34 then (if s.head? = some 34 then mach s.tail (i + 2) 2 (f ++ [34]) row out else mach s (i + 1) 3 f row out) else mach s (i + 1) 2 (f ++ [c]) row out)
  else if c = 10 then mach s (i + 1) 0 [] [] (out ++ [row ++ [f]])
  else if c = 13 ∧ s.head? = some 10 then mach s.tail (i + 2) 0 [] [] (out ++ [row ++ [f]])
  else if c = 44 then mach s (i + 1) 0 [] (row ++ [f]) out
  else if st = 3 ∨ (st = 1 ∧ c = 34) then .bad i
  else if c = 34 then mach s (i + 1) 2 f row out
  else mach s (i + 1) 1 (f ++ [c]) row out:=by rw [mach]
section
variable {s : List UInt8} {i : Nat} {c : UInt8} {st : Nat} {f : Fld} {row : List Fld} {out : List (List Fld)}
theorem zEb (h : s[i]? = some c) : mach (s.drop i) i st f row out = if st = 2 then
   (if c = 34 then (if s[i + 1]? = some 34 then mach (s.drop (i + 2)) (i + 2) 2 (f ++ [34]) row out else mach (s.drop (i + 1)) (i + 1) 3 f row out) else mach (s.drop (i + 1)) (i + 1) 2 (f ++ [c]) row out)
  else if c = 10 then mach (s.drop (i + 1)) (i + 1) 0 [] [] (out ++ [row ++ [f]])
  else if c = 13 ∧ s[i + 1]? = some 10 then mach (s.drop (i + 2)) (i + 2) 0 [] [] (out ++ [row ++ [f]])
  else if c = 44 then mach (s.drop (i + 1)) (i + 1) 0 [] (row ++ [f]) out
  else if st = 3 ∨ (st = 1 ∧ c = 34) then .bad i
  else if c = 34 then mach (s.drop (i + 1)) (i + 1) 2 f row out
  else mach (s.drop (i + 1)) (i + 1) 1 (f ++ [c]) row out:=by
 rw [zDH h,z1]
 have e1 : (s.drop (i + 1)).head? = s[i + 1]?:=by rw [List.head?_drop]
 have e2 : (s.drop (i + 1)).tail = s.drop (i + 2):=by rw [List.tail_drop]
 rw [e1,e2]
theorem zB7 (h : s.length ≤ i) : mach (s.drop i) i st f row out = if st = 2 then .bad i else if st = 0 ∧ row = [] then .ok out else .ok (out ++ [row ++ [f]]):=by
 rw [List.drop_eq_nil_of_le h,zEa]
theorem zId (h : s[i]? = some c) : endsL (s.drop i) = (c == 44 || (c == 10 || (c == 13 && s[i + 1]? == some 10))):=by
 rw [zDH h]
 show (c == 44 || (c == 10 || (c == 13 && (s.drop (i + 1)).head? == some 10))) = _
 rw [List.head?_drop]
end
def zB8 (r : List Fld) : AV:=zHY 1 (r.map AV.str)
def zBF (t : List (List Fld)) : AV:=zHY 1 (t.map zB8)
def zBU (v : AV) (t : List (List Fld)) : Prop:=∃ xs,zB5 v 1 xs ∧ xs.length = t.length ∧ ∀ (i : Nat) (r : List Fld),t[i]? = some r → ∃ x,xs[i]? = some x ∧ zB5 x 1 (r.map AV.str)
theorem zCl (t : List (List Fld)) : zBU (zBF t) t:=
 ⟨t.map zB8,zIT _ _,by simp,fun i r h=>⟨zB8 r,by rw [List.getElem?_map,h]; rfl,zIT _ _⟩⟩
def zJt : CR → AV
 | .ok t=>.tup [zBF t,.int .i64 0,.nili]
 | .bad p=>.tup [.lst (some true) 0 [],nV p,zHZ 2]
def zDW (s : List UInt8) : AV:=if 4000 < s.length then .tup [.lst (some true) 0 [],.int .i64 0,zHZ 4] else zJt (zHM s)
theorem Owns.other {H0 H : Heap} {v : AV} {k : Nat} {xs : List AV} (h : Owns H0 H v k xs) {H' : Heap} {n : Nat} (hn : ∀ b,v.blk = some b → b < n) (hk : ∀ b x,b < n → H[b]? = some x → H'[b]? = some x) : Owns H0 H' v k xs:=
 h.keep fun b x hb hx=>hk b x (hn b hb) hx
end Go.AM
set_option maxRecDepth 20000
namespace Go.AM
def zCa : Fld → Fld
 | []=>[]
 | c :: r=>if c = 34 then 34 :: 34 :: zCa r else c :: zCa r
def zEl (c : UInt8) : Bool:=c == 44 || (c == 34 || (c == 10 || c == 13))
def zJu (one : Bool) (f : Fld) : Bool:=(decide (f = []) && one) || f.any zEl
def zBl (one : Bool) (f : Fld) : Fld:=if zJu one f = true then 34 :: (zCa f ++ [34]) else f
def za (one : Bool) : Bool → List Fld → Fld
 | _,[]=>[]
 | b,f :: r=>(if b = true then [] else [44]) ++ (zBl one f ++ za one false r)
def zF3 (r : List Fld) : Fld:=za (decide (r.length = 1)) true r ++ [10]
def z2 : List (List Fld) → Fld
 | []=>[]
 | r :: t=>zF3 r ++ z2 t
theorem zDQ (one : Bool) (f : Fld) : ∀ (b : Bool) (l : List Fld),za one b (l ++ [f]) = za one b l ++ ((if b = true ∧ l = [] then [] else [44]) ++ zBl one f)
 | b,[]=>by
  cases b with
  | true=>simp [za]
  | false=>simp [za]
 | b,g :: l=>by
  show (if b = true then [] else [44]) ++ (zBl one g ++ za one false (l ++ [f])) = ((if b = true then [] else [44]) ++ (zBl one g ++ za one false l)) ++ _
  rw [zDQ one f false l]
  simp [List.append_assoc]
theorem zFR (r : List Fld) : ∀ t : List (List Fld),z2 (t ++ [r]) = z2 t ++ zF3 r
 | []=>by simp [z2]
 | a :: t=>by
  show zF3 a ++ z2 (t ++ [r]) = (zF3 a ++ z2 t) ++ zF3 r
  rw [zFR r t,List.append_assoc]
theorem zGV : ∀ t u : List (List Fld),z2 (t ++ u) = z2 t ++ z2 u
 | [],_=>rfl
 | a :: t,u=>by
  show zF3 a ++ z2 (t ++ u) = (zF3 a ++ z2 t) ++ z2 u
  rw [zGV t u,List.append_assoc]
theorem zDx (one : Bool) : ∀ (b : Bool) (l u : List Fld),(za one b l).length ≤ (za one b (l ++ u)).length
 | b,[],u=>Nat.zero_le _
 | b,g :: l,u=>by
  show ((if b = true then [] else [44]) ++ (zBl one g ++ za one false l)).length ≤ ((if b = true then [] else [44]) ++ (zBl one g ++ za one false (l ++ u))).length
  have:=zDx one false l u
  simp only [List.length_append]; omega
def zF4 (t : List (List Fld)) : Nat:=if t.any (fun r=>decide (r = [])) = true then 3 else if 4000 < (z2 t).length then 4 else 0
def zKZ (t : List (List Fld)) : Fld:=if zF4 t = 0 then z2 t else []
theorem zJX (t : List (List Fld)) (i k : Nat) (r : List Fld) (hr : t[i]? = some r) : (z2 (t.take i)).length + (za (decide (r.length = 1)) true (r.take k)).length ≤ (z2 t).length:=by
 have hi:=(zg hr).1
 have e : t = t.take i ++ (r :: t.drop (i + 1)):=by
  have h2 : t.drop i = r :: t.drop (i + 1):=by
   rw [List.drop_eq_getElem_cons hi,(zg hr).2]
  rw [← h2,List.take_append_drop]
 have h3 : (z2 t).length = (z2 (t.take i)).length + ((zF3 r).length + (z2 (t.drop (i + 1))).length):=by
  have : z2 t = z2 (t.take i) ++ (zF3 r ++ z2 (t.drop (i + 1))):=by
   conv=>lhs; rw [e]
   rw [zGV]; rfl
  rw [this,List.length_append,List.length_append]
 have h4:=zDx (decide (r.length = 1)) true (r.take k) (r.drop k)
 rw [List.take_append_drop] at h4
 have h5 : (zF3 r).length = (za (decide (r.length = 1)) true r).length + 1:=by unfold zF3; rw [List.length_append]; rfl
 omega
theorem zEc : ∀ f : Fld,f.length ≤ (zCa f).length ∧ (zCa f).length ≤ 2 * f.length
 | []=>⟨Nat.le_refl _,Nat.le_refl _⟩
 | c :: r=>by
  have:=zEc r
  show _ ≤ (if c = 34 then 34 :: 34 :: zCa r else c :: zCa r).length ∧ (if c = 34 then 34 :: 34 :: zCa r else c :: zCa r).length ≤ _
  split <;> simp only [List.length_cons] <;> omega
theorem zJY (one : Bool) (f : Fld) : (zBl one f).length ≤ 2 * f.length + 2:=by
 unfold zBl
 have:=zEc f
 split
 ·simp only [List.length_cons,List.length_append,List.length_nil]; omega
 ·omega
section
variable (row : List Fld) (out : List (List Fld))
theorem zEd : ∀ (f : Fld) (s : Fld) (i : Nat) (g : Fld),s.head? ≠ some 34 → ∃ i',mach (zCa f ++ 34 :: s) i 2 g row out = mach s i' 3 (g ++ f) row out
 | [],s,i,g,h=>by
  refine ⟨i + 1, ?_⟩
  show mach (34 :: s) i 2 g row out = _
  rw [z1,if_pos rfl,if_pos rfl,if_neg h,List.append_nil]
 | c :: r,s,i,g,h=>by
  by_cases hc : c = 34
  ·obtain ⟨i',e⟩:=zEd r s (i + 2) (g ++ [34]) h
   refine ⟨i', ?_⟩
   have e2 : zCa (c :: r) = 34 :: 34 :: zCa r:=if_pos hc
   rw [e2]
   show mach (34 :: 34 :: (zCa r ++ 34 :: s)) i 2 g row out = _
   have hh : (34 :: (zCa r ++ 34 :: s)).head? = some 34:=rfl
   rw [z1,if_pos rfl,if_pos rfl,if_pos hh]
   show mach (zCa r ++ 34 :: s) (i + 2) 2 (g ++ [34]) row out = _
   rw [e,hc,List.append_assoc]; rfl
  ·obtain ⟨i',e⟩:=zEd r s (i + 1) (g ++ [c]) h
   refine ⟨i', ?_⟩
   have e2 : zCa (c :: r) = c :: zCa r:=if_neg hc
   rw [e2]
   show mach (c :: (zCa r ++ 34 :: s)) i 2 g row out = _
   rw [z1,if_pos rfl,if_neg hc,e,List.append_assoc]; rfl
theorem zKJ {c : UInt8} (h : zEl c = false) : c ≠ 44 ∧ c ≠ 34 ∧ c ≠ 10 ∧ c ≠ 13:=by
 unfold zEl at h
 simp only [Bool.or_eq_false_iff,beq_eq_false_iff_ne] at h
 exact ⟨h.1,h.2.1,h.2.2.1,h.2.2.2⟩
theorem zGW : ∀ (f : Fld) (s : Fld) (i st : Nat) (g : Fld),(∀ c ∈ f,zEl c = false) → st ≤ 1 → ∃ i' st',st' ≤ 1 ∧ mach (f ++ s) i st g row out = mach s i' st' (g ++ f) row out
 | [],s,i,st,g,_,hs=>⟨i,st,hs,by rw [List.append_nil]; rfl⟩
 | c :: r,s,i,st,g,h,hs=>by
  obtain ⟨i',st',h1,e⟩:=zGW r s (i + 1) 1 (g ++ [c]) (fun x hx=>h x (List.mem_cons_of_mem _ hx)) (Nat.le_refl _)
  obtain ⟨n1,n2,n3,n4⟩:=zKJ (h c (by simp))
  refine ⟨i',st',h1, ?_⟩
  show mach (c :: (r ++ s)) i st g row out = _
  rw [z1,if_neg tO,if_neg n3,if_neg (fun h=>n4 h.1),if_neg n1,if_neg (by rintro (h | h); omega; exact n2 h.2),if_neg n2,e,List.append_assoc]; rfl
theorem zGX (one : Bool) (f : Fld) (c : UInt8) (hc : c ≠ 34) (s : Fld) (i : Nat) : ∃ i' st,st ≠ 2 ∧ mach (zBl one f ++ c :: s) i 0 [] row out = mach (c :: s) i' st f row out:=by
 unfold zBl
 by_cases hq : zJu one f = true
 ·rw [if_pos hq]
  obtain ⟨i',e⟩:=zEd row out f (c :: s) (i + 1) [] (by simpa using hc)
  refine ⟨i',3,by decide, ?_⟩
  have e2 : (34 :: (zCa f ++ [34])) ++ c :: s = 34 :: (zCa f ++ 34 :: c :: s):=by simp
  rw [e2,z1,if_neg (by decide),if_neg (by decide),if_neg (fun h=>by cases h.1),if_neg (by decide),if_neg (by simp),if_pos rfl,e]; rfl
 ·rw [if_neg hq]
  have hn : ∀ x ∈ f,zEl x = false:=fun x hx=>by
   rw [← Bool.not_eq_true]
   exact fun h=>hq (by unfold zJu; rw [Bool.or_eq_true]; exact .inr (List.any_eq_true.2 ⟨x,hx,h⟩))
  obtain ⟨i',st',h1,e⟩:=zGW row out f (c :: s) i 0 [] hn tO
  exact ⟨i',st',by omega,e⟩
end
theorem zDy (one : Bool) (out : List (List Fld)) (s : Fld) : ∀ (fs : List Fld) (i st : Nat) (f : Fld) (row : List Fld),st ≠ 2 → ∃ i',mach (za one false fs ++ 10 :: s) i st f row out = mach s i' 0 [] [] (out ++ [row ++ f :: fs])
 | [],i,st,f,row,h=>by
  refine ⟨i + 1, ?_⟩
  show mach (10 :: s) i st f row out = _
  rw [z1,if_neg h,if_pos rfl]
 | g :: fs,i,st,f,row,h=>by
  have hd : ∃ c s',(c = 44 ∨ c = 10) ∧ za one false fs ++ 10 :: s = c :: s':=by
   cases fs with
   | nil=>exact ⟨10,s,.inr rfl,rfl⟩
   | cons a b=>exact ⟨44,_,.inl rfl,rfl⟩
  obtain ⟨c,s',hc,e⟩:=hd
  obtain ⟨i1,st1,h1,e1⟩:=zGX (row ++ [f]) out one g c (by rcases hc with rfl | rfl <;> decide) s' (i + 1)
  obtain ⟨i',e2⟩:=zDy one out s fs i1 st1 g (row ++ [f]) h1
  refine ⟨i', ?_⟩
  have e3 : za one false (g :: fs) ++ 10 :: s = 44 :: (zBl one g ++ c :: s'):=by
   rw [← e]
   show ([44] ++ (zBl one g ++ za one false fs)) ++ 10 :: s = _
   simp
  rw [e3,z1,if_neg h,if_neg (by decide),if_neg (fun h=>by cases h.1),if_pos rfl,e1,← e,e2]
  simp
theorem zJZ (out : List (List Fld)) (s : Fld) (r : List Fld) (hr : r ≠ []) (i : Nat) : ∃ i',mach (zF3 r ++ s) i 0 [] [] out = mach s i' 0 [] [] (out ++ [r]):=by
 obtain ⟨f,fs,rfl⟩:=List.exists_cons_of_ne_nil hr
 have hd : ∃ c s',(c = 44 ∨ c = 10) ∧ za (decide ((f :: fs).length = 1)) false fs ++ 10 :: s = c :: s':=by
  cases fs with
  | nil=>exact ⟨10,s,.inr rfl,rfl⟩
  | cons a b=>exact ⟨44,_,.inl rfl,rfl⟩
 obtain ⟨c,s',hc,e⟩:=hd
 obtain ⟨i1,st1,h1,e1⟩:=zGX [] out (decide ((f :: fs).length = 1)) f c (by rcases hc with rfl | rfl <;> decide) s' i
 obtain ⟨i',e2⟩:=zDy (decide ((f :: fs).length = 1)) out s fs i1 st1 f [] h1
 refine ⟨i', ?_⟩
 have e3 : zF3 (f :: fs) ++ s = zBl (decide ((f :: fs).length = 1)) f ++ c :: s':=by
  rw [← e]
  unfold zF3
  show (([] ++ (zBl (decide ((f :: fs).length = 1)) f ++ za (decide ((f :: fs).length = 1)) false fs)) ++ [10]) ++ s = _
  simp
 rw [e3,e1,← e,e2]; rfl
theorem zGY : ∀ (t : List (List Fld)) (out : List (List Fld)) (i : Nat),(∀ r ∈ t,r ≠ []) → mach (z2 t) i 0 [] [] out = .ok (out ++ t)
 | [],out,i,_=>by
  show mach [] i 0 [] [] out = _
  rw [zEa,if_neg (by decide),if_pos ⟨rfl,rfl⟩,List.append_nil]
 | r :: t,out,i,h=>by
  obtain ⟨i',e⟩:=zJZ out (z2 t) r (h r (by simp)) i
  show mach (zF3 r ++ z2 t) i 0 [] [] out = _
  rw [e,zGY t (out ++ [r]) i' fun x hx=>h x (List.mem_cons_of_mem _ hx),List.append_assoc]; rfl
theorem zGZ {t : List (List Fld)} (h : zF4 t = 0) : zHM (z2 t) = .ok t ∧ (z2 t).length ≤ 4000:=by
 unfold zF4 at h
 by_cases h1 : t.any (fun r=>decide (r = [])) = true
 ·rw [if_pos h1] at h; cases h
 rw [if_neg h1] at h
 by_cases h2 : 4000 < (z2 t).length
 ·rw [if_pos h2] at h; cases h
 refine ⟨?_,by omega⟩
 exact zGY t [] 0 fun r hr hn=>h1 (List.any_eq_true.2 ⟨r,hr,decide_eq_true hn⟩)
end Go.AM
namespace Go.AM
theorem zIe (x : AV) {H0 H : Heap} {v : AV} {k bytes : Nat} {xs : List AV} {K : AV → Heap → AV → Heap → Prop} (ho : Owns H0 H v k xs) (hH : Old H0 H) (hx : x.plain = true) (he : x.elem k = true) (hb : bytes ≤ 1024) (hl : xs.length + 1 ≤ 137438953472)
  (q : ∀ s H1 v' H',Owns H0 H' v' k (xs ++ [x]) → Old H0 H' → (∀ b,v'.blk = some b → H.length ≤ b) → (∀ c y,v.blk ≠ some c → H[c]? = some y → H'[c]? = some y) → K s H1 v' H') :
  actP (.bslice k) [x] H fun s H1=>actP (.append k bytes) [v,s] H1 (K s H1):=by
 refine zFv (vs':=[x]) (by simp only [zEm,zIM hx]) (by simp [he]) ?_; refine zIQ (H0:=H0) (ho.push _) (hH.push _) zEK hb (by simpa using hl) (by simp) fun v' H' ho' hH' hb' hf=>?_
 exact q _ _ v' H' ho' hH' (fun b e=>by rw [hb'] at e; cases e; simp) fun c y hc hy=>hf c y hc (zM hy)
theorem Owns.apart {H0 H : Heap} {v w : AV} {k k' : Nat} {xs ys : List AV} (h : Owns H0 H v k xs) (g : Owns H0 H w k' ys) (hne : ∀ x y,x ∈ xs → y ∈ ys → x ≠ y) {b : Nat} (hb : w.blk = some b) : v.blk ≠ some b:=by
 intro e
 rcases h with ⟨rfl,_⟩ | ⟨b1,rfl,_,h2,h3⟩
 ·cases e
 ·rcases g with ⟨rfl,_⟩ | ⟨b2,rfl,_,g2,g3⟩
  ·cases hb
  ·simp only [AV.blk,Option.some.injEq] at e hb
   subst e; subst hb
   rw [h2] at g2
   simp only [Option.some.injEq,ABlk.row.injEq] at g2
   obtain ⟨_,rfl⟩:=g2
   cases xs with
   | nil=>exact h3 rfl
   | cons x xs=>exact hne x x (by simp) (by simp) rfl
theorem Owns.after {H0 H H' : Heap} {v w : AV} {k : Nat} {ys : List AV} (hw : Owns H0 H w k ys) (hap : ∀ b,w.blk = some b → v.blk ≠ some b) (hfr : ∀ c x,v.blk ≠ some c → H[c]? = some x → H'[c]? = some x) : Owns H0 H' w k ys:=
 hw.keep fun b x hb hx=>hfr b x (hap b hb) hx
theorem zGa {H0 H : Heap} {v w : AV} {k bytes : Nat} {xs ys : List AV} {K : AV → Heap → AV → Heap → Prop} (ho : Owns H0 H v 1 xs) (hw : Owns H0 H w k ys) (hy : ys ≠ []) (hap : ∀ b,v.blk = some b → w.blk ≠ some b) (hH : Old H0 H) (hb : bytes ≤ 1024) (hl : xs.length + 1 ≤ 137438953472)
  (q : ∀ s H1 v' H',Owns H0 H' v' 1 (xs ++ [zHY k ys]) → Old H0 H' → (∀ c y,v.blk ≠ some c → w.blk ≠ some c → H[c]? = some y → H'[c]? = some y) → K s H1 v' H') :
  actP (.bslice 1) [w] H fun s H1=>actP (.append 1 bytes) [v,s] H1 (K s H1):=by
 obtain ⟨b,hwb,hf,hlb⟩ : ∃ b,w.blk = some b ∧ zB9 0 w H = some (zHY k ys,H.set b (.frz k ys)) ∧ H0.length ≤ b:=by
  rcases hw with ⟨_,rfl⟩ | ⟨b,rfl,h1,h2,h3⟩
  ·exact absurd rfl hy
  ·refine ⟨b,rfl, ?_,h1⟩
   cases ys with
   | nil=>exact absurd rfl hy
   | cons x xs=>
    simp only [zB9,Nat.not_lt_zero,if_false,h2]
    simp [zHY,zI0]
 have hel : (zHY k ys).elem 1 = true:=by cases ys <;> rfl
 refine zGS [zHY k ys] (H.set b (.frz k ys)) (by simp only [zEm,hf]) (by simp [hel]) ?_
 have ho2 : Owns H0 (H.set b (.frz k ys)) v 1 xs:=ho.set (fun e=>hap b e hwb) _
 refine zIQ (H0:=H0) (ho2.push _) ((hH.set hlb _).push _) zEK hb (by simpa using hl) (by simp) fun v' H' ho' hH' hb' hf'=>?_; refine q _ _ v' H' ho' hH' fun c y hc hc2 hy'=>hf' c y hc (zM (zV (fun e=>hc2 (by rw [hwb,e])) hy'))
def zFS : AC → Option (List Nat)
 | .reg L _ _=>some L
 | .seq a _=>zFS a
 | .block _ _ c=>zFS c
 | .loop L _=>some L
 | .regt L _ _ _=>some L
 | .scope _ _ c _=>zFS c
 | _=>none
theorem zKK {C : CSpec} {GT : Nat → Option AV} {fr F : Fr} {H : Heap} {L : List Nat} (hr : zE fr L = zE F L) : ∀ (c : AC) (K : Post),zFS c = some L → EW C GT c K F H → EW C GT c K fr H:=by
 intro c
 induction c with
 | reg L' d ops=>
  intro K h g
  simp only [zFS,Option.some.injEq] at h
  subst h
  replace g : EWops C GT ops [] (zE F L') H (fun fr' H'=>K .normal fr' H'):=g
  rw [← hr] at g
  exact g
 | seq a b iha ihb=>intro K h g; exact iha (zJo (EW C GT b K) K) h g
 | block id L' c ih=>intro K h g; exact ih (zCS id L' K) h g
 | loop L' c ih=>
  intro K h g
  simp only [zFS,Option.some.injEq] at h
  subst h
  replace g : loopP C GT L' c K (zE F L') H:=g
  rw [← hr] at g
  exact g
 | regt L' d ops t=>
  intro K h g
  simp only [zFS,Option.some.injEq] at h
  subst h
  replace g : EWT C GT ops t [] (zE F L') H (fun fr' H'=>K .normal fr' H') (fun x H'=>K (.pan x) [] H'):=g
  rw [← hr] at g
  exact g
 | scope L' l c r ihc ihr=>intro K h g; exact ihc (zD2 l (fun fr' H'=>gotoP C GT L' l r K (zE fr' L') H') K) h g
 | label=>intro K h; cases h
 | goto=>intro K h; cases h
 | skip=>intro K h; cases h
 | cond=>intro K h; cases h
 | exit=>intro K h; cases h
 | ret=>intro K h; cases h
 | stuck=>intro K h; cases h
theorem zJa {C : CSpec} {GT : Nat → Option AV} {c : AC} {K : Post} {L : List Nat} {fr F : Fr} {H : Heap} (hc : zFS c = some L) (g : EW C GT c K F H) (hr : zE fr L = zE F L) : zJo (EW C GT c K) K .normal fr H:=
 zKK hr c K hc g
end Go.AM
