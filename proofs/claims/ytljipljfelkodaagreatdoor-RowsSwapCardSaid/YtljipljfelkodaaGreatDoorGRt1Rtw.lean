/- Several texts of mine in one (Rt1, Rt2, Rt3, Rt4, Rtw). Own work. -/
import Derived.Test.YtljipljfelkodaaGreatDoorGSf0Rt0
import Derived.Test.YtljipljfelkodaaGreatDoorGAm30Fp1
set_option linter.all false
set_option maxRecDepth 20000
namespace Go.AM
def Stop (l : Nat) (s : Bs) (a : Nat) : Prop:=∀ op e,zGn s a = some (op,e) → tight op < l
end Go.AM
set_option maxRecDepth 20000
namespace Go.AM
theorem dollar_cons (c : UInt8) (r : Bs) : dollar (c :: r) = if c = 36 then (true,r) else (false,c :: r):=rfl
end Go.AM
set_option maxRecDepth 20000
namespace Go.AM
theorem zLs (n : Nd) : 1 ≤ zAr n:=by
 unfold zAr
 split
 ·exact (zJo _).1
 ·omega
end Go.AM
set_option maxRecDepth 20000
namespace Go.AM
theorem quo_lenR : ∀ (l : Bs) (i : Nat) (t : Bs) (e : Nat),quo l i = some (t,e) → i + (esc t).length + 1 ≤ e
 | [],_,_,_,h=>by simp [quo] at h
 | [c],i,t,e,h=>by
  simp only [quo] at h
  split at h
  ·simp only [zLt,zLz] at h; obtain ⟨rfl,rfl⟩:=h; simp [esc]
  ·cases h
 | c :: d :: r,i,t,e,h=>by
  simp only [quo] at h
  split at h
  ·split at h
   ·rw [zL2] at h
    obtain ⟨⟨t',e'⟩,h1,h2⟩:=h
    simp only [zLz] at h2
    obtain ⟨rfl,rfl⟩:=h2
    have:=quo_lenR r (i + 2) t' e' h1
    simp only [esc,zMR,zLw]
    omega
   ·simp only [zLt,zLz] at h; obtain ⟨rfl,rfl⟩:=h; simp [esc]
  ·rename_i hc
   rw [zL2] at h
   obtain ⟨⟨t',e'⟩,h1,h2⟩:=h
   simp only [zLz] at h2
   obtain ⟨rfl,rfl⟩:=h2
   have:=quo_lenR (d :: r) (i + 1) t' e' h1
   simp only [esc,zLv hc,zLw]
   omega
theorem badL_is : ∀ (l : Bs) (ts : List Bs) (k : Nat) (p : Nat × Nat),zIG l ts k = some p → k ≤ p.1 ∧ p.1 < k + ts.length ∧ p.2 = (ts.getD (p.1 - k) []).length
 | _,[],_,_,h=>by simp [zIG] at h
 | l,t :: ts,k,p,h=>by
  simp only [zIG] at h
  split at h
  ·simp only [zLt] at h
   subst h
   simp
  ·obtain ⟨h1,h2,h3⟩:=badL_is l ts (k + 1) p h
   refine ⟨by omega,by simp only [zLw]; omega, ?_⟩
   rw [h3]
   obtain ⟨j,hj⟩ : ∃ j,p.1 - k = j + 1:=⟨p.1 - k - 1,by omega⟩
   rw [hj,show p.1 - (k + 1) = j by omega]
   rfl
def Tok.wants : Tok → Nat
 | .word _ t=>t.length
 | .txt _ t=>(34 :: esc t ++ [34]).length
 | .bad _ k=>(wrongs.getD (k - 1) []).length
 | .sign _ t=>t.length
 | _=>0
def Tok.upTo (a : Nat) : Tok → Prop
 | .word e t=>a + t.length ≤ e
 | .txt e t=>a + (34 :: esc t ++ [34]).length ≤ e
 | .bad e k=>a + (wrongs.getD (k - 1) []).length ≤ e ∧ 1 ≤ k ∧ k ≤ 6
 | .sign e t=>a + t.length ≤ e
 | _=>True
theorem tokAt_upTo (s : Bs) (a : Nat) : (zB4 s a).upTo a:=by
 unfold zB4
 cases e : s[a]? with
 | none=>trivial
 | some c=>
  simp only
  split
  ·have:=zIA s a
   show a + (sub s a (zB5 s a)).length ≤ zB5 s a
   unfold sub
   rw [zMA]
   omega
  ·split
   ·split
    ·rename_i t e' hq
     have:=quo_lenR _ _ _ _ hq
     show a + (34 :: esc t ++ [34]).length ≤ e'
     simp only [zL1,zLw,zL4]
     omega
    ·trivial
   ·split
    ·split
     ·rename_i k n hb
      obtain ⟨h1,h2,h3⟩:=badL_is _ _ _ _ hb
      simp only at h1 h2 h3
      refine ⟨?_,h1, ?_⟩
      ·rw [h3]; exact zL0 _
      ·have : wrongs.length = 6:=rfl
       omega
     ·trivial
    ·split
     ·split <;> exact zL0 _
     ·exact zL0 _
theorem zHQ (s : Bs) (a : Nat) : (tok s a).upTo a:=by
 have h:=tokAt_upTo s (skip s a)
 have h2:=zDw s a
 unfold tok
 revert h
 cases zB4 s (skip s a) <;> simp only [Tok.upTo] <;> first | exact fun _=>trivial | (intro h; omega)
theorem decV_ltR (l : Bs) (h : ∀ c ∈ l,zGm c = true) : zCi l < 10 ^ l.length:=by
 have gen : ∀ (l : Bs) (x : Nat),(∀ c ∈ l,zGm c = true) → l.foldl (fun n c=>n * 10 + (c.toNat - 48)) x < (x + 1) * 10 ^ l.length:=by
  intro l
  induction l with
  | nil=>intro x _; simp
  | cons c l ih=>
   intro x h
   have hc:=h c (by simp)
   unfold zGm at hc
   simp only [zLu,zMF] at hc
   rw [zN8,zLw,zMp]
   refine zMa (ih _ fun d hd=>h d (by simp [hd])) ?_
   rw [zNC (10 ^ l.length) 10,← Nat.mul_assoc]
   exact zMU _ tO
 have:=gen l 0 h
 simpa [zCi] using this
theorem whole_is {t : Bs} {v : Int} (h : zAq t = some v) : ∃ n : Nat,v = n ∧ n ≤ 9223372036854775807 ∧ (digT n).length ≤ t.length ∧ t ≠ []:=by
 unfold zAq at h
 split at h
 ·cases h
 ·rename_i h0
  split at h
  ·rename_i hd
   split at h
   ·rename_i hm
    cases h
    have hne : t ≠ []:=fun e=>h0 (.inl e)
    refine ⟨_,rfl,hm, ?_,hne⟩
    have hl : 1 ≤ t.length:=by
     cases t with
     | nil=>exact absurd rfl hne
     | cons _ _=>simp
    unfold digT
    split
    ·simpa using hl
    ·rw [zOT]
     exact decL_len _ _ (decV_ltR t (zMs.1 hd))
   ·cases h
  ·cases h
theorem dollar_len (t : Bs) : (dollar t).2.length + (if (dollar t).1 then 1 else 0) = t.length:=by
 cases t with
 | nil=>rfl
 | cons c r=>
  rw [dollar_cons]
  split <;> simp
theorem refP_is {t : Bs} {r : RefP} (h : zCc t = some r) : okR r ∧ (refT r).length ≤ t.length:=by
 have hd:=dollar_len t
 unfold zCc colP at h
 generalize dollar t = p at h hd
 obtain ⟨fc,u⟩:=p
 simp only at h hd
 cases u with
 | nil=>cases h
 | cons c u=>
  simp only at h
  split at h
  ·rename_i hc
   have hd2:=dollar_len u
   generalize dollar u = p2 at h hd2
   obtain ⟨fr,w⟩:=p2
   unfold rowP at h
   simp only at h hd2
   cases hw : zAq w with
   | none=>rw [hw] at h; cases h
   | some v=>
    rw [hw] at h
    simp only at h
    split at h
    ·rename_i hv
     cases h
     obtain ⟨n,rfl,_,hn,_⟩:=whole_is hw
     unfold capB at hc
     simp only [zLu,zMF] at hc
     refine ⟨⟨by simp only; omega,by simp only; omega,by simp only; omega,by simp only; omega⟩, ?_⟩
     unfold refT
     simp only [zL1,zMc,zMh]
     simp only [zLw] at hd
     have e1 : (if fc = true then [36] else ([] : Bs)).length = if fc = true then 1 else 0:=by cases fc <;> rfl
     have e2 : (if fr = true then [36] else ([] : Bs)).length = if fr = true then 1 else 0:=by cases fr <;> rfl
     rw [e1,e2]
     omega
    ·cases h
  ·cases h
theorem atom_is {t : Bs} {n : Nd} (h : zJf t = some n) : Wf false n ∧ zAr n = 9 ∧ need n = 0 ∧ (txt n).length ≤ t.length:=by
 unfold zJf at h
 cases hw : zAq t with
 | some v=>
  rw [hw] at h
  cases h
  obtain ⟨n,rfl,h1,h2,_⟩:=whole_is hw
  exact ⟨.num _ n h1,rfl,rfl,by rw [txt_num,zMh]; exact h2⟩
 | none=>
  rw [hw] at h
  simp only at h
  split at h
  ·rename_i e
   cases h
   exact ⟨.tru _ _,rfl,rfl,by rw [txt_tru,e]; exact zL0 _⟩
  ·split at h
   ·rename_i e
    cases h
    exact ⟨.tru _ _,rfl,rfl,by rw [txt_tru,e]; exact zL0 _⟩
   ·obtain ⟨r,hr,rfl⟩:=zL2.1 h
    obtain ⟨h1,h2⟩:=refP_is hr
    exact ⟨.ref _ r h1,rfl,rfl,by rw [txt_ref]; exact h2⟩
theorem opNo_is {t : Bs} {op : Nat} (h : zBO t = op) (h0 : op ≠ 0) : 1 ≤ op ∧ op ≤ 11 ∧ (opT op).length = t.length:=by
 unfold zBO at h
 subst h
 revert h0
 repeat' split
 all_goals first | (rename_i e; subst e; intro _; decide) | (intro h; exact absurd rfl h)
theorem opAt_isR {s : Bs} {a op e : Nat} (h : zGn s a = some (op,e)) : 1 ≤ op ∧ op ≤ 11 ∧ a + (opT op).length ≤ e:=by
 have ht:=zHQ s a
 unfold zGn at h
 split at h
 ·rename_i e' t hk
  rw [hk] at ht
  split at h
  ·cases h
  ·rename_i h0
   simp only [zLt,zLz] at h
   obtain ⟨rfl,rfl⟩:=h
   obtain ⟨h1,h2,h3⟩:=opNo_is rfl h0
   exact ⟨h1,h2,by rw [h3]; exact ht⟩
 ·cases h
theorem brk_len (b : Bool) (t : Bs) : (brk b t).length = t.length + if b then 2 else 0:=by cases b <;> simp [brk]
def Fit (l d a e : Nat) (n : Nd) : Prop:=a + (txt n).length + (if zAr n < l then 2 else 0) ≤ e ∧ d + need n + (if zAr n < l then 1 else 0) ≤ 30
theorem Fit.mono {l l' d a e : Nat} {n : Nd} (h : Fit l d a e n) (hl : l' ≤ l) : Fit l' d a e n:=by
 unfold Fit at *
 by_cases h1 : zAr n < l'
 ·rw [zLx h1,zLx h1]; rw [zLx tO,zLx tO] at h; exact h
 ·rw [zLv h1,zLv h1]
  refine ⟨by have:=h.1; omega,by have:=h.2; omega⟩
theorem Fit.end {l d a e e' : Nat} {n : Nd} (h : Fit l d a e n) (he : e ≤ e') : Fit l d a e' n:=⟨by have:=h.1; omega,h.2⟩
theorem fit_two {op d a0 a e e' : Nat} {x y : Nd} (hx : Fit (tight op) d a0 a x) (ho : a + (opT op).length ≤ e) (hy : Fit (tight op + 1) d e e' y) (l : Nat) (hl : l ≤ tight op) : Fit l d a0 e' (zFl op x y):=by
 unfold Fit
 rw [tight_two,zLv tO,zLv tO,txt_two,need_two]
 simp only [zL1,brk_len]
 have e1 : decide (zAr y ≤ tight op) = decide (zAr y < tight op + 1):=decide_eq_decide.2 tO
 have e2 : (if zAr y ≤ tight op then 1 else 0) = (if zAr y < tight op + 1 then 1 else 0):=by
  by_cases h : zAr y ≤ tight op
  ·rw [zLx h,zLx tO]
  ·rw [zLv h,zLv tO]
 rw [e1,e2]
 obtain ⟨h1,h2⟩:=hx
 obtain ⟨h3,h4⟩:=hy
 simp only [zMF]
 refine ⟨?_, ?_⟩
 ·generalize (if zAr x < tight op then 2 else 0) = i at *
  generalize (if zAr y < tight op + 1 then 2 else 0) = j at *
  omega
 ·generalize (if zAr x < tight op then 1 else 0) = i at *
  generalize (if zAr y < tight op + 1 then 1 else 0) = j at *
  omega
structure Snd (s : Bs) (q : Ps) : Prop where
 one : ∀ a d n e,a ≤ s.length → d ≤ 30 → q.one a d = some (n,e) → Wf false n ∧ Fit 9 d a e n
 loose : ∀ l a d n e,a ≤ s.length → d ≤ 30 → q.loose l a d = some (n,e) → l ≤ 9 → Wf false n ∧ Fit l d a e n ∧ Stop l s e
 ll : ∀ l n0 a0 a d n e,a ≤ s.length → d ≤ 30 → q.ll l n0 a d = some (n,e) → l ≤ 9 → Wf false n0 → Fit l d a0 a n0 → (∀ op o,zGn s a = some (op,o) → Fit (tight op) d a0 a n0) → Wf false n ∧ Fit l d a0 e n ∧ Stop l s e
 args : ∀ t ks a0 a d n e,a ≤ s.length → d ≤ 30 → q.args t ks a d = some (n,e) → (∀ k ∈ ks,Wf true k ∧ d + need k ≤ 30) → a0 + (ks.map fun k=>(txt k).length + 1).sum ≤ a →
  ∃ ks',n = zC2 t ks' ∧ ks' ≠ [] ∧ (∀ k ∈ ks',Wf true k ∧ d + need k ≤ 30) ∧ a0 + (ks'.map fun k=>(txt k).length + 1).sum ≤ e
theorem boxAt_is {s : Bs} {a : Nat} {n : Nd} {e : Nat} (h : zDV s a = some (some (n,e))) : ∃ r o,n = boxN r o ∧ okR r ∧ okR o ∧ a + (txt n).length ≤ e:=by
 have ht:=zHQ s a
 unfold zDV at h
 split at h
 ·rename_i e1 t hk
  rw [hk] at ht
  split at h
  ·rename_i r hr
   split at h
   ·have h2:=tokAt_upTo s (e1 + 1)
    split at h
    ·rename_i e2 t2 hk2
     rw [hk2] at h2
     simp only [zLt,zL2] at h
     obtain ⟨r2,hr2,hp⟩:=h
     simp only [zLz] at hp
     obtain ⟨rfl,rfl⟩:=hp
     obtain ⟨k1,k2⟩:=refP_is hr
     obtain ⟨k3,k4⟩:=refP_is hr2
     refine ⟨r,r2,rfl,k1,k3, ?_⟩
     rw [txt_box]
     simp only [zL1,zLw]
     simp only [Tok.upTo] at ht h2
     omega
    ·cases h
   ·cases h
  ·cases h
 ·cases h
theorem joinC_len : ∀ (ts : List Bs),ts ≠ [] → (zJn ts).length + 1 = (ts.map fun t=>t.length + 1).sum
 | [],h=>absurd rfl h
 | [t],_=>by simp [zJn]
 | t :: u :: r,_=>by
  have:=joinC_len (u :: r) (by simp)
  simp only [zJn,zL1,zLw,zL8,List.sum_cons] at this ⊢
  omega
theorem foldr_le {l : List Nat} {b : Nat} (h : ∀ m ∈ l,m ≤ b) : l.foldr max 0 ≤ b:=by
 induction l with
 | nil=>exact zMm _
 | cons x l ih=>
  rw [List.foldr_cons]
  have:=h x (by simp)
  have:=ih fun m hm=>h m (by simp [hm])
  omega
theorem wf_weak {n : Nd} (h : Wf false n) : Wf true n:=by
 cases h with
 | num _ n h=>exact .num _ n h
 | txt _ t=>exact .txt _ t
 | tru _ b=>exact .tru _ b
 | bad _ k h=>exact .bad _ k h
 | ref _ r h=>exact .ref _ r h
 | neg _ n h=>exact .neg _ n h
 | two _ op a b h ha hb=>exact .two _ op a b h ha hb
 | call _ t ks h hk=>exact .call _ t ks h hk
theorem snd_one {s : Bs} {q : Ps} (hq : Snd s q) (he : Ends s q) (a d : Nat) (n : Nd) (e : Nat) (ha : a ≤ s.length) (hd : d ≤ 30) (h : zBw s q a d = some (n,e)) : Wf false n ∧ Fit 9 d a e n:=by
 have ht:=zHQ s a
 have hn:=zBM s a
 unfold zBw at h
 split at h
 ·rename_i e1 t hk
  rw [hk] at ht hn
  simp only [Tok.upTo] at ht
  simp only [Tok.endsBy] at hn
  split at h
  ·rename_i hc
   have hlt:=(zg hc.2).1
   split at h
   ·cases h
   ·rename_i h30
    have fin : ∀ (ks : List Nd) (e : Nat),(∀ k ∈ ks,Wf true k ∧ d + 1 + need k ≤ 30) → a + t.length + 1 + (zJn (ks.map txt)).length + 1 ≤ e → Wf false (zC2 t ks) ∧ Fit 9 d a e (zC2 t ks):=fun ks e hk hl=>by
     refine ⟨.call _ t ks hc.1 fun k h=>(hk k h).1, ?_⟩
     unfold Fit
     have e9 : zAr (zC2 t ks) = 9:=rfl
     rw [e9,zLv tO,zLv tO,txt_call,need_call]
     simp only [zL1,zLw,zL4]
     have hm : (ks.map need).foldr max 0 ≤ 29 - d:=foldr_le fun m hm=>by
      obtain ⟨k,hkm,rfl⟩:=zNI.1 hm
      have:=(hk k hkm).2
      omega
     omega
    split at h
    ·rename_i e2 hk2
     have h2:=zHQ s (e1 + 1)
     rw [hk2] at h2
     simp only [Tok.upTo,zMc] at h2
     cases h
     exact fin [] _ (by simp) (by simp only [zMG,zJn,zL4]; omega)
    ·obtain ⟨ks',rfl,hne,hk',hl⟩:=hq.args t [] (e1 + 1) (e1 + 1) (d + 1) n e tO tO h (by simp) (by simp)
     refine fin ks' e hk' ?_
     have:=joinC_len (ks'.map txt) (by simpa using hne)
     rw [zNk] at this
     have e3 : (ks'.map ((fun t=>t.length + 1) ∘ txt)).sum = (ks'.map fun k=>(txt k).length + 1).sum:=rfl
     rw [e3] at this
     omega
  ·obtain ⟨m,hm,hp⟩:=zL2.1 h
   cases hp
   obtain ⟨h1,h2,h3,h4⟩:=atom_is hm
   exact ⟨h1,by unfold Fit; rw [h2,h3,zLv tO,zLv tO]; omega⟩
 ·rename_i e1 t hk
  rw [hk] at ht
  cases h
  exact ⟨.txt _ t,by
   unfold Fit
   have e9 : zAr (txtN t) = 9:=rfl
   have e0 : need (txtN t) = 0:=rfl
   rw [e9,e0,zLv tO,zLv tO,txt_txt]
   exact ⟨ht,by omega⟩⟩
 ·rename_i e1 k hk
  rw [hk] at ht
  cases h
  obtain ⟨h1,h2,h3⟩:=ht
  exact ⟨.bad _ k ⟨h2,h3⟩,by
   unfold Fit
   have e9 : zAr (badN k) = 9:=rfl
   have e0 : need (badN k) = 0:=rfl
   rw [e9,e0,zLv tO,zLv tO,txt_bad]
   exact ⟨h1,by omega⟩⟩
 ·rename_i e1 hk
  rw [hk] at ht hn
  simp only [Tok.upTo,zMc] at ht
  simp only [Tok.endsBy] at hn
  split at h
  ·cases h
  ·obtain ⟨⟨m,e2⟩,hm,hp⟩:=zL2.1 h
   cases hp
   obtain ⟨h1,h2⟩:=hq.one e1 (d + 1) m e2 tO tO hm
   refine ⟨.neg _ m h1, ?_⟩
   obtain ⟨h3,h4⟩:=h2
   unfold Fit
   have e9 : zAr (negN m) = 9:=rfl
   rw [e9,zLv tO,zLv tO,txt_neg,need_neg]
   simp only [zLw,brk_len,zMF]
   generalize (if zAr m < 9 then 2 else 0) = i at *
   generalize (if zAr m < 9 then 1 else 0) = j at *
   omega
 ·rename_i e1 hk
  rw [hk] at ht hn
  simp only [Tok.upTo,zMc] at ht
  simp only [Tok.endsBy] at hn
  split at h
  ·cases h
  ·rename_i h30
   obtain ⟨⟨m,e2⟩,hm,hp⟩:=zMN.1 h
   have hend:=he.loose 1 e1 (d + 1) (m,e2) tO hm
   obtain ⟨h1,h2,_⟩:=hq.loose 1 e1 (d + 1) m e2 tO tO hm tO
   have ht2:=zHQ s e2
   simp only at hp
   split at hp
   ·rename_i e3 hk3
    rw [hk3] at ht2
    simp only [Tok.upTo,zMc] at ht2
    cases hp
    refine ⟨h1, ?_⟩
    obtain ⟨h3,h4⟩:=h2
    have h5:=zLs n
    rw [zLv tO] at h3 h4
    unfold Fit
    by_cases h9 : zAr n < 9
    ·rw [zLx h9,zLx h9]; omega
    ·rw [zLv h9,zLv h9]; omega
   ·cases hp
 ·cases h
theorem snd_ll {s : Bs} {q : Ps} (hq : Snd s q) (he : Ends s q) (l : Nat) (n0 : Nd) (a0 a d : Nat) (n : Nd) (e : Nat) (ha : a ≤ s.length) (hd : d ≤ 30) (h : psLl s q l n0 a d = some (n,e)) (hl : l ≤ 9) (hw : Wf false n0) (hf : Fit l d a0 a n0) (ho : ∀ op o,zGn s a = some (op,o) → Fit (tight op) d a0 a n0) : Wf false n ∧ Fit l d a0 e n ∧ Stop l s e:=by
 unfold psLl at h
 cases hop : zGn s a with
 | none=>
  rw [hop] at h
  cases h
  exact ⟨hw,hf,fun op o k=>by rw [hop] at k; cases k⟩
 | some p=>
  obtain ⟨op,o⟩:=p
  rw [hop] at h
  simp only at h
  split at h
  ·rename_i hlt
   cases h
   exact ⟨hw,hf,fun op' o' k=>by rw [hop] at k; cases k; exact hlt⟩
  ·rename_i hge
   obtain ⟨⟨y,e1⟩,hy,hr⟩:=zMN.1 h
   obtain ⟨k1,k2,k3⟩:=opAt_isR hop
   have h4:=zJo op
   have hoe:=zCT hop
   obtain ⟨w1,w2,w3⟩:=hq.loose _ o d y e1 hoe.2 hd hy tO
   have hend:=he.loose _ o d (y,e1) hoe.2 hy
   simp only at hend hr
   exact hq.ll l _ a0 e1 d n e hend.2 hd hr hl (.two _ op n0 y ⟨k1,k2⟩ hw w1) (fit_two (ho op o hop) k3 w2 l tO) fun op' o' h'=>fit_two (ho op o hop) k3 w2 _ (by have:=w3 op' o' h'; omega)
theorem snd_loose {s : Bs} {q : Ps} (hq : Snd s q) (he : Ends s q) (l a d : Nat) (n : Nd) (e : Nat) (ha : a ≤ s.length) (hd : d ≤ 30) (h : zDS q l a d = some (n,e)) (hl : l ≤ 9) : Wf false n ∧ Fit l d a e n ∧ Stop l s e:=by
 unfold zDS at h
 obtain ⟨⟨m,e1⟩,hm,hr⟩:=zMN.1 h
 obtain ⟨h1,h2⟩:=hq.one a d m e1 ha hd hm
 have hend:=he.one a d (m,e1) ha hm
 simp only at hend hr
 exact hq.ll l m a e1 d n e hend.2 hd hr hl h1 (h2.mono hl) fun op o _=>h2.mono (by have:=(zJo op).2; omega)
theorem snd_args {s : Bs} {q : Ps} (hq : Snd s q) (he : Ends s q) (t : Bs) (ks : List Nd) (a0 a d : Nat) (n : Nd) (e : Nat) (ha : a ≤ s.length) (hd : d ≤ 30) (h : zEP s q t ks a d = some (n,e)) (hk : ∀ k ∈ ks,Wf true k ∧ d + need k ≤ 30) (hl : a0 + (ks.map fun k=>(txt k).length + 1).sum ≤ a) :
  ∃ ks',n = zC2 t ks' ∧ ks' ≠ [] ∧ (∀ k ∈ ks',Wf true k ∧ d + need k ≤ 30) ∧ a0 + (ks'.map fun k=>(txt k).length + 1).sum ≤ e:=by
 unfold zEP at h
 obtain ⟨⟨m,e1⟩,hm,hr⟩:=zMN.1 h
 have hend:=zFh he a d (m,e1) ha hm
 have ham : Wf true m ∧ d + need m ≤ 30 ∧ a + (txt m).length ≤ e1:=by
  unfold zD5 at hm
  cases hb : zDV s a with
  | none=>
   rw [hb] at hm
   obtain ⟨h1,h2,_⟩:=hq.loose 1 a d m e1 ha hd hm tO
   obtain ⟨h3,h4⟩:=h2
   have h5:=zLs m
   rw [zLv tO] at h3 h4
   exact ⟨wf_weak h1,by omega,by omega⟩
  | some r=>
   rw [hb] at hm
   simp only at hm
   subst hm
   obtain ⟨r,o,rfl,h1,h2,h3⟩:=boxAt_is hb
   exact ⟨.box r o h1 h2,by have : need (boxN r o) = 0:=rfl; omega,h3⟩
 have hk2 : ∀ k ∈ ks ++ [m],Wf true k ∧ d + need k ≤ 30:=fun k h=>by
  rcases zNN.1 h with h | h
  ·exact hk k h
  ·rw [zMr.1 h]; exact ⟨ham.1,ham.2.1⟩
 have hsum : ((ks ++ [m]).map fun k=>(txt k).length + 1).sum = (ks.map fun k=>(txt k).length + 1).sum + ((txt m).length + 1):=by simp
 have ht:=zHQ s e1
 have hn:=zBM s e1
 simp only at hr hend
 split at hr
 ·rename_i e2 hk3
  rw [hk3] at ht hn
  simp only [Tok.upTo,zMc] at ht
  simp only [Tok.endsBy] at hn
  exact hq.args t (ks ++ [m]) a0 e2 d n e tO hd hr hk2 (by rw [hsum]; omega)
 ·rename_i e2 hk3
  rw [hk3] at ht
  simp only [Tok.upTo,zMc] at ht
  cases hr
  exact ⟨ks ++ [m],rfl,by simp,hk2,by rw [hsum]; omega⟩
 ·cases hr
theorem ps_snd (s : Bs) : ∀ N,Snd s (ps s N)
 | 0=>⟨fun _ _ _ _ _ _ h=>(by cases h),fun _ _ _ _ _ _ _ h=>(by cases h),fun _ _ _ _ _ _ _ _ _ h=>(by cases h),fun _ _ _ _ _ _ _ _ _ h=>(by cases h)⟩
 | N + 1=>⟨fun a d n e=>snd_one (ps_snd s N) (zIB s N) a d n e,fun l a d n e=>snd_loose (ps_snd s N) (zIB s N) l a d n e,fun l n0 a0 a d n e=>snd_ll (ps_snd s N) (zIB s N) l n0 a0 a d n e,fun t ks a0 a d n e=>snd_args (ps_snd s N) (zIB s N) t ks a0 a d n e⟩
theorem parse_is {s : Bs} {n : Nd} (h : zCd s = some n) : Wf false n ∧ need n ≤ 30 ∧ (txt n).length + 1 ≤ s.length:=by
 unfold zCd at h
 split at h
 ·rename_i h0
  obtain ⟨⟨m,e⟩,hm,hr⟩:=zMN.1 h
  have h1 : 1 ≤ s.length:=by
   cases s with
   | nil=>cases h0.2
   | cons _ _=>simp
  have hend:=(zBz s).loose 1 1 0 (m,e) h1 hm
  obtain ⟨w,f,_⟩:=(ps_snd s _).loose 1 1 0 m e h1 tO hm tO
  simp only at hr
  split at hr
  ·cases hr
   obtain ⟨f1,f2⟩:=f
   have:=zLs n
   rw [zLv tO] at f1 f2
   simp only at hend
   exact ⟨w,by omega,by omega⟩
  ·cases hr
 ·cases h
end Go.AM
set_option maxRecDepth 20000
namespace Go.AM
theorem sRetW {F : AF} {H H1 H2 H' : Heap} {fr : Fr} {v0 v : AV} (hk : F.keep = false) (hr : (zBT fr H1 F.results).map tupled = some v0) (hf : zDq H.length v0 H1 = some (v,H2)) (hb : v.bel H.length = true) (ho : OldOK H H2) (hH : H' = H2.take H.length) : retP F H fr H1 v H':=by
 refine sRet ?_
 unfold zGP
 cases hs : zBT fr H1 F.results with
 | none=>rw [hs] at hr; cases hr
 | some vs=>
  rw [hs] at hr
  simp only [zMB,zLt] at hr
  subst hr
  simp only [hk,hf,zL5,zMP]
  exact ⟨hb,ho,trivial,hH⟩
theorem frz_below {n0 b k off len : Nat} {q : Option Bool} {H : Heap} (h : b < n0) : zDq n0 (.sl q b k off len) H = some (.sl q b k off len,H):=by simp only [zDq]; rw [zLx h]
theorem frz_pair2 {n : Nat} {v v' y : AV} {H H' : Heap} (h : zDq n v H = some (v',H')) (hy : ∀ H,zDq n y H = some (y,H)) : zDq n (.tup [v,y]) H = some (.tup [v',y],H'):=by
 simp only [zDq,zJH,h,hy]
theorem bel_pair (n k : Nat) (xs : List AV) : (AV.tup [lstF k xs,.nili]).bel n = true:=by simp [AV.bel,AV.belL,lstF_bel]
end Go.AM
