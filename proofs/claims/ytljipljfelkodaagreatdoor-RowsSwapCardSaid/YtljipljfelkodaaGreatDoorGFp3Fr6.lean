/- Several texts of mine in one (Fp3, Fr4, Fr5, Fp4, Fr6). Own work. -/
import Derived.Test.YtljipljfelkodaaGreatDoorGFp2Fr3
import Derived.Test.YtljipljfelkodaaGreatDoorGFq0Bg0
set_option linter.all false
set_option maxRecDepth 20000
namespace Go.AM
theorem zJ5 {s : Bs} {p : Nat} (h : s[p]? ≠ some 32) : tok s p = zB4 s p:=by unfold tok; rw [zDR h]
theorem one_par {s : Bs} {p d : Nat} (h : s[p]? = some 40) : zBw s (P s) p d = if d = 30 then none else parS s p (d + 1):=by
 have hs : skip s p = p:=zDR (by rw [h]; simp)
 have ht:=zFi (s:=s) (p:=p) (c:=40) (by rw [hs]; exact h) (by decide)
 rw [hs] at ht
 unfold zBw parS
 rw [ht]
 rfl
theorem one_txt {s : Bs} {p d : Nat} (h : s[p]? = some 34) : zBw s (P s) p d = (quo (s.drop (p + 1)) (p + 1)).map fun q=>(txtN q.1,q.2):=by
 have ht : tok s p = zB4 s p:=zJ5 (by rw [h]; simp)
 unfold zBw
 rw [ht]
 unfold zB4
 rw [h]
 have hw : zu 34 = false:=by decide
 simp only [hw,zL5,zMP,zMR]
 cases quo (s.drop (p + 1)) (p + 1) with
 | none=>rfl
 | some q=>rfl
theorem one_bad {s : Bs} {p d : Nat} (h : s[p]? = some 35) : zBw s (P s) p d = (zIG (s.drop p) wrongs 1).map fun q=>(badN q.1,p + q.2):=by
 have ht : tok s p = zB4 s p:=zJ5 (by rw [h]; simp)
 unfold zBw
 rw [ht]
 unfold zB4
 rw [h]
 have hw : zu 35 = false:=by decide
 have h1 : ¬ ((35 : UInt8) = 34):=by decide
 simp only [hw,zL5,zMP,zMR,h1]
 cases zIG (s.drop p) wrongs 1 with
 | none=>rfl
 | some q=>rfl
theorem zHO {c : UInt8} (h : zu c = true) : c ≠ 32 ∧ c ≠ 45 ∧ c ≠ 35 ∧ c ≠ 34 ∧ c ≠ 40:=by
 refine ⟨?_, ?_, ?_, ?_, ?_⟩ <;> (rintro rfl; revert h; decide)
theorem tok_word {s : Bs} {p : Nat} {c : UInt8} (h : s[p]? = some c) (hw : zu c = true) : tok s p = .word (zB5 s p) (sub s p (zB5 s p)):=by
 rw [zJ5 (by rw [h]; exact fun e=>(zHO hw).1 (zMI e))]
 unfold zB4
 rw [h]
 simp only [hw,zMR]
theorem one_word {s : Bs} {p d : Nat} {c : UInt8} (h : s[p]? = some c) (hw : zu c = true) :
  zBw s (P s) p d = if zBI (sub s p (zB5 s p)) = true ∧ s[zB5 s p]? = some 40 then (if d = 30 then none else zGg s (sub s p (zB5 s p)) (zB5 s p) (d + 1)) else (zJf (sub s p (zB5 s p))).map fun n=>(n,zB5 s p):=by
 unfold zBw
 rw [tok_word h hw]
 rfl
theorem one_fin {s : Bs} {p d : Nat} (h : s[p]? = none) : zBw s (P s) p d = none:=by
 unfold zBw
 rw [zJ5 (by rw [h]; simp)]
 unfold zB4
 rw [h]
theorem one_else {s : Bs} {p d : Nat} {c : UInt8} (h : s[p]? = some c) (h0 : c ≠ 32) (h1 : c ≠ 45) (h2 : c ≠ 40) (h3 : c ≠ 34) (h4 : c ≠ 35) (hw : zu c = false) : zBw s (P s) p d = none:=by
 unfold zBw
 rw [zJ5 (by rw [h]; exact fun e=>h0 (zMI e))]
 unfold zB4
 rw [h]
 simp only [hw,zL5,zMP,h3,h4]
 split
 ·rename_i heq
  split at heq
  ·split at heq <;> cases heq
  ·cases heq
 ·rename_i heq
  split at heq
  ·split at heq <;> cases heq
  ·cases heq
 ·rename_i heq
  split at heq
  ·split at heq <;> cases heq
  ·cases heq
 ·rename_i heq
  split at heq
  ·split at heq
   ·cases heq
   ·simp only [Tok.sign.injEq,zM5,zNd] at heq
    exact absurd heq.2 h1
  ·simp only [Tok.sign.injEq,zM5,zNd] at heq
   exact absurd heq.2 h1
 ·rename_i heq
  split at heq
  ·split at heq
   ·cases heq
   ·simp only [Tok.sign.injEq,zM5,zNd] at heq
    exact absurd heq.2 h2
  ·simp only [Tok.sign.injEq,zM5,zNd] at heq
   exact absurd heq.2 h2
 ·rfl
theorem zKk {s : Bs} {p e : Nat} {c : UInt8} (h : s[p]? = some c) (he : p < e) : (sub s p e).head? = some c:=by
 unfold sub
 rw [zA3 h]
 obtain ⟨k,hk⟩ : ∃ k,e - p = k + 1:=⟨e - p - 1,by omega⟩
 rw [hk]; rfl
theorem zJj {s : Bs} {p e : Nat} (he : e ≤ s.length) : (sub s p e).length = e - p:=by
 unfold sub; rw [zMA,zMX]; omega
theorem zHP {l w : Bs} {n : Nat} (h : l.take n = w) : l = w ++ l.drop n:=by rw [← h,zOL]
theorem lit_bad {s : Bs} {p e : Nat} (h : s[p]? = some 35) (hpe : p < e) (he : e ≤ s.length) : litP (sub s p e) = match zIG (s.drop p) wrongs 1 with
  | some (k,n)=>if n = e - p then some (4,(k : Int)) else none
  | none=>none:=by
 have hh:=zKk h hpe
 have hl:=zJj (p:=p) he
 have hsub : sub s p e = (s.drop p).take (e - p):=rfl
 rw [hsub] at hh hl ⊢
 clear hsub
 generalize s.drop p = l at *
 generalize e - p = m at *
 unfold litP
 rw [zLv (fun x=>by rw [x] at hh; revert hh; decide),zLv (fun x=>by rw [x] at hh; revert hh; decide)]
 by_cases a1 : l.take m = [35,68,73,86,33]
 ·rw [zLx a1]
  have hm : m = 5:=by rw [a1] at hl; exact hl.symm
  rw [zHP a1]; subst hm; simp [zIG,wrongs]
 by_cases a2 : l.take m = [35,86,65,76,85,69,33]
 ·rw [zLv a1,zLx a2]
  have hm : m = 7:=by rw [a2] at hl; exact hl.symm
  rw [zHP a2]; subst hm; simp [zIG,wrongs]
 by_cases a3 : l.take m = [35,82,69,70,33]
 ·rw [zLv a1,zLv a2,zLx a3]
  have hm : m = 5:=by rw [a3] at hl; exact hl.symm
  rw [zHP a3]; subst hm; simp [zIG,wrongs]
 by_cases a4 : l.take m = [35,78,65,77,69,33]
 ·rw [zLv a1,zLv a2,zLv a3,zLx a4]
  have hm : m = 6:=by rw [a4] at hl; exact hl.symm
  rw [zHP a4]; subst hm; simp [zIG,wrongs]
 by_cases a5 : l.take m = [35,78,85,77,33]
 ·rw [zLv a1,zLv a2,zLv a3,zLv a4,zLx a5]
  have hm : m = 5:=by rw [a5] at hl; exact hl.symm
  rw [zHP a5]; subst hm; simp [zIG,wrongs]
 by_cases a6 : l.take m = [35,78,79,78,69,33]
 ·rw [zLv a1,zLv a2,zLv a3,zLv a4,zLv a5,zLx a6]
  have hm : m = 6:=by rw [a6] at hl; exact hl.symm
  rw [zHP a6]; subst hm; simp [zIG,wrongs]
 rw [zLv a1,zLv a2,zLv a3,zLv a4,zLv a5,zLv a6]
 unfold zIG wrongs
 simp only [zIG]
 split
 ·rename_i k n hk
  symm
  rw [zLv]
  intro hn
  subst hn
  repeat' split at hk
  ·cases hk; rename_i x; exact a1 x
  ·cases hk; rename_i x; exact a2 x
  ·cases hk; rename_i x; exact a3 x
  ·cases hk; rename_i x; exact a4 x
  ·cases hk; rename_i x; exact a5 x
  ·cases hk; rename_i x; exact a6 x
  ·cases hk
 ·rfl
end Go.AM
set_option maxRecDepth 20000
namespace Go.AM
section
variable {C : CSpec} {GT : Nat → Option AV}
theorem prim_fin (hF : ∀ b s p d a e H,H[b]? = some (rdB s p d) → C zV (.pan .undef :: [pR b,.int .i64 a,zGl e]) H zEs (H.set b (.box (wkC s))))
  (b : Nat) (s : Bs) (p d : Nat) (H : Heap) (hb : H[b]? = some (rdB s p d)) (hp : p ≤ s.length) (hl : s.length ≤ 200) (hd : d ≤ 1000) (hlt : ¬ p < s.length) : zB3 C GT zq [pR b] H b (wkC s) zEs (mkR s d (zBw s (P s) p d)):=by
 have hbl : b < H.length:=(zg hb).1
 have e : mkR s d (zBw s (P s) p d) = none:=by rw [one_fin (zMo tO)]; rfl
 rw [e]
 have hf:=fun H' h=>hF b s p d p 2 H' h
 clear hF
 refine zz <| zCj (x:=pR b) rfl <| sW ?_; refine zAV (hf _ hP) ?_
 exact sP
theorem prim_par (hWi : ∀ f caps a b s p d H r,H[b]? = some (rdB s p d) → d ≤ 1000 → (∀ H',H'[b]? = some (rdB s p (d + 1)) → Off H b H' → CR C f caps H' b s (d + 1) r) → CR C zk [pR b,.int .i64 a,.fn f [] caps] H b s d (if d = 30 then none else r))
  (b : Nat) (s : Bs) (p d : Nat) (H : Heap) (hb : H[b]? = some (rdB s p d)) (hp : p ≤ s.length) (hl : s.length ≤ 200) (hd : d ≤ 1000) (hc : s[p]? = some 40) (hPa : s[p]? = some 40 → ∀ H' rb,H'[b]? = some (rdB s p (d + 1)) → H'[rb]? = some (.box [pR b]) → CR C zAJ [pR rb] H' b s (d + 1) (parS s p (d + 1))) : zB3 C GT zq [pR b] H b (wkC s) zEs (mkR s d (zBw s (P s) p d)):=by
 have hbl : b < H.length:=(zg hb).1
 have hlt : p < s.length:=(zg hc).1
 rw [one_par hc]
 have hpa:=hPa hc
 have hw:=hWi zAJ [pR H.length] p b s p d (H ++ [.box [pR b]] ++ [.box (ndC zW)]) (parS s p (d + 1)) (zC (zC hb)) hd (fun H' h1 ho=>hpa H' H.length h1 (ho _ _ (zC zB) tO))
 clear hWi hPa hpa
 refine zz ?_
 cases hr : (if d = 30 then none else parS s p (d + 1)) with
 | none=>
  rw [hr] at hw
  have hw:=hw.2 rfl
  have e : mkR s d none = none:=rfl
  rw [e]
  refine zCj (x:=pR b) rfl <| sW ?_; refine zAV hw ?_
  exact sP
 | some q=>
  obtain ⟨n,e⟩:=q
  rw [hr] at hw
  have hw:=hw.1 n e rfl
  have e0 : mkR s d (some (n,e)) = some (ndV n,rdB s e d):=rfl
  rw [e0]
  refine zCj (x:=pR b) rfl <| sW ?_; refine zBj hw <| sS (ndV n) (AV.cells (ndV n)) ?_
  exact zx (o:=0) (ndV n) (by first | rfl | assumption) rfl rfl (zJ (zE (zA tA zB))) rfl rfl rfl hO rfl
theorem prim_txt (hTx : ∀ b s p d H,H[b]? = some (rdB s p d) → p < s.length → s.length ≤ 200 → CR C zAo [pR b] H b s d ((quo (s.drop (p + 1)) (p + 1)).map fun q=>(txtN q.1,q.2)))
  (b : Nat) (s : Bs) (p d : Nat) (H : Heap) (hb : H[b]? = some (rdB s p d)) (hp : p ≤ s.length) (hl : s.length ≤ 200) (hd : d ≤ 1000) (hc : s[p]? = some 34) : zB3 C GT zq [pR b] H b (wkC s) zEs (mkR s d (zBw s (P s) p d)):=by
 have hbl : b < H.length:=(zg hb).1
 have hlt : p < s.length:=(zg hc).1
 rw [one_txt hc]
 have hw:=hTx b s p d (H ++ [.box [pR b]] ++ [.box (ndC zW)]) (zC (zC hb)) hlt hl
 clear hTx
 generalize (quo (s.drop (p + 1)) (p + 1)).map (fun q=>(txtN q.1,q.2)) = r at *
 refine zz ?_
 cases r with
 | none=>
  have hw:=hw.2 rfl
  have e : mkR s d none = none:=rfl
  rw [e]
  refine zCj (x:=pR b) rfl <| zD (pR b) (zC zB) rfl <| zD (zK p) (zC (zC hb)) rfl <| zD (pR b) (zC zB) rfl <| zD (AV.str s) (zC (zC hb)) rfl <| zY tN ?_; refine zD (pR b) (zC zB) rfl <| zD (AV.str s) (zC (zC hb)) rfl <| zr rfl hc <| zY (tN (by decide)) <| zb (tE (by rfl)) <| zD (pR b) (zC zB) rfl ?_; refine zAV hw ?_
  exact sP
 | some q=>
  obtain ⟨n,e⟩:=q
  have hw:=hw.1 n e rfl
  have e0 : mkR s d (some (n,e)) = some (ndV n,rdB s e d):=rfl
  rw [e0]
  refine zCj (x:=pR b) rfl <| zD (pR b) (zC zB) rfl <| zD (zK p) (zC (zC hb)) rfl <| zD (pR b) (zC zB) rfl <| zD (AV.str s) (zC (zC hb)) rfl <| zY tN ?_; refine zD (pR b) (zC zB) rfl <| zD (AV.str s) (zC (zC hb)) rfl <| zr rfl hc <| zY (tN (by decide)) <| zb (tE (by rfl)) <| zD (pR b) (zC zB) rfl ?_; refine zBj hw <| zH (v:=ndV n) (AV.cells (ndV n)) (zA tA zB) rfl rfl rfl rfl ?_
  exact zx (o:=0) (ndV n) (by first | rfl | assumption) rfl rfl (zJ (zE (zA tA zB))) rfl rfl rfl hO rfl
theorem prim_bad (hF : ∀ b s p d a e H,H[b]? = some (rdB s p d) → C zV (.pan .undef :: [pR b,.int .i64 a,zGl e]) H zEs (H.set b (.box (wkC s)))) (hLi : ∀ t H,C zAH [.str t] H (litV (litP t)) H)
  (b : Nat) (s : Bs) (p d : Nat) (H : Heap) (hb : H[b]? = some (rdB s p d)) (hp : p ≤ s.length) (hl : s.length ≤ 200) (hd : d ≤ 1000) (hc : s[p]? = some 35) : zB3 C GT zq [pR b] H b (wkC s) zEs (mkR s d (zBw s (P s) p d)):=by
 have hbl : b < H.length:=(zg hb).1
 have hlt : p < s.length:=(zg hc).1
 rw [one_bad hc]
 have hlb:=fun e (h1 : p < e) (h2 : e ≤ s.length)=>lit_bad hc h1 h2
 have hbe : ∀ q,zIG (s.drop p) wrongs 1 = some q → 0 < q.2 ∧ q.2 ≤ s.length - p:=fun q hq=>by
  have:=zLh _ _ _ _ hq (by decide)
  rwa [zMX] at this
 have hf:=fun H' h=>hF b s p d p 2 H' h
 clear hF
 generalize zIG (s.drop p) wrongs 1 = r at *
 refine zz ?_; refine zCj (x:=pR b) rfl <| zD (pR b) (zC zB) rfl <| zD (zK p) (zC (zC hb)) rfl <| zD (pR b) (zC zB) rfl <| zD (AV.str s) (zC (zC hb)) rfl <| zY tN ?_; refine zD (pR b) (zC zB) rfl <| zD (AV.str s) (zC (zC hb)) rfl <| zr rfl hc <| zY (tN (by decide)) <| zY (tN (by decide)) <| zb (tE (by rfl)) ?_; refine zN (r:=p + 1) rfl tO ?_; refine zBm (fun k : Nat=>[(2,pR (H ++ [ABlk.box [pR b]]).length),(5,zK k),(1,pR H.length),(3,zK p)])
  (fun k H'=>OldB H b (rdB s p d) H' ∧ H'[b]? = some (rdB s p d) ∧ H'[H.length]? = some (.box [pR b]) ∧ H'[(H ++ [ABlk.box [pR b]]).length]? = some (.box (ndC zW)) ∧ p < k ∧ k ≤ s.length + 1 ∧ ∀ q,r = some q → k ≤ p + q.2)
  (fun k=>s.length + 1 - k) (p + 1) rfl ⟨((OldB.start hb).push _).push _,zC (zC hb),zC zB,zB,by omega,by omega,fun q hq=>by have:=(hbe q hq).1; omega⟩ (fun k H1 ⟨ho,hb1,hr1,h2,hpk,hk,hq⟩=>?_)
 have hlen1:=ho.old.1
 rw [zL3] at hlen1
 have hl2:=(zg h2).1
 have hlH : (H ++ [ABlk.box [pR b]]).length = H.length + 1:=by simp
 by_cases hks : k ≤ s.length
 ·have hlk:=hlb k hpk hks
  have hli:=hLi (sub s p k) H1
  clear hLi
  by_cases hit : ∃ q,r = some q ∧ k = p + q.2
  ·obtain ⟨⟨kk,nn⟩,rfl,hkn⟩:=hit
   simp only at hkn
   have e2 : litP (sub s p k) = some (4,(kk : Int)):=by
    rw [hlk]; simp only; rw [zLx tO]
   rw [e2] at hli
   have hli : C zAH [.str (sub s p k)] H1 (.tup [v3 4 kk,.bool true]) H1:=hli
   have e0 : mkR s d (Option.map (fun q : Nat × Nat=>(badN q.1,p + q.2)) (some (kk,nn))) = some (ndV (badN kk),rdB s k d):=by rw [hkn]; rfl
   rw [e0]
   refine sW ?_; refine zl (v:=.str (sub s p k)) (zCr s p k tO tO) <| sW ?_; refine sS (v3 4 ↑kk) (AV.cells (v3 4 ↑kk)) ?_; refine sW ?_; refine sS (zK k) [AV.str s,zK k,zK d] ?_; refine sW ?_; refine sS (AV.agg [.int .i64 4,.int .i64 ↑kk,AV.str [],.int .i64 0,.int .i64 0,AV.bool false,AV.bool false,.int .i64 0,.int .i64 0,AV.bool false,AV.bool false,AV.lst (some true) 0 []]) (AV.cells (AV.agg [.int .i64 4,.int .i64 ↑kk,AV.str [],.int .i64 0,.int .i64 0,AV.bool false,AV.bool false,.int .i64 0,.int .i64 0,AV.bool false,AV.bool false,AV.lst (some true) 0 []])) ?_
   exact zx (o:=0) (ndV (badN kk)) rfl rfl rfl (zJ hP) rfl rfl rfl ((((ho.push _).set tO _).setB _).set tO _) rfl
  ·have e2 : litP (sub s p k) = none:=by
    rw [hlk]
    cases r with
    | none=>rfl
    | some q=>
     simp only
     rw [zLv (fun e=>hit ⟨q,rfl,by omega⟩)]
   rw [e2] at hli
   have hli : C zAH [.str (sub s p k)] H1 (.tup [v3 0 0,.bool false]) H1:=hli
   refine sW ?_; refine zl (v:=.str (sub s p k)) (zCr s p k tO tO) <| sW ?_; refine sS (v3 0 0) (AV.cells (v3 0 0)) ?_; refine sW ?_; refine zN (r:=k + 1) rfl tO ?_; refine zAU (k + 1) rfl ⟨(ho.push _).set tO _,zA tO (zC hb1),zA tO (zC hr1),zA tO (zC h2),by omega,by omega,fun q hq'=>?_⟩ tO
   have h3:=hq q hq'
   rcases zNJ k (p + q.2) with h | h
   ·omega
   ·exact absurd ⟨q,hq',by omega⟩ hit
 ·have e2 : r = none:=by
   cases r with
   | none=>rfl
   | some q=>
    have:=hq q rfl
    have:=(hbe q rfl).2
    omega
  subst e2
  have e0 : mkR s d (Option.map (fun q : Nat × Nat=>(badN q.1,p + q.2)) none) = none:=rfl
  rw [e0]
  refine sW ?_; refine zAV (hf _ hb1) ?_
  exact sP
theorem prim_else (hF : ∀ b s p d a e H,H[b]? = some (rdB s p d) → C zV (.pan .undef :: [pR b,.int .i64 a,zGl e]) H zEs (H.set b (.box (wkC s)))) (hWd : ∀ c H,C zAQ [byV c] H (.bool (zu c)) H)
  (b : Nat) (s : Bs) (p d : Nat) (H : Heap) (hb : H[b]? = some (rdB s p d)) (hp : p ≤ s.length) (hl : s.length ≤ 200) (hd : d ≤ 1000) (c : UInt8) (hc : s[p]? = some c) (h32 : s[p]? ≠ some 32) (h45 : s[p]? ≠ some 45) (h40 : c ≠ 40) (h34 : c ≠ 34) (h35 : c ≠ 35) (hw : ¬ zu c = true) : zB3 C GT zq [pR b] H b (wkC s) zEs (mkR s d (zBw s (P s) p d)):=by
 have hbl : b < H.length:=(zg hb).1
 have hlt : p < s.length:=(zg hc).1
 have n40 : c.toNat ≠ 40:=fun e=>h40 (zME.1 e)
 have n34 : c.toNat ≠ 34:=fun e=>h34 (zME.1 e)
 have n35 : c.toNat ≠ 35:=fun e=>h35 (zME.1 e)
 have hwd:=hWd c (H ++ [.box [pR b]] ++ [.box (ndC zW)])
 have hw:=zMe.2 hw
 rw [one_else hc (fun e=>h32 (by rw [hc,e])) (fun e=>h45 (by rw [hc,e])) h40 h34 h35 hw]
 have e0 : mkR s d none = none:=rfl
 rw [e0]
 rw [hw] at hwd
 have hf:=fun H' h=>hF b s p d p 2 H' h
 clear hF hWd
 refine zz <| zCj (x:=pR b) rfl <| sW ?_; refine zAV (hf _ hP) ?_
 exact sP
theorem prim_call (hWd : ∀ c H,C zAQ [byV c] H (.bool (zu c)) H) (hWo : ∀ b s p d H,H[b]? = some (rdB s p d) → p ≤ s.length → s.length ≤ 200 → C zo [pR b] H (.str (sub s p (zB5 s p))) (H.set b (rdB s (zB5 s p) d))) (hCa : ∀ t H,t.length ≤ 1000 → C zBS [.str t] H (.bool (zBI t)) H) (hWi : ∀ f caps a b s p d H r,H[b]? = some (rdB s p d) → d ≤ 1000 → (∀ H',H'[b]? = some (rdB s p (d + 1)) → Off H b H' → CR C f caps H' b s (d + 1) r) → CR C zk [pR b,.int .i64 a,.fn f [] caps] H b s d (if d = 30 then none else r))
  (b : Nat) (s : Bs) (p d : Nat) (H : Heap) (hb : H[b]? = some (rdB s p d)) (hp : p ≤ s.length) (hl : s.length ≤ 200) (hd : d ≤ 1000) (c : UInt8) (hc : s[p]? = some c) (hw : zu c = true) (h41 : s[zB5 s p]? = some 40) (hcd : zBI (sub s p (zB5 s p)) = true) (hCl : ∀ e t,s[e]? = some 40 → p < e → ∀ H' rb sb,H'[b]? = some (rdB s e (d + 1)) → H'[rb]? = some (.box [pR b]) → H'[sb]? = some (.box [.str t]) → CR C zAA [pR rb,pR sb] H' b s (d + 1) (zGg s t e (d + 1))) : zB3 C GT zq [pR b] H b (wkC s) zEs (mkR s d (zBw s (P s) p d)):=by
 have hbl : b < H.length:=(zg hb).1
 have hlt : p < s.length:=(zg hc).1
 have hwn:=zHO hw
 have n40 : c.toNat ≠ 40:=fun e=>hwn.2.2.2.2 (zME.1 e)
 have n34 : c.toNat ≠ 34:=fun e=>hwn.2.2.2.1 (zME.1 e)
 have n35 : c.toNat ≠ 35:=fun e=>hwn.2.2.1 (zME.1 e)
 have hwd:=hWd c (H ++ [.box [pR b]] ++ [.box (ndC zW)])
 rw [hw] at hwd
 rw [one_word hc hw]
 have hwo:=hWo b s p d (H ++ [.box [pR b]] ++ [.box (ndC zW)]) (zC (zC hb)) hp hl
 have hee : p < zB5 s p:=by rw [zFf hc hw]; have:=zIA s (p + 1); omega
 have hel:=zHC hp
 have hth:=zKk (e:=zB5 s p) hc hee
 have htl:=zJj (s:=s) (p:=p) (e:=zB5 s p) hel
 generalize zB5 s p = e at *
 generalize sub s p e = t at *
 have hca:=fun H'=>hCa t H' tO
 have hcl:=fun h=>hCl e t h hee
 have hww:=fun H' r h1 h2=>hWi zAA [pR H.length,pR ((H ++ [ABlk.box [pR b]] ++ [ABlk.box (ndC zW)]).set b (rdB s e d)).length] p b s e d H' r h1 hd h2
 clear hWi hWd hWo hCa hCl
 refine zz ?_
 have hlt2 : e < s.length:=(zg h41).1
 rw [zLx ⟨hcd,h41⟩]
 have hcl:=hcl h41
 rw [hcd] at hca
 skip
 have hH2 : ∀ X : Heap,X[H.length]? = some (.box [pR b]) → X[((H ++ [ABlk.box [pR b]] ++ [ABlk.box (ndC zW)]).set b (rdB s e d)).length]? = some (.box [.str t]) → X[b]? = some (rdB s e d) → CR C zk [pR b,zK p,.fn zAA [] [pR H.length,pR ((H ++ [ABlk.box [pR b]] ++ [ABlk.box (ndC zW)]).set b (rdB s e d)).length]] X b s d (if d = 30 then none else zGg s t e (d + 1)):=fun X x1 x2 x3=>
  hww X (zGg s t e (d + 1)) x3 (fun H' h1 ho=>hcl H' _ _ h1 (ho _ _ x1 tO) (ho _ _ x2 (by simp; omega)))
 clear hww hcl
 cases hr : (if d = 30 then none else zGg s t e (d + 1)) with
 | none=>
  rw [hr] at hH2
  have hH2:=fun X x1 x2 x3=>(hH2 X x1 x2 x3).2 rfl
  have e0 : mkR s d none = none:=rfl
  rw [e0]
  refine zCj (x:=pR b) rfl <| sW ?_; refine sS (AV.str t) [AV.str t] ?_; refine sW ?_; refine zAV (hH2 _ hP hP hP) ?_
  exact sP
 | some q=>
  obtain ⟨n,e'⟩:=q
  rw [hr] at hH2
  have hH2:=fun X x1 x2 x3=>(hH2 X x1 x2 x3).1 n e' rfl
  have e0 : mkR s d (some (n,e')) = some (ndV n,rdB s e' d):=rfl
  rw [e0]
  refine zCj (x:=pR b) rfl <| sW ?_; refine sS (AV.str t) [AV.str t] ?_; refine sW ?_; refine zBj (hH2 _ hP hP hP) <| sS (ndV n) (AV.cells (ndV n)) ?_
  exact zx (o:=0) (ndV n) (by first | rfl | assumption) rfl rfl (zJ (zE (zA tA (zA tA (zC (zA tA zB)))))) rfl rfl rfl hO rfl
theorem prim_plain1 (hF : ∀ b s p d a e H,H[b]? = some (rdB s p d) → C zV (.pan .undef :: [pR b,.int .i64 a,zGl e]) H zEs (H.set b (.box (wkC s)))) (hWd : ∀ c H,C zAQ [byV c] H (.bool (zu c)) H) (hWo : ∀ b s p d H,H[b]? = some (rdB s p d) → p ≤ s.length → s.length ≤ 200 → C zo [pR b] H (.str (sub s p (zB5 s p))) (H.set b (rdB s (zB5 s p) d))) (hCa : ∀ t H,t.length ≤ 1000 → C zBS [.str t] H (.bool (zBI t)) H) (hPl : ∀ t H,t.length ≤ 1000 → t.head? ≠ some 45 → t.head? ≠ some 35 → C zAT [.str t] H (zJA (zJf t)) H)
  (b : Nat) (s : Bs) (p d : Nat) (H : Heap) (hb : H[b]? = some (rdB s p d)) (hp : p ≤ s.length) (hl : s.length ≤ 200) (hd : d ≤ 1000) (c : UInt8) (hc : s[p]? = some c) (hw : zu c = true) (h41 : s[zB5 s p]? = some 40) (hcd : ¬ zBI (sub s p (zB5 s p)) = true) : zB3 C GT zq [pR b] H b (wkC s) zEs (mkR s d (zBw s (P s) p d)):=by
 have hbl : b < H.length:=(zg hb).1
 have hlt : p < s.length:=(zg hc).1
 have hwn:=zHO hw
 have n40 : c.toNat ≠ 40:=fun e=>hwn.2.2.2.2 (zME.1 e)
 have n34 : c.toNat ≠ 34:=fun e=>hwn.2.2.2.1 (zME.1 e)
 have n35 : c.toNat ≠ 35:=fun e=>hwn.2.2.1 (zME.1 e)
 have hwd:=hWd c (H ++ [.box [pR b]] ++ [.box (ndC zW)])
 rw [hw] at hwd
 rw [one_word hc hw]
 have hwo:=hWo b s p d (H ++ [.box [pR b]] ++ [.box (ndC zW)]) (zC (zC hb)) hp hl
 have hee : p < zB5 s p:=by rw [zFf hc hw]; have:=zIA s (p + 1); omega
 have hel:=zHC hp
 have hth:=zKk (e:=zB5 s p) hc hee
 have htl:=zJj (s:=s) (p:=p) (e:=zB5 s p) hel
 generalize zB5 s p = e at *
 generalize sub s p e = t at *
 have hpl:=fun H'=>hPl t H' tO (by rw [hth]; exact fun x=>hwn.2.1 (zMI x)) (by rw [hth]; exact fun x=>hwn.2.2.1 (zMI x))
 have hca:=fun H'=>hCa t H' tO
 have hf:=fun H' h=>hF b s e d p 2 H' h
 clear hF hWd hWo hCa hPl
 have hlt2 : e < s.length:=(zg h41).1
 refine zz ?_
 rw [zLv (fun x=>hcd x.1)]
 rw [zMe.2 hcd] at hca
 skip
 cases ha : zJf t with
 | none=>
  rw [ha] at hpl
  have hpl : ∀ H',C zAT [.str t] H' (.tup [ndV zW,.bool false]) H':=hpl
  have e0 : mkR s d (Option.map (fun n=>(n,e)) none) = none:=rfl
  rw [e0]
  refine zCj (x:=pR b) rfl <| sW ?_; refine sS (AV.str t) [AV.str t] ?_; refine sW ?_; refine sS (ndV zW) (AV.cells (ndV zW)) ?_; refine sW ?_; refine zAV (hf _ hP) ?_
  exact sP
 | some n=>
  rw [ha] at hpl
  have hpl : ∀ H',C zAT [.str t] H' (.tup [ndV n,.bool true]) H':=hpl
  have e0 : mkR s d (Option.map (fun n=>(n,e)) (some n)) = some (ndV n,rdB s e d):=rfl
  rw [e0]
  refine zCj (x:=pR b) rfl <| sW ?_; refine sS (AV.str t) [AV.str t] ?_; refine sW ?_; refine sS (ndV n) (AV.cells (ndV n)) ?_; refine sW ?_; refine sS (ndV n) (AV.cells (ndV n)) ?_
  exact zx (o:=0) (ndV n) (by first | rfl | assumption) rfl rfl (zJ (zE (zA tA (zC (zA tA (zC (zA tA zB))))))) rfl rfl rfl hO rfl
theorem prim_plain2 (hF : ∀ b s p d a e H,H[b]? = some (rdB s p d) → C zV (.pan .undef :: [pR b,.int .i64 a,zGl e]) H zEs (H.set b (.box (wkC s)))) (hWd : ∀ c H,C zAQ [byV c] H (.bool (zu c)) H) (hWo : ∀ b s p d H,H[b]? = some (rdB s p d) → p ≤ s.length → s.length ≤ 200 → C zo [pR b] H (.str (sub s p (zB5 s p))) (H.set b (rdB s (zB5 s p) d))) (hPl : ∀ t H,t.length ≤ 1000 → t.head? ≠ some 45 → t.head? ≠ some 35 → C zAT [.str t] H (zJA (zJf t)) H)
  (b : Nat) (s : Bs) (p d : Nat) (H : Heap) (hb : H[b]? = some (rdB s p d)) (hp : p ≤ s.length) (hl : s.length ≤ 200) (hd : d ≤ 1000) (c : UInt8) (hc : s[p]? = some c) (hw : zu c = true) (h41 : ¬ s[zB5 s p]? = some 40) : zB3 C GT zq [pR b] H b (wkC s) zEs (mkR s d (zBw s (P s) p d)):=by
 have hbl : b < H.length:=(zg hb).1
 have hlt : p < s.length:=(zg hc).1
 have hwn:=zHO hw
 have n40 : c.toNat ≠ 40:=fun e=>hwn.2.2.2.2 (zME.1 e)
 have n34 : c.toNat ≠ 34:=fun e=>hwn.2.2.2.1 (zME.1 e)
 have n35 : c.toNat ≠ 35:=fun e=>hwn.2.2.1 (zME.1 e)
 have hwd:=hWd c (H ++ [.box [pR b]] ++ [.box (ndC zW)])
 rw [hw] at hwd
 rw [one_word hc hw]
 have hwo:=hWo b s p d (H ++ [.box [pR b]] ++ [.box (ndC zW)]) (zC (zC hb)) hp hl
 have hee : p < zB5 s p:=by rw [zFf hc hw]; have:=zIA s (p + 1); omega
 have hel:=zHC hp
 have hth:=zKk (e:=zB5 s p) hc hee
 have htl:=zJj (s:=s) (p:=p) (e:=zB5 s p) hel
 generalize zB5 s p = e at *
 generalize sub s p e = t at *
 have hpl:=fun H'=>hPl t H' tO (by rw [hth]; exact fun x=>hwn.2.1 (zMI x)) (by rw [hth]; exact fun x=>hwn.2.2.1 (zMI x))
 have hf:=fun H' h=>hF b s e d p 2 H' h
 clear hF hWd hWo hPl
 refine zz ?_
 rw [zLv (fun x=>h41 x.2)]
 skip
 cases ha : zJf t with
 | none=>
  rw [ha] at hpl
  have hpl : ∀ H',C zAT [.str t] H' (.tup [ndV zW,.bool false]) H':=hpl
  have e0 : mkR s d (Option.map (fun n=>(n,e)) none) = none:=rfl
  rw [e0]
  by_cases hlt2 : e < s.length
  ·obtain ⟨x,hx⟩ : ∃ x,s[e]? = some x:=⟨_,zLy hlt2⟩
   have hxn : x.toNat ≠ 40:=fun y=>h41 (by rw [hx,show x = 40 from zME.1 y])
   refine zCj (x:=pR b) rfl <| sW ?_; refine sS (AV.str t) [AV.str t] ?_; refine sW ?_; refine sS (ndV zW) (AV.cells (ndV zW)) ?_; refine sW ?_; refine zAV (hf _ hP) ?_
   exact sP
  ·refine zCj (x:=pR b) rfl <| sW ?_; refine sS (AV.str t) [AV.str t] ?_; refine sW ?_; refine sS (ndV zW) (AV.cells (ndV zW)) ?_; refine sW ?_; refine zAV (hf _ hP) ?_
   exact sP
 | some n=>
  rw [ha] at hpl
  have hpl : ∀ H',C zAT [.str t] H' (.tup [ndV n,.bool true]) H':=hpl
  have e0 : mkR s d (Option.map (fun n=>(n,e)) (some n)) = some (ndV n,rdB s e d):=rfl
  rw [e0]
  by_cases hlt2 : e < s.length
  ·obtain ⟨x,hx⟩ : ∃ x,s[e]? = some x:=⟨_,zLy hlt2⟩
   have hxn : x.toNat ≠ 40:=fun y=>h41 (by rw [hx,show x = 40 from zME.1 y])
   refine zCj (x:=pR b) rfl <| sW ?_; refine sS (AV.str t) [AV.str t] ?_; refine sW ?_; refine sS (ndV n) (AV.cells (ndV n)) ?_; refine sW ?_; refine sS (ndV n) (AV.cells (ndV n)) ?_
   exact zx (o:=0) (ndV n) (by first | rfl | assumption) rfl rfl (zJ (zE (zA tA (zC (zA tA (zC (zA tA zB))))))) rfl rfl rfl hO rfl
  ·refine zCj (x:=pR b) rfl <| sW ?_; refine sS (AV.str t) [AV.str t] ?_; refine sW ?_; refine sS (ndV n) (AV.cells (ndV n)) ?_; refine sW ?_; refine sS (ndV n) (AV.cells (ndV n)) ?_
   exact zx (o:=0) (ndV n) (by first | rfl | assumption) rfl rfl (zJ (zE (zA tA (zC (zA tA (zC (zA tA zB))))))) rfl rfl rfl hO rfl
end
end Go.AM
set_option maxRecDepth 20000
namespace Go.AM
theorem psOne_skip (s : Bs) (q : Ps) (p d : Nat) : zBw s q (skip s p) d = zBw s q p d:=by unfold zBw; rw [zI8]
theorem one_minus {s : Bs} {p d : Nat} (h : s[p]? = some 45) : zBw s (P s) p d = if d = 30 then none else ((P s).one (p + 1) (d + 1)).map fun q=>(negN q.1,q.2):=by
 have hs : skip s p = p:=zDR (by rw [h]; simp)
 have ht:=zFi (s:=s) (p:=p) (c:=45) (by rw [hs]; exact h) (by decide)
 rw [hs] at ht
 unfold zBw
 rw [ht]
 rfl
def argS (s : Bs) (p d : Nat) : Option (Nd × Nat):=match zDV s p with
 | some r=>r
 | none=>bl s ((P s).loose 1 p d)
theorem sub_self (s : Bs) (a : Nat) : sub s a a = []:=by unfold sub; rw [Nat.sub_self]; rfl
theorem refP_nil : zCc [] = none:=rfl
theorem box_is (s : Bs) (p : Nat) : zDV s p = match zCc (sub s (skip s p) (zB5 s (skip s p))) with
  | some r=>if s[zB5 s (skip s p)]? = some 58 then some ((zCc (sub s (zB5 s (skip s p) + 1) (zB5 s (zB5 s (skip s p) + 1)))).map fun r2=>(boxN r r2,zB5 s (zB5 s (skip s p) + 1))) else none
  | none=>none:=by
 unfold zDV
 by_cases hw : ∃ c,s[skip s p]? = some c ∧ zu c = true
 ·obtain ⟨c,hc,hw⟩:=hw
  have ht : tok s p = .word (zB5 s (skip s p)) (sub s (skip s p) (zB5 s (skip s p))):=by rw [← zI8]; exact tok_word hc hw
  rw [ht]
  simp only
  cases zCc (sub s (skip s p) (zB5 s (skip s p))) with
  | none=>rfl
  | some r=>
   simp only
   generalize zB5 s (skip s p) = e
   by_cases h58 : s[e]? = some 58
   ·rw [zLx h58,zLx h58]
    by_cases hw2 : ∃ c,s[e + 1]? = some c ∧ zu c = true
    ·obtain ⟨c2,hc2,hw2⟩:=hw2
     have ht2 : zB4 s (e + 1) = .word (zB5 s (e + 1)) (sub s (e + 1) (zB5 s (e + 1))):=by
      unfold zB4
      rw [hc2]
      simp only [hw2,zMR]
     rw [ht2]
    ·have hst : zB5 s (e + 1) = e + 1:=zFg fun c h=>zMe.2 fun x=>hw2 ⟨c,h,x⟩
     rw [hst,sub_self,refP_nil]
     unfold zB4
     split
     ·rename_i heq
      split at heq
      ·cases heq
      ·rename_i c2 hc2
       rw [zLv (fun x=>hw2 ⟨c2,hc2,x⟩)] at heq
       split at heq
       ·split at heq <;> cases heq
       ·split at heq
        ·split at heq <;> cases heq
        ·split at heq
         ·split at heq <;> cases heq
         ·cases heq
     ·rfl
   ·rw [zLv h58,zLv h58]
 ·have hst : zB5 s (skip s p) = skip s p:=zFg fun c h=>zMe.2 fun x=>hw ⟨c,h,x⟩
  rw [hst,sub_self,refP_nil]
  simp only
  split
  ·rename_i e t heq
   exfalso
   unfold tok zB4 at heq
   split at heq
   ·cases heq
   ·rename_i c2 hc2
    rw [zLv (fun x=>hw ⟨c2,hc2,x⟩)] at heq
    split at heq
    ·split at heq <;> cases heq
    ·split at heq
     ·split at heq <;> cases heq
     ·split at heq
      ·split at heq <;> cases heq
      ·cases heq
  ·rfl
section
variable {C : CSpec} {GT : Nat → Option AV}
theorem neg_ev (hB : ∀ b s p d H,H[b]? = some (rdB s p d) → p ≤ s.length → s.length ≤ 200 → C za [pR b] H (.tup []) (H.set b (rdB s (skip s p) d)))
  (hWi : ∀ f caps a b s p d H r,H[b]? = some (rdB s p d) → d ≤ 1000 → (∀ H',H'[b]? = some (rdB s p (d + 1)) → Off H b H' → CR C f caps H' b s (d + 1) r) → CR C zk [pR b,.int .i64 a,.fn f [] caps] H b s d (if d = 30 then none else r))
  (b : Nat) (s : Bs) (p d : Nat) (H : Heap) (hb : H[b]? = some (rdB s p d)) (hp : p ≤ s.length) (hl : s.length ≤ 200) (hd : d ≤ 1000)
  (hNc : s[skip s p]? = some 45 → ∀ H' rb,H'[b]? = some (rdB s (skip s p) (d + 1)) → H'[rb]? = some (.box [pR b]) → CR C zAX [pR rb] H' b s (d + 1) (((P s).one (skip s p + 1) (d + 1)).map fun q=>(negN q.1,q.2)))
  (hPr : s[skip s p]? ≠ some 45 → ∀ H',H'[b]? = some (rdB s (skip s p) d) → CR C zAn [pR b] H' b s d (zBw s (P s) (skip s p) d)) :
  zB3 C GT zCQ [pR b] H b (wkC s) zEs (mkR s d ((P s).one p d)):=by
 have hbl : b < H.length:=(zg hb).1
 rw [P_one d hp,← psOne_skip]
 have hbk:=hB b s p d (H ++ [ABlk.box (pR b).cells] ++ [ABlk.box (ndC zW)]) (zC (zC hb)) hp hl
 have hql:=zBi hp
 generalize skip s p = q at *
 by_cases h45 : s[q]? = some 45
 ·have hlt : q < s.length:=(zg h45).1
  rw [one_minus h45]
  have hnc:=hNc h45
  have hw:=hWi zAX [pR H.length] q b s q d ((H ++ [ABlk.box (pR b).cells] ++ [ABlk.box (ndC zW)]).set b (rdB s q d)) (((P s).one (q + 1) (d + 1)).map fun q=>(negN q.1,q.2)) (zE (zC (zC hb))) hd (fun H' h1 ho=>hnc H' H.length h1 (ho _ _ (zA tO (zC zB)) tO))
  clear hB hWi hNc hPr hnc
  refine zz ?_
  cases hr : (if d = 30 then none else ((P s).one (q + 1) (d + 1)).map fun q=>(negN q.1,q.2)) with
  | none=>
   rw [hr] at hw
   have hw:=hw.2 rfl
   have e : mkR s d none = none:=rfl
   rw [e]
   refine zCj (x:=pR b) rfl <| sW ?_; refine zAV hw ?_
   exact sP
  | some x=>
   obtain ⟨n,e⟩:=x
   rw [hr] at hw
   have hw:=hw.1 n e rfl
   have e0 : mkR s d (some (n,e)) = some (ndV n,rdB s e d):=rfl
   rw [e0]
   refine zCj (x:=pR b) rfl <| sW ?_; refine zBj hw <| sS (ndV n) (AV.cells (ndV n)) ?_
   exact zx (o:=0) (ndV n) (by first | rfl | assumption) rfl rfl (zJ (zE (zA tA (zA tA zB)))) rfl rfl rfl hO rfl
 ·have hpr:=hPr h45 ((H ++ [ABlk.box (pR b).cells] ++ [ABlk.box (ndC zW)]).set b (rdB s q d)) (zE (zC (zC hb)))
  clear hB hWi hNc hPr
  generalize zBw s (P s) q d = r at *
  refine zz ?_
  by_cases hlt : q < s.length
  ·obtain ⟨c,hc⟩ : ∃ c,s[q]? = some c:=⟨_,zLy hlt⟩
   have hn : c.toNat ≠ 45:=fun e=>h45 (by rw [hc,show c = 45 from zME.1 e])
   cases r with
   | none=>
    have hpr:=hpr.2 rfl
    have e : mkR s d none = none:=rfl
    rw [e]
    refine zCj (x:=pR b) rfl <| sW ?_; refine zAV hpr ?_
    exact sP
   | some x=>
    obtain ⟨n,e⟩:=x
    have hpr:=hpr.1 n e rfl
    have e0 : mkR s d (some (n,e)) = some (ndV n,rdB s e d):=rfl
    rw [e0]
    refine zCj (x:=pR b) rfl <| sW ?_; refine zBj hpr <| sS (ndV n) (AV.cells (ndV n)) ?_
    exact zx (o:=0) (ndV n) (by first | rfl | assumption) rfl rfl (zJ (zE (zA tA (zA tA zB)))) rfl rfl rfl hO rfl
  ·cases r with
   | none=>
    have hpr:=hpr.2 rfl
    have e : mkR s d none = none:=rfl
    rw [e]
    refine zCj (x:=pR b) rfl <| sW ?_; refine zAV hpr ?_
    exact sP
   | some x=>
    obtain ⟨n,e⟩:=x
    have hpr:=hpr.1 n e rfl
    have e0 : mkR s d (some (n,e)) = some (ndV n,rdB s e d):=rfl
    rw [e0]
    refine zCj (x:=pR b) rfl <| sW ?_; refine zBj hpr <| sS (ndV n) (AV.cells (ndV n)) ?_
    exact zx (o:=0) (ndV n) (by first | rfl | assumption) rfl rfl (zJ (zE (zA tA (zA tA zB)))) rfl rfl rfl hO rfl
theorem arg_ev (hB : ∀ b s p d H,H[b]? = some (rdB s p d) → p ≤ s.length → s.length ≤ 200 → C za [pR b] H (.tup []) (H.set b (rdB s (skip s p) d)))
  (hF : ∀ b s p d a e H,H[b]? = some (rdB s p d) → C zV (.pan .undef :: [pR b,.int .i64 a,zGl e]) H zEs (H.set b (.box (wkC s))))
  (hWo : ∀ b s p d H,H[b]? = some (rdB s p d) → p ≤ s.length → s.length ≤ 200 → C zo [pR b] H (.str (sub s p (zB5 s p))) (H.set b (rdB s (zB5 s p) d)))
  (hR : ∀ s H,s.length ≤ 1000 → C zA0 [.str s] H (refV (zCc s)) H)
  (b : Nat) (s : Bs) (p d : Nat) (H : Heap) (hb : H[b]? = some (rdB s p d)) (hp : p ≤ s.length) (hl : s.length ≤ 200)
  (hT : ∀ H',H'[b]? = some (rdB s (skip s p) d) → CR C zi [pR b,zI 0] H' b s d (bl s ((P s).loose 1 p d))) :
  zB3 C GT zBN [pR b] H b (wkC s) zEs (mkR s d (argS s p d)):=by
 have hbl : b < H.length:=(zg hb).1
 unfold argS
 rw [box_is]
 have hbk:=hB b s p d (H ++ [ABlk.box (ndC zW)]) (zC hb) hp hl
 have hql:=zBi hp
 generalize skip s p = q at *
 have hwo:=fun H' h=>hWo b s q d H' h hql hl
 have hel:=zHC hql
 have htl : (sub s q (zB5 s q)).length ≤ 1000:=by rw [zJj hel]; omega
 generalize zB5 s q = e at *
 have hrr:=fun H'=>hR (sub s q e) H' htl
 have hTT : ∃ r,bl s ((P s).loose 1 p d) = r:=⟨_,rfl⟩
 obtain ⟨r0,hr0⟩:=hTT
 rw [hr0] at hT
 rw [hr0]
 generalize sub s q e = t at *
 cases hrt : zCc t with
 | none=>
  rw [hrt] at hrr
  have hrr : ∀ H',C zA0 [.str t] H' (.tup [rV noRef,zGl 2]) H':=hrr
  clear hB hF hWo hR
  simp only
  refine zz ?_
  cases r0 with
  | none=>
   have hT:=fun H' h=>(hT H' h).2 rfl
   have e : mkR s d none = none:=rfl
   rw [e]
   refine sW ?_; refine sS (rV noRef) (AV.cells (rV noRef)) ?_; refine sW ?_; refine sS (zK q) [AV.str s,zK q,zK d] ?_; refine zAV (hT _ hP) ?_
   exact sP
  | some x=>
   obtain ⟨n,e'⟩:=x
   have hT:=fun H' h=>(hT H' h).1 n e' rfl
   have e0 : mkR s d (some (n,e')) = some (ndV n,rdB s e' d):=rfl
   rw [e0]
   refine sW ?_; refine sS (rV noRef) (AV.cells (rV noRef)) ?_; refine sW ?_; refine sS (zK q) [AV.str s,zK q,zK d] ?_; refine zBj (hT _ hP) <| sS (ndV n) (AV.cells (ndV n)) ?_
   exact zx (o:=0) (ndV n) (by first | rfl | assumption) rfl rfl (zJ (zE (zA tA (zA tA (zA tA (zC (zA tA (zA tA zB)))))))) rfl rfl rfl hO rfl
 | some r=>
  rw [hrt] at hrr
  have hrr : ∀ H',C zA0 [.str t] H' (.tup [rV r,.nili]) H':=hrr
  simp only
  by_cases h58 : s[e]? = some 58
  case neg=>
   rw [zLv h58]
   clear hB hF hWo hR
   simp only
   refine zz ?_
   by_cases hlt : e < s.length
   ·obtain ⟨c,hc⟩ : ∃ c,s[e]? = some c:=⟨_,zLy hlt⟩
    have hn : c.toNat ≠ 58:=fun x=>h58 (by rw [hc,show c = 58 from zME.1 x])
    cases r0 with
    | none=>
     have hT:=fun H' h=>(hT H' h).2 rfl
     have e : mkR s d none = none:=rfl
     rw [e]
     refine sW ?_; refine sS (rV r) (AV.cells (rV r)) ?_; refine sW ?_; refine zb (zMg.2 tO) <| sS (zK q) [AV.str s,zK q,zK d] ?_; refine zAV (hT _ hP) ?_
     exact sP
    | some x=>
     obtain ⟨n,e'⟩:=x
     have hT:=fun H' h=>(hT H' h).1 n e' rfl
     have e0 : mkR s d (some (n,e')) = some (ndV n,rdB s e' d):=rfl
     rw [e0]
     refine sW ?_; refine sS (rV r) (AV.cells (rV r)) ?_; refine sW ?_; refine zb (zMg.2 tO) <| sS (zK q) [AV.str s,zK q,zK d] ?_; refine zBj (hT _ hP) <| sS (ndV n) (AV.cells (ndV n)) ?_
     exact zx (o:=0) (ndV n) (by first | rfl | assumption) rfl rfl (zJ (zE (zA tA (zA tA (zA tA (zC (zA tA (zA tA zB)))))))) rfl rfl rfl hO rfl
   ·cases r0 with
    | none=>
     have hT:=fun H' h=>(hT H' h).2 rfl
     have e : mkR s d none = none:=rfl
     rw [e]
     refine sW ?_; refine sS (rV r) (AV.cells (rV r)) ?_; refine sW ?_; refine sS (zK q) [AV.str s,zK q,zK d] ?_; refine zAV (hT _ hP) ?_
     exact sP
    | some x=>
     obtain ⟨n,e'⟩:=x
     have hT:=fun H' h=>(hT H' h).1 n e' rfl
     have e0 : mkR s d (some (n,e')) = some (ndV n,rdB s e' d):=rfl
     rw [e0]
     refine sW ?_; refine sS (rV r) (AV.cells (rV r)) ?_; refine sW ?_; refine sS (zK q) [AV.str s,zK q,zK d] ?_; refine zBj (hT _ hP) <| sS (ndV n) (AV.cells (ndV n)) ?_
     exact zx (o:=0) (ndV n) (by first | rfl | assumption) rfl rfl (zJ (zE (zA tA (zA tA (zA tA (zC (zA tA (zA tA zB)))))))) rfl rfl rfl hO rfl
  case pos=>
   have hlt : e < s.length:=(zg h58).1
   rw [zLx h58]
   clear hT
   simp only
   have hwo2:=fun H' h=>hWo b s (e + 1) d H' h tO hl
   have hel2:=zHC (s:=s) (a:=e + 1) tO
   have htl2 : (sub s (e + 1) (zB5 s (e + 1))).length ≤ 1000:=by rw [zJj hel2]; omega
   generalize zB5 s (e + 1) = e2 at *
   have hrr2:=fun H'=>hR (sub s (e + 1) e2) H' htl2
   generalize sub s (e + 1) e2 = t2 at *
   have hf:=fun H' h=>hF b s e2 d (e + 1 : Nat) 2 H' h
   clear hB hF hWo hR
   refine zz ?_
   cases hrt2 : zCc t2 with
   | none=>
    rw [hrt2] at hrr2
    have hrr2 : ∀ H',C zA0 [.str t2] H' (.tup [rV noRef,zGl 2]) H':=hrr2
    have e0 : mkR s d (Option.map (fun r2=>(boxN r r2,e2)) none) = none:=rfl
    rw [e0]
    refine zAc hbk (fun h=>by cases h) <| zD (zK q) (zE (zC hb)) rfl <| zAc (hwo _ hP) (fun h=>by cases h) <| zL (hrr _) <| zl rfl <| zl rfl ?_; refine zH (v:=rV r) (AV.cells (rV r)) zB rfl rfl rfl rfl <| zl rfl <| zF <| zD (zK e) (zA tA (zC (zE (zE (zC hb))))) rfl <| zD (AV.str s) (zA tA (zC (zE (zE (zC hb))))) rfl ?_; refine zF <| zY tN <| zD (AV.str s) (zA tA (zC (zE (zE (zC hb))))) rfl <| zD (zK e) (zA tA (zC (zE (zE (zC hb))))) rfl <| zr rfl h58 ?_
    refine zF <| zY (zMQ.2 (by rfl)) <| zD (zK e) (zA tA (zC (zE (zE (zC hb))))) rfl <| zN (r:=e + 1) rfl tO <| zH (v:=.int .i64 ↑(e + 1)) [AV.str s,.int .i64 ↑(e + 1),zK d] (zA tA (zC (zE (zE (zC hb))))) rfl rfl rfl rfl <| zD (.int .i64 ↑(e + 1)) (zE (zA tA (zC (zE (zE (zC hb)))))) rfl ?_; refine zAc (hwo2 _ hP) (fun h=>by cases h) <| zL (hrr2 _) <| zl rfl <| zl rfl <| zH (v:=rV noRef) (AV.cells (rV noRef)) zB rfl rfl rfl rfl <| zl rfl ?_
    refine zG <| zAV (hf _ hP) ?_
    exact sP
   | some r2=>
    rw [hrt2] at hrr2
    have hrr2 : ∀ H',C zA0 [.str t2] H' (.tup [rV r2,.nili]) H':=hrr2
    have e0 : mkR s d (Option.map (fun r2=>(boxN r r2,e2)) (some r2)) = some (ndV (boxN r r2),rdB s e2 d):=rfl
    rw [e0]
    refine zAc hbk (fun h=>by cases h) <| zD (zK q) (zE (zC hb)) rfl <| zAc (hwo _ hP) (fun h=>by cases h) <| zL (hrr _) <| zl rfl <| zl rfl ?_; refine zH (v:=rV r) (AV.cells (rV r)) zB rfl rfl rfl rfl <| zl rfl <| zF <| zD (zK e) (zA tA (zC (zE (zE (zC hb))))) rfl <| zD (AV.str s) (zA tA (zC (zE (zE (zC hb))))) rfl ?_; refine zF <| zY tN <| zD (AV.str s) (zA tA (zC (zE (zE (zC hb))))) rfl <| zD (zK e) (zA tA (zC (zE (zE (zC hb))))) rfl <| zr rfl h58 ?_
    refine zF <| zY (zMQ.2 (by rfl)) <| zD (zK e) (zA tA (zC (zE (zE (zC hb))))) rfl <| zN (r:=e + 1) rfl tO <| zH (v:=.int .i64 ↑(e + 1)) [AV.str s,.int .i64 ↑(e + 1),zK d] (zA tA (zC (zE (zE (zC hb))))) rfl rfl rfl rfl <| zD (.int .i64 ↑(e + 1)) (zE (zA tA (zC (zE (zE (zC hb)))))) rfl ?_; refine zAc (hwo2 _ hP) (fun h=>by cases h) <| zL (hrr2 _) <| zl rfl <| zl rfl <| zH (v:=rV r2) (AV.cells (rV r2)) zB rfl rfl rfl rfl <| zl rfl ?_
    refine zF <| zD (rV r) (zA tA (zC (zA tA (zA tA (zE zB))))) rfl <| zD (rV r2) (zE zB) rfl <| zl (v:=[.int .i64 6,.int .i64 0,AV.str [],.int .i64 r.col,.int .i64 r.row,AV.bool r.fc,AV.bool r.fr,.int .i64 r2.col,.int .i64 r2.row,AV.bool r2.fc,AV.bool r2.fr,AV.lst (some true) 0 []]) rfl <| zH (v:=AV.agg [.int .i64 6,.int .i64 0,AV.str [],.int .i64 r.col,.int .i64 r.row,AV.bool r.fc,AV.bool r.fr,.int .i64 r2.col,.int .i64 r2.row,AV.bool r2.fc,AV.bool r2.fr,AV.lst (some true) 0 []]) (AV.cells (AV.agg [.int .i64 6,.int .i64 0,AV.str [],.int .i64 r.col,.int .i64 r.row,AV.bool r.fc,AV.bool r.fr,.int .i64 r2.col,.int .i64 r2.row,AV.bool r2.fc,AV.bool r2.fr,AV.lst (some true) 0 []])) (zA tA (zC (zA tA (zA tA (zA tA (zC (zA tA (zA tA zB)))))))) rfl rfl rfl rfl ?_
    exact zx (o:=0) (AV.agg [.int .i64 6,.int .i64 0,AV.str [],.int .i64 r.col,.int .i64 r.row,AV.bool r.fc,AV.bool r.fr,.int .i64 r2.col,.int .i64 r2.row,AV.bool r2.fc,AV.bool r2.fr,AV.lst (some true) 0 []]) (by first | rfl | assumption) rfl rfl (zJ (zE (zA tA (zC (zA tA (zA tA (zA tA (zC (zA tA (zA tA zB)))))))))) rfl rfl rfl hO rfl
end
end Go.AM
set_option maxRecDepth 20000
namespace Go.AM
def zID (c : UInt8) (d : Option UInt8) : Bs:=match d with
 | some d=>if (c = 60 ∧ d = 62) ∨ (c = 60 ∧ d = 61) ∨ (c = 62 ∧ d = 61) then [c,d] else [c]
 | none=>[c]
theorem opAt_is {s : Bs} {q : Nat} {c : UInt8} (h : s[q]? = some c) (h32 : c ≠ 32) (h34 : c ≠ 34) (h35 : c ≠ 35) (hw : zu c = false) :
  zGn s q = if zBO (zID c s[q + 1]?) = 0 then none else some (zBO (zID c s[q + 1]?),q + (zID c s[q + 1]?).length):=by
 unfold zGn
 rw [zJ5 (by rw [h]; exact fun e=>h32 (zMI e))]
 unfold zB4
 rw [h]
 simp only [hw,zL5,zMP,h34,h35]
 unfold zID
 cases s[q + 1]? with
 | none=>rfl
 | some d=>
  simp only
  by_cases hx : (c = 60 ∧ d = 62) ∨ (c = 60 ∧ d = 61) ∨ (c = 62 ∧ d = 61)
  ·simp only [zLx hx]; rfl
  ·simp only [zLv hx]; rfl
theorem opAt_some {s : Bs} {q op e : Nat} (hs : s[q]? ≠ some 32) (h : zGn s q = some (op,e)) : ∃ c,s[q]? = some c ∧ c ≠ 34 ∧ c ≠ 35 ∧ zu c = false:=by
 unfold zGn at h
 rw [zJ5 hs] at h
 unfold zB4 at h
 cases hc : s[q]? with
 | none=>rw [hc] at h; cases h
 | some c=>
  rw [hc] at h
  simp only at h
  refine ⟨c,rfl, ?_, ?_, ?_⟩
  ·rintro rfl
   have hw : zu 34 = false:=by decide
   simp only [hw,zL5,zMP,zMR] at h
   cases hq : quo (s.drop (q + 1)) (q + 1) with
   | none=>rw [hq] at h; cases h
   | some x=>rw [hq] at h; cases h
  ·rintro rfl
   have hw : zu 35 = false:=by decide
   have h1 : ¬ ((35 : UInt8) = 34):=by decide
   simp only [hw,zL5,zMP,zMR,h1] at h
   cases hq : zIG (s.drop q) wrongs 1 with
   | none=>rw [hq] at h; cases h
   | some x=>rw [hq] at h; cases h
  ·cases hw : zu c with
   | false=>rfl
   | true=>rw [hw] at h; simp at h
def sgn : Nat → List Bs
 | 0=>[[60,62],[60,61],[62,61],[61],[60],[62]]
 | 1=>[[38]]
 | 2=>[[43],[45]]
 | 3=>[[42],[47]]
 | _=>[]
theorem zGF {s : Bs} {q : Nat} {c d : UInt8} : ([c,d] : Bs).isPrefixOf (s.drop q) = true ↔ s[q]? = some c ∧ s[q + 1]? = some d:=by
 cases hc : s[q]? with
 | none=>rw [zHB hc]; simp
 | some c'=>
  rw [zA3 hc]
  cases hd : s[q + 1]? with
  | none=>rw [zHB hd]; simp [List.isPrefixOf]
  | some d'=>
   rw [zA3 hd]
   simp only [List.isPrefixOf,zNT,zLu,zMO,zLt]
   exact ⟨fun h=>⟨h.1.symm,h.2.symm⟩,fun h=>⟨h.1.symm,h.2.symm⟩⟩
theorem zDf {s : Bs} {q : Nat} {c : UInt8} : ([c] : Bs).isPrefixOf (s.drop q) = true ↔ s[q]? = some c:=by
 cases hc : s[q]? with
 | none=>rw [zHB hc]; simp
 | some c'=>
  rw [zA3 hc]
  simp only [List.isPrefixOf,zNT,zMO,zLt]
  exact ⟨fun h=>h.symm,fun h=>h.symm⟩
theorem op_two {s : Bs} {q : Nat} {c d : UInt8} (h1 : s[q]? = some c) (h2 : s[q + 1]? = some d) (hcd : (c = 60 ∧ d = 62) ∨ (c = 60 ∧ d = 61) ∨ (c = 62 ∧ d = 61)) : zGn s q = some (zBO [c,d],q + 2):=by
 have h3 : c ≠ 32 ∧ c ≠ 34 ∧ c ≠ 35 ∧ zu c = false ∧ zBO [c,d] ≠ 0:=by rcases hcd with ⟨rfl,rfl⟩ | ⟨rfl,rfl⟩ | ⟨rfl,rfl⟩ <;> decide
 rw [opAt_is h1 h3.1 h3.2.1 h3.2.2.1 h3.2.2.2.1,h2]
 have e : zID c (some d) = [c,d]:=zLx hcd
 rw [e,zLv h3.2.2.2.2]; rfl
theorem zJ6 {s : Bs} {q : Nat} {c : UInt8} (h1 : s[q]? = some c) (hc : c = 60 ∨ c = 62 ∨ c = 61 ∨ c = 38 ∨ c = 43 ∨ c = 45 ∨ c = 42 ∨ c = 47) (hn : ∀ d,s[q + 1]? = some d → ¬ ((c = 60 ∧ d = 62) ∨ (c = 60 ∧ d = 61) ∨ (c = 62 ∧ d = 61))) : zGn s q = some (zBO [c],q + 1):=by
 have h3 : c ≠ 32 ∧ c ≠ 34 ∧ c ≠ 35 ∧ zu c = false ∧ zBO [c] ≠ 0:=by rcases hc with rfl | rfl | rfl | rfl | rfl | rfl | rfl | rfl <;> decide
 rw [opAt_is h1 h3.1 h3.2.1 h3.2.2.1 h3.2.2.2.1]
 have e : zID c s[q + 1]? = [c]:=by
  unfold zID
  cases hd : s[q + 1]? with
  | none=>rfl
  | some d=>simp only; rw [zLv (hn d hd)]
 rw [e,zLv h3.2.2.2.2]; rfl
theorem op_match {s : Bs} {q l i : Nat} {t : Bs} (ht : (sgn l)[i]? = some t) (hp : t.isPrefixOf (s.drop q) = true) (hno : ∀ j u,j < i → (sgn l)[j]? = some u → u.isPrefixOf (s.drop q) = false) :
  zGn s q = some (zBO t,q + t.length) ∧ tight (zBO t) = l + 1 ∧ zBO t ≠ 0:=by
 rcases l with _ | _ | _ | _ | l
 ·rcases i with _ | _ | _ | _ | _ | _ | i
  ·cases ht; have:=zGF.1 hp; exact ⟨op_two this.1 this.2 (by decide),by decide,by decide⟩
  ·cases ht; have:=zGF.1 hp; exact ⟨op_two this.1 this.2 (by decide),by decide,by decide⟩
  ·cases ht; have:=zGF.1 hp; exact ⟨op_two this.1 this.2 (by decide),by decide,by decide⟩
  ·cases ht; have:=zDf.1 hp; exact ⟨zJ6 this (by decide) (fun d _=>by rintro (⟨h,_⟩ | ⟨h,_⟩ | ⟨h,_⟩) <;> revert h <;> decide),by decide,by decide⟩
  ·cases ht
   have h1:=zDf.1 hp
   refine ⟨zJ6 h1 (by decide) (fun d hd=>?_),by decide,by decide⟩
   rintro (⟨_,rfl⟩ | ⟨_,rfl⟩ | ⟨h,_⟩)
   ·have:=hno 0 _ tO rfl; rw [zGF.2 ⟨h1,hd⟩] at this; cases this
   ·have:=hno 1 _ tO rfl; rw [zGF.2 ⟨h1,hd⟩] at this; cases this
   ·revert h; decide
  ·cases ht
   have h1:=zDf.1 hp
   refine ⟨zJ6 h1 (by decide) (fun d hd=>?_),by decide,by decide⟩
   rintro (⟨h,_⟩ | ⟨h,_⟩ | ⟨_,rfl⟩)
   ·revert h; decide
   ·revert h; decide
   ·have:=hno 2 _ tO rfl; rw [zGF.2 ⟨h1,hd⟩] at this; cases this
  ·simp [sgn] at ht
 ·rcases i with _ | i
  ·cases ht; have:=zDf.1 hp; exact ⟨zJ6 this (by decide) (fun d _=>by rintro (⟨h,_⟩ | ⟨h,_⟩ | ⟨h,_⟩) <;> revert h <;> decide),by decide,by decide⟩
  ·simp [sgn] at ht
 ·rcases i with _ | _ | i
  ·cases ht; have:=zDf.1 hp; exact ⟨zJ6 this (by decide) (fun d _=>by rintro (⟨h,_⟩ | ⟨h,_⟩ | ⟨h,_⟩) <;> revert h <;> decide),by decide,by decide⟩
  ·cases ht; have:=zDf.1 hp; exact ⟨zJ6 this (by decide) (fun d _=>by rintro (⟨h,_⟩ | ⟨h,_⟩ | ⟨h,_⟩) <;> revert h <;> decide),by decide,by decide⟩
  ·simp [sgn] at ht
 ·rcases i with _ | _ | i
  ·cases ht; have:=zDf.1 hp; exact ⟨zJ6 this (by decide) (fun d _=>by rintro (⟨h,_⟩ | ⟨h,_⟩ | ⟨h,_⟩) <;> revert h <;> decide),by decide,by decide⟩
  ·cases ht; have:=zDf.1 hp; exact ⟨zJ6 this (by decide) (fun d _=>by rintro (⟨h,_⟩ | ⟨h,_⟩ | ⟨h,_⟩) <;> revert h <;> decide),by decide,by decide⟩
  ·simp [sgn] at ht
 ·simp [sgn] at ht
theorem opNo_mem {t : Bs} {l : Nat} (hne : ¬ zBO t = 0) (ht : tight (zBO t) = l + 1) : t ∈ sgn l:=by
 by_cases h0 : t = [61]
 ·subst h0
  have e : tight (zBO [61]) = 1:=by decide
  have e2 : l = 0:=by omega
  subst e2; decide
 by_cases h1 : t = [60,62]
 ·subst h1
  have e : tight (zBO [60,62]) = 1:=by decide
  have e2 : l = 0:=by omega
  subst e2; decide
 by_cases h2 : t = [60]
 ·subst h2
  have e : tight (zBO [60]) = 1:=by decide
  have e2 : l = 0:=by omega
  subst e2; decide
 by_cases h3 : t = [60,61]
 ·subst h3
  have e : tight (zBO [60,61]) = 1:=by decide
  have e2 : l = 0:=by omega
  subst e2; decide
 by_cases h4 : t = [62]
 ·subst h4
  have e : tight (zBO [62]) = 1:=by decide
  have e2 : l = 0:=by omega
  subst e2; decide
 by_cases h5 : t = [62,61]
 ·subst h5
  have e : tight (zBO [62,61]) = 1:=by decide
  have e2 : l = 0:=by omega
  subst e2; decide
 by_cases h6 : t = [38]
 ·subst h6
  have e : tight (zBO [38]) = 2:=by decide
  have e2 : l = 1:=by omega
  subst e2; decide
 by_cases h7 : t = [43]
 ·subst h7
  have e : tight (zBO [43]) = 3:=by decide
  have e2 : l = 2:=by omega
  subst e2; decide
 by_cases h8 : t = [45]
 ·subst h8
  have e : tight (zBO [45]) = 3:=by decide
  have e2 : l = 2:=by omega
  subst e2; decide
 by_cases h9 : t = [42]
 ·subst h9
  have e : tight (zBO [42]) = 4:=by decide
  have e2 : l = 3:=by omega
  subst e2; decide
 by_cases h10 : t = [47]
 ·subst h10
  have e : tight (zBO [47]) = 4:=by decide
  have e2 : l = 3:=by omega
  subst e2; decide
 ·exact absurd (by unfold zBO; simp only [h0,h1,h2,h3,h4,h5,h6,h7,h8,h9,h10,zMP]) hne
theorem op_none {s : Bs} {q l : Nat} (hs : s[q]? ≠ some 32) (hno : ∀ t,t ∈ sgn l → t.isPrefixOf (s.drop q) = false) {op e : Nat} (h : zGn s q = some (op,e)) : tight op ≠ l + 1:=by
 obtain ⟨c,hc,h34,h35,hw⟩:=opAt_some hs h
 rw [opAt_is hc (fun x=>hs (by rw [hc,x])) h34 h35 hw] at h
 split at h
 ·cases h
 ·rename_i hne
  cases h
  intro ht
  have hpre : (zID c s[q + 1]?).isPrefixOf (s.drop q) = true:=by
   unfold zID
   cases hd : s[q + 1]? with
   | none=>exact zDf.2 hc
   | some d=>
    simp only
    split
    ·exact zGF.2 ⟨hc,hd⟩
    ·exact zDf.2 hc
  generalize zID c s[q + 1]? = t at *
  have hmem : t ∈ sgn l:=opNo_mem hne ht
  rw [hno t hmem] at hpre
  cases hpre
theorem boxAt_skip (s : Bs) (a : Nat) : zDV s (skip s a) = zDV s a:=by unfold zDV; rw [zI8]
theorem args_skip {s : Bs} {a : Nat} (nm : Bs) (ks : List Nd) (d : Nat) (ha : a ≤ s.length) : (P s).args nm ks (skip s a) d = (P s).args nm ks a d:=by
 rw [zLj nm ks d (zBi ha),zLj nm ks d ha]
 unfold zEP zD5
 rw [boxAt_skip,loose_skip 1 d ha]
theorem args_step {s : Bs} {a : Nat} (nm : Bs) (ks : List Nd) (d : Nat) (ha : a ≤ s.length) : (P s).args nm ks a d = (argS s a d).bind fun p=>if s[skip s p.2]? = some 44 then (P s).args nm (ks ++ [p.1]) (skip s p.2 + 1) d else if s[skip s p.2]? = some 41 then some (zC2 nm (ks ++ [p.1]),skip s p.2 + 1) else none:=by
 rw [zLj nm ks d ha]
 have key : ∀ p : Nd × Nat,(match tok s p.2 with
   | .sign e [44]=>(P s).args nm (ks ++ [p.1]) e d
   | .sign e [41]=>some (zC2 nm (ks ++ [p.1]),e)
   | _=>none) = if s[skip s p.2]? = some 44 then (P s).args nm (ks ++ [p.1]) (skip s p.2 + 1) d else if s[skip s p.2]? = some 41 then some (zC2 nm (ks ++ [p.1]),skip s p.2 + 1) else none:=fun p=>by
  by_cases h44 : s[skip s p.2]? = some 44
  ·rw [zFi h44 (by decide),zLx h44]; rfl
  ·rw [zLv h44]
   by_cases h41 : s[skip s p.2]? = some 41
   ·rw [zFi h41 (by decide),zLx h41]; rfl
   ·rw [zLv h41]
    split
    ·rename_i e hk; exact absurd (zGE hk).1 h44
    ·rename_i e hk; exact absurd (zGE hk).1 h41
    ·rfl
 unfold zEP zD5 argS
 cases zDV s a with
 | some r=>
  simp only
  refine zC3 rfl fun p _=>?_
  exact key p
 | none=>
  simp only
  unfold bl
  cases (P s).loose 1 a d with
  | none=>rfl
  | some p=>
   simp only [zMB,zMt]
   rw [zEO]
   exact key p
theorem argS_ends {s : Bs} {a d : Nat} (ha : a ≤ s.length) {p : Nd × Nat} (h : argS s a d = some p) : a < p.2 ∧ p.2 ≤ s.length:=by
 unfold argS at h
 split at h
 ·rename_i r hb
  subst h
  exact boxAt_ends hb
 ·unfold bl at h
  rw [zL2] at h
  obtain ⟨q,h1,rfl⟩:=h
  have:=(zBz s).loose 1 a d q ha h1
  have h2:=zDw s q.2
  have h3:=zBi this.2
  exact ⟨by simp only; omega,h3⟩
theorem callS_is {s t : Bs} {e d : Nat} (he : e + 1 ≤ s.length) : zGg s t e d = if s[skip s (e + 1)]? = some 41 then some (zC2 t [],skip s (e + 1) + 1) else (P s).args t [] (skip s (e + 1)) d:=by
 rw [args_skip t [] d he]
 unfold zGg
 by_cases h41 : s[skip s (e + 1)]? = some 41
 ·rw [zFi h41 (by decide),zLx h41]; rfl
 ·rw [zLv h41]
  split
  ·rename_i e2 hk; exact absurd (zGE hk).1 h41
  ·rfl
end Go.AM
set_option maxRecDepth 20000
namespace Go.AM
def zAI (name : Bs) (v : AV) : List AV:=[.int .i64 9,.int .i64 0,.str name,.int .i64 0,.int .i64 0,.bool false,.bool false,.int .i64 0,.int .i64 0,.bool false,.bool false,v]
theorem zJB (name : Bs) (ks : List Nd) : ndV (zC2 name ks) = .agg (zAI name (lstF 12 (ks.map ndV))):=by
 cases ks with
 | nil=>rfl
 | cons k r=>
  show AV.agg (zAI name (.lst (some false) 12 (kidL (k :: r)))) = _
  rw [kidL_map]; rfl
theorem zJC {H0 H : Heap} {v : AV} {xs : List AV} {b : Nat} {B : ABlk} (name : Bs) (ho : Owns H0 H v 12 xs) {H1 : Heap} (hl : H1.length = H0.length) (hB : OldB H1 b B H) : ∃ H',zDq H1.length (.agg (zAI name v)) H = some (.agg (zAI name (lstF 12 xs)),H') ∧ OldB H1 b B H':=by
 rcases ho with ⟨rfl,rfl⟩ | ⟨nb,rfl,h1,h2,h3⟩
 ·exact ⟨H,rfl,hB⟩
 ·have hn : ¬ nb < H1.length:=by omega
  refine ⟨H.set nb (.frz 12 xs), ?_,hB.set tO _⟩
  simp only [zAI,zDq,zJH,hn,zMP,h2]
  cases xs with
  | nil=>exact absurd rfl h3
  | cons x r=>simp [frzQ,lstF]
theorem zFj {name : Bs} {v : AV} (h : v.one = true) : (AV.agg (zAI name v)).cells.all AV.one = true:=by
 simp only [zAI,AV.cells,zNK,List.all_nil,h,zNT]; rfl
theorem zHD (n : Nat) (name : Bs) (xs : List AV) : (AV.agg (zAI name (lstF 12 xs))).bel n = true:=by cases xs <;> rfl
theorem Owns.setBox {H0 H : Heap} {v : AV} {k c : Nat} {xs cs : List AV} (h : Owns H0 H v k xs) (hc : H[c]? = some (.box cs)) (y : ABlk) : Owns H0 (H.set c y) v k xs:=h.set (h.notBox hc) y
theorem zCg {b k o : Nat} {v : AV} {cs : List AV} (cs' : List AV) {H : Heap} {K : AV → Heap → Prop} (h : H[b]? = some (.box cs)) (hv : v.cells = [v] ∧ v.one = true) (ho : Nat.ble (o + 1) cs.length = true) (he : splice cs o [v] = cs')
  (q : K .undef (H.set b (.box cs'))) : actP (.store 1) [.ref b k 0 o,v] H K:=
 zH cs' h (by rw [hv.1]; rfl) (by rw [hv.1]; simp [hv.2]) ho (by rw [hv.1]; exact he) q
structure CSt where
 a : Nat
 v : AV
 ks : List Nd
section
variable {C : CSpec} {GT : Nat → Option AV}
theorem call_ev (hB : ∀ b s p d H,H[b]? = some (rdB s p d) → p ≤ s.length → s.length ≤ 200 → C za [pR b] H (.tup []) (H.set b (rdB s (skip s p) d)))
  (hWt : ∀ c b s p d H,H[b]? = some (rdB s p d) → p ≤ s.length → s.length ≤ 200 → (s[skip s p]? = some c → C zp [pR b,byV c] H (.tup []) (H.set b (rdB s (skip s p + 1) d))) ∧ (s[skip s p]? ≠ some c → C zp (.pan .undef :: [pR b,byV c]) H zEs (H.set b (.box (wkC s)))))
  (t : Bs) (b : Nat) (s : Bs) (p d : Nat) (H : Heap) (hb : H[b]? = some (rdB s p d)) (hp : p < s.length) (hl : s.length ≤ 200)
  (hA : ∀ a H',p < a → a ≤ s.length → H'[b]? = some (rdB s a d) → CR C zAm [pR b] H' b s d (argS s a d)) :
  zB3 C GT zBL [pR b,.str t] H b (wkC s) zEs (mkR s d (zGg s t p d)):=by
 have hbl : b < H.length:=(zg hb).1
 have hbk:=fun a H' h1 h2=>hB b s a d H' h1 h2 hl
 have hwt:=fun a H' h1 h2=>hWt 41 b s a d H' h1 h2 hl
 have hl5 : (H ++ [ABlk.box (ndC zW)]).length = H.length + 1:=by simp
 clear hB hWt
 rw [callS_is tO]
 have hpq:=zDw s (p + 1)
 have hql:=zBi (s:=s) (a:=p + 1) tO
 have hbk0:=hbk (p + 1)
 generalize skip s (p + 1) = q at *
 refine zz ?_
 by_cases h41 : s[q]? = some 41
 ·have hlt : q < s.length:=(zg h41).1
  rw [zLx h41]
  have e0 : mkR s d (some (zC2 t [],q + 1)) = some (ndV (zC2 t []),rdB s (q + 1) d):=rfl
  rw [e0]
  clear hA hbk hwt
  refine sW ?_; refine sS (AV.agg [.int .i64 9,.int .i64 0,AV.str t,.int .i64 0,.int .i64 0,AV.bool false,AV.bool false,.int .i64 0,.int .i64 0,AV.bool false,AV.bool false,AV.lst (some true) 0 []]) (AV.cells (AV.agg [.int .i64 9,.int .i64 0,AV.str t,.int .i64 0,.int .i64 0,AV.bool false,AV.bool false,.int .i64 0,.int .i64 0,AV.bool false,AV.bool false,AV.lst (some true) 0 []])) ?_
  refine sW ?_; refine zN (r:=p + 1) rfl tO <| sS (.int .i64 ↑(p + 1)) [AV.str s,.int .i64 ↑(p + 1),zK d] ?_; refine sW ?_; refine zN (r:=q + 1) rfl tO <| sS (.int .i64 ↑(q + 1)) [AV.str s,.int .i64 ↑(q + 1),zK d] ?_; refine sW ?_; refine sS (AV.agg [.int .i64 9,.int .i64 0,AV.str t,.int .i64 0,.int .i64 0,AV.bool false,AV.bool false,.int .i64 0,.int .i64 0,AV.bool false,AV.bool false,AV.lst (some true) 0 []]) (AV.cells (AV.agg [.int .i64 9,.int .i64 0,AV.str t,.int .i64 0,.int .i64 0,AV.bool false,AV.bool false,.int .i64 0,.int .i64 0,AV.bool false,AV.bool false,AV.lst (some true) 0 []])) ?_
  exact zx (o:=0) (AV.agg [.int .i64 9,.int .i64 0,AV.str t,.int .i64 0,.int .i64 0,AV.bool false,AV.bool false,.int .i64 0,.int .i64 0,AV.bool false,AV.bool false,AV.lst (some true) 0 []]) (by first | rfl | assumption) rfl rfl (zJ (zE (zA tA (zA tA (zA tA (zA tA (zC zB))))))) rfl rfl rfl hO rfl
 rw [zLv h41]
 obtain ⟨r,hr⟩ : ∃ r,(P s).args t [] q d = r:=⟨_,rfl⟩
 rw [hr]
 have hloop : ∀ HH,OldB H b (rdB s q d) HH → HH[b]? = some (rdB s q d) → HH[H.length]? = some (.box (ndC zW)) → HH[(H ++ [ABlk.box (ndC zW)]).length]? = some (.box (zAI t (.lst (some true) 0 []))) →
   loopP C GT [0,4,5] zC8 (zJz 0 [4] (zHe zBL H b (wkC s) zEs (mkR s d r))) [(0,pR b),(4,pR H.length),(5,pR (H ++ [ABlk.box (ndC zW)]).length)] HH:=fun HH g1 g2 g3 g4=>by
  refine zBm (fun x : CSt=>[(0,pR b),(4,pR H.length),(5,pR (H ++ [ABlk.box (ndC zW)]).length)])
   (fun x H'=>Owns H H' x.v 12 (x.ks.map ndV) ∧ OldB H b (rdB s x.a d) H' ∧ H'[b]? = some (rdB s x.a d) ∧ H'[H.length]? = some (.box (ndC zW)) ∧ H'[(H ++ [ABlk.box (ndC zW)]).length]? = some (.box (zAI t x.v)) ∧ p < x.a ∧ x.a ≤ s.length ∧ x.ks.length ≤ x.a ∧ (P s).args t x.ks x.a d = r)
   (fun x=>s.length - x.a) ⟨q,.lst (some true) 0 [],[]⟩ rfl
   ⟨.inl ⟨rfl,rfl⟩,g1,g2,g3,g4,by simp only; omega,hql,by simp,hr⟩ (fun ⟨a,v,ks⟩ H1 ⟨how,hob,hb1,h4,h5,hpa,hal,hkl,hq⟩=>?_)
  dsimp only at how hob hb1 h4 h5 hpa hal hkl hq ⊢
  have hlen1:=hob.old.1
  rw [zL3] at hlen1
  have h5l:=(zg h5).1
  have har:=hA a H1 hpa hal hb1
  rw [args_step t ks d hal] at hq
  clear hA hbk0 hr
  cases hra : argS s a d with
  | none=>
   rw [hra] at har hq
   have hq : none = r:=hq
   subst hq
   have e0 : mkR s d none = none:=rfl
   rw [e0]
   have har:=har.2 rfl
   clear hbk hwt
   refine zGk ?_ ?_
   ·refine sW ?_; refine zAV har ?_
    exact sP
   ·refine zAV har ?_
    exact sP
  | some x=>
   obtain ⟨n,e⟩:=x
   have hee:=argS_ends hal hra
   simp only at hee
   rw [hra] at har hq
   simp only [zMt] at hq
   have har:=har.1 n e rfl
   have hbk1:=hbk e
   have hqe:=zDw s e
   have hqle:=zBi hee.2
   have hwt1:=hwt (skip s e)
   rw [zEO] at hwt1
   clear hbk hwt
   generalize skip s e = q1 at *
   have hel : (ndV n).elem 12 = true:=rfl
   have how2:=how.set (how.notBox hb1) (rdB s e d)
   have hob2:=hob.setB (rdB s e d)
   have hlH : (H.set b (rdB s e d)).length = H.length:=zL3
   refine zGk ?_ ?_
   ·refine sW ?_; refine zBj har <| zAs (vs':=[ndV n]) rfl rfl <| zCA (H0:=H.set b (rdB s e d)) ((how2.base hlH).push _) (hob2.old.push _) zAz tO (by simp only [zL6,zLw,zL4]; omega) (by simp) fun v' H' ho' hH' hb' hf=>?_
    have hx1:=hf b _ (how2.notBox (zE hb1)) (zC (zE hb1))
    have hx4:=hf H.length _ (how2.notBox (zA tO h4)) (zC (zA tO h4))
    have hx5:=hf (H ++ [ABlk.box (ndC zW)]).length _ (how2.notBox (zA tO h5)) (zC (zA tO h5))
    have hlH':=hH'.1
    rw [zL3] at hlH'
    have hob3 : OldB H b (rdB s e d) H':=⟨hbl,hH'⟩
    have hx5l:=(zg hx5).1
    by_cases h44 : s[q1]? = some 44
    ·have hlt : q1 < s.length:=(zg h44).1
     rw [zLx h44] at hq
     clear hwt1
     refine zCg (zAI t v') hx5 ho'.one rfl rfl <| zAc (hbk1 _ hP tO) (fun h=>by cases h) <| zD (zK q1) (zE (zA tA hx1)) rfl <| zD (AV.str s) (zE (zA tA hx1)) rfl <| zb tT <| zD (AV.str s) (zE (zA tA hx1)) rfl ?_; refine zD (zK q1) (zE (zA tA hx1)) rfl <| zr rfl h44 <| zG <| zb (tE (by rfl)) <| zD (zK q1) (zE (zA tA hx1)) rfl <| zN (r:=q1 + 1) rfl tO ?_; refine zH (v:=.int .i64 ↑(q1 + 1)) [AV.str s,.int .i64 ↑(q1 + 1),zK d] (zE (zA tA hx1)) rfl rfl rfl rfl ?_
     refine zAU (CSt.mk (q1 + 1) v' (ks ++ [n])) rfl ⟨?_,(((hob3.set tO _).setB _).setB _),hP,hP,hP,by simp only; omega,by simp only; omega,by simp only [zL1,zLw,zL4]; omega,hq⟩ (by simp only; omega)
     rw [zMW]
     exact (((ho'.setBox hx5 _).setBox hP _).setBox hP _).base hlH.symm
    rw [zLv h44] at hq
    by_cases h41' : s[q1]? = some 41
    ·have hlt : q1 < s.length:=(zg h41').1
     rw [zLx h41'] at hq
     subst hq
     have e0 : mkR s d (some (zC2 t (ks ++ [n]),q1 + 1)) = some (.agg (zAI t (lstF 12 ((ks ++ [n]).map ndV))),rdB s (q1 + 1) d):=by rw [← zJB]; rfl
     rw [e0]
     refine zCg (zAI t v') hx5 ho'.one rfl rfl <| zAc (hbk1 _ hP tO) (fun h=>by cases h) <| zD (zK q1) (zE (zA tA hx1)) rfl <| zD (AV.str s) (zE (zA tA hx1)) rfl <| zb tT <| zD (AV.str s) (zE (zA tA hx1)) rfl ?_; refine zD (zK q1) (zE (zA tA hx1)) rfl <| zr rfl h41' <| zG <| zY (tN (by decide)) <| zBj ((hwt1 _ hP tO).1 h41') <| zD (AV.agg [.int .i64 9,.int .i64 0,AV.str t,.int .i64 0,.int .i64 0,AV.bool false,AV.bool false,.int .i64 0,.int .i64 0,AV.bool false,AV.bool false,v']) (zA tA (zA tA (zE hx5))) rfl ?_
     refine zH (v:=.agg (zAI t v')) (zAI t v') hP rfl (zFj ho'.one.2) rfl rfl ?_
     have hown : Owns H (((H'.set (H ++ [ABlk.box (ndC zW)]).length (.box (zAI t v'))).set b (rdB s q1 d)).set b (rdB s (q1 + 1) d) |>.set H.length (.box (zAI t v'))) v' 12 ((ks ++ [n]).map ndV):=by
      rw [zMW]
      exact ((((ho'.setBox hx5 _).setBox hP _).setBox hP _).setBox hP _).base hlH.symm
     obtain ⟨H2,hz,hob4⟩:=zJC t hown rfl ((((hob3.set tO _).setB _).setB _).set (zL0 _) _)
     exact zx (o:=0) (.agg (zAI t v')) rfl rfl rfl (zJ hP) rfl hz (zHD _ _ _) hob4 rfl
    ·rw [zLv h41'] at hq
     subst hq
     have e0 : mkR s d none = none:=rfl
     rw [e0]
     by_cases hlt : q1 < s.length
     ·obtain ⟨c,hc⟩ : ∃ c,s[q1]? = some c:=⟨_,zLy hlt⟩
      have hn : c.toNat ≠ 44:=fun x=>h44 (by rw [hc,show c = 44 from zME.1 x])
      refine zCg (zAI t v') hx5 ho'.one rfl rfl <| zAc (hbk1 _ hP tO) (fun h=>by cases h) <| zD (zK q1) (zE (zA tA hx1)) rfl <| zD (AV.str s) (zE (zA tA hx1)) rfl <| zb tT <| zD (AV.str s) (zE (zA tA hx1)) rfl ?_; refine zD (zK q1) (zE (zA tA hx1)) rfl <| zr rfl hc <| zG <| zY tN <| zAV ((hwt1 _ hP tO).2 h41') ?_
      exact sP
     ·refine zCg (zAI t v') hx5 ho'.one rfl rfl <| zAc (hbk1 _ hP tO) (fun h=>by cases h) ?_; refine sW ?_; refine zAV ((hwt1 _ hP tO).2 h41') ?_
      exact sP
   ·refine zBj har ?_; refine zGk ?_ ?_
    ·refine sW ?_; refine zAs (vs':=[ndV n]) rfl rfl <| zCA (H0:=H.set b (rdB s e d)) ((how2.base hlH).push _) (hob2.old.push _) zAz tO (by simp only [zL6,zLw,zL4]; omega) (by simp) fun v' H' ho' hH' hb' hf=>?_
     have hx1:=hf b _ (how2.notBox (zE hb1)) (zC (zE hb1))
     have hx4:=hf H.length _ (how2.notBox (zA tO h4)) (zC (zA tO h4))
     have hx5:=hf (H ++ [ABlk.box (ndC zW)]).length _ (how2.notBox (zA tO h5)) (zC (zA tO h5))
     have hlH':=hH'.1
     rw [zL3] at hlH'
     have hob3 : OldB H b (rdB s e d) H':=⟨hbl,hH'⟩
     have hx5l:=(zg hx5).1
     by_cases h44 : s[q1]? = some 44
     ·have hlt : q1 < s.length:=(zg h44).1
      rw [zLx h44] at hq
      clear hwt1
      refine zCg (zAI t v') hx5 ho'.one rfl rfl <| zAc (hbk1 _ hP tO) (fun h=>by cases h) <| zD (zK q1) (zE (zA tA hx1)) rfl <| zD (AV.str s) (zE (zA tA hx1)) rfl <| zb tT <| zD (AV.str s) (zE (zA tA hx1)) rfl ?_; refine zD (zK q1) (zE (zA tA hx1)) rfl <| zr rfl h44 <| zG <| zb (tE (by rfl)) <| zD (zK q1) (zE (zA tA hx1)) rfl <| zN (r:=q1 + 1) rfl tO ?_; refine zH (v:=.int .i64 ↑(q1 + 1)) [AV.str s,.int .i64 ↑(q1 + 1),zK d] (zE (zA tA hx1)) rfl rfl rfl rfl ?_
      refine zAU (CSt.mk (q1 + 1) v' (ks ++ [n])) rfl ⟨?_,(((hob3.set tO _).setB _).setB _),hP,hP,hP,by simp only; omega,by simp only; omega,by simp only [zL1,zLw,zL4]; omega,hq⟩ (by simp only; omega)
      rw [zMW]
      exact (((ho'.setBox hx5 _).setBox hP _).setBox hP _).base hlH.symm
     rw [zLv h44] at hq
     by_cases h41' : s[q1]? = some 41
     ·have hlt : q1 < s.length:=(zg h41').1
      rw [zLx h41'] at hq
      subst hq
      have e0 : mkR s d (some (zC2 t (ks ++ [n]),q1 + 1)) = some (.agg (zAI t (lstF 12 ((ks ++ [n]).map ndV))),rdB s (q1 + 1) d):=by rw [← zJB]; rfl
      rw [e0]
      refine zCg (zAI t v') hx5 ho'.one rfl rfl <| zAc (hbk1 _ hP tO) (fun h=>by cases h) <| zD (zK q1) (zE (zA tA hx1)) rfl <| zD (AV.str s) (zE (zA tA hx1)) rfl <| zb tT <| zD (AV.str s) (zE (zA tA hx1)) rfl ?_; refine zD (zK q1) (zE (zA tA hx1)) rfl <| zr rfl h41' <| zG <| zY (tN (by decide)) <| zBj ((hwt1 _ hP tO).1 h41') <| zD (AV.agg [.int .i64 9,.int .i64 0,AV.str t,.int .i64 0,.int .i64 0,AV.bool false,AV.bool false,.int .i64 0,.int .i64 0,AV.bool false,AV.bool false,v']) (zA tA (zA tA (zE hx5))) rfl ?_
      refine zH (v:=.agg (zAI t v')) (zAI t v') hP rfl (zFj ho'.one.2) rfl rfl ?_
      have hown : Owns H (((H'.set (H ++ [ABlk.box (ndC zW)]).length (.box (zAI t v'))).set b (rdB s q1 d)).set b (rdB s (q1 + 1) d) |>.set H.length (.box (zAI t v'))) v' 12 ((ks ++ [n]).map ndV):=by
       rw [zMW]
       exact ((((ho'.setBox hx5 _).setBox hP _).setBox hP _).setBox hP _).base hlH.symm
      obtain ⟨H2,hz,hob4⟩:=zJC t hown rfl ((((hob3.set tO _).setB _).setB _).set (zL0 _) _)
      exact zx (o:=0) (.agg (zAI t v')) rfl rfl rfl (zJ hP) rfl hz (zHD _ _ _) hob4 rfl
     ·rw [zLv h41'] at hq
      subst hq
      have e0 : mkR s d none = none:=rfl
      rw [e0]
      by_cases hlt : q1 < s.length
      ·obtain ⟨c,hc⟩ : ∃ c,s[q1]? = some c:=⟨_,zLy hlt⟩
       have hn : c.toNat ≠ 44:=fun x=>h44 (by rw [hc,show c = 44 from zME.1 x])
       refine zCg (zAI t v') hx5 ho'.one rfl rfl <| zAc (hbk1 _ hP tO) (fun h=>by cases h) <| zD (zK q1) (zE (zA tA hx1)) rfl <| zD (AV.str s) (zE (zA tA hx1)) rfl <| zb tT <| zD (AV.str s) (zE (zA tA hx1)) rfl ?_; refine zD (zK q1) (zE (zA tA hx1)) rfl <| zr rfl hc <| zG <| zY tN <| zAV ((hwt1 _ hP tO).2 h41') ?_
       exact sP
      ·refine zCg (zAI t v') hx5 ho'.one rfl rfl <| zAc (hbk1 _ hP tO) (fun h=>by cases h) ?_; refine sW ?_; refine zAV ((hwt1 _ hP tO).2 h41') ?_
       exact sP
    ·refine zAs (vs':=[ndV n]) rfl rfl <| sW ?_; refine zCA (H0:=H.set b (rdB s e d)) ((how2.base hlH).push _) (hob2.old.push _) zAz tO (by simp only [zL6,zLw,zL4]; omega) (by simp) fun v' H' ho' hH' hb' hf=>?_
     have hx1:=hf b _ (how2.notBox (zE hb1)) (zC (zE hb1))
     have hx4:=hf H.length _ (how2.notBox (zA tO h4)) (zC (zA tO h4))
     have hx5:=hf (H ++ [ABlk.box (ndC zW)]).length _ (how2.notBox (zA tO h5)) (zC (zA tO h5))
     have hlH':=hH'.1
     rw [zL3] at hlH'
     have hob3 : OldB H b (rdB s e d) H':=⟨hbl,hH'⟩
     have hx5l:=(zg hx5).1
     by_cases h44 : s[q1]? = some 44
     ·have hlt : q1 < s.length:=(zg h44).1
      rw [zLx h44] at hq
      clear hwt1
      refine zCg (zAI t v') hx5 ho'.one rfl rfl <| zAc (hbk1 _ hP tO) (fun h=>by cases h) <| zD (zK q1) (zE (zA tA hx1)) rfl <| zD (AV.str s) (zE (zA tA hx1)) rfl <| zb tT <| zD (AV.str s) (zE (zA tA hx1)) rfl ?_; refine zD (zK q1) (zE (zA tA hx1)) rfl <| zr rfl h44 <| zG <| zb (tE (by rfl)) <| zD (zK q1) (zE (zA tA hx1)) rfl <| zN (r:=q1 + 1) rfl tO ?_; refine zH (v:=.int .i64 ↑(q1 + 1)) [AV.str s,.int .i64 ↑(q1 + 1),zK d] (zE (zA tA hx1)) rfl rfl rfl rfl ?_
      refine zAU (CSt.mk (q1 + 1) v' (ks ++ [n])) rfl ⟨?_,(((hob3.set tO _).setB _).setB _),hP,hP,hP,by simp only; omega,by simp only; omega,by simp only [zL1,zLw,zL4]; omega,hq⟩ (by simp only; omega)
      rw [zMW]
      exact (((ho'.setBox hx5 _).setBox hP _).setBox hP _).base hlH.symm
     rw [zLv h44] at hq
     by_cases h41' : s[q1]? = some 41
     ·have hlt : q1 < s.length:=(zg h41').1
      rw [zLx h41'] at hq
      subst hq
      have e0 : mkR s d (some (zC2 t (ks ++ [n]),q1 + 1)) = some (.agg (zAI t (lstF 12 ((ks ++ [n]).map ndV))),rdB s (q1 + 1) d):=by rw [← zJB]; rfl
      rw [e0]
      refine zCg (zAI t v') hx5 ho'.one rfl rfl <| zAc (hbk1 _ hP tO) (fun h=>by cases h) <| zD (zK q1) (zE (zA tA hx1)) rfl <| zD (AV.str s) (zE (zA tA hx1)) rfl <| zb tT <| zD (AV.str s) (zE (zA tA hx1)) rfl ?_; refine zD (zK q1) (zE (zA tA hx1)) rfl <| zr rfl h41' <| zG <| zY (tN (by decide)) <| zBj ((hwt1 _ hP tO).1 h41') <| zD (AV.agg [.int .i64 9,.int .i64 0,AV.str t,.int .i64 0,.int .i64 0,AV.bool false,AV.bool false,.int .i64 0,.int .i64 0,AV.bool false,AV.bool false,v']) (zA tA (zA tA (zE hx5))) rfl ?_
      refine zH (v:=.agg (zAI t v')) (zAI t v') hP rfl (zFj ho'.one.2) rfl rfl ?_
      have hown : Owns H (((H'.set (H ++ [ABlk.box (ndC zW)]).length (.box (zAI t v'))).set b (rdB s q1 d)).set b (rdB s (q1 + 1) d) |>.set H.length (.box (zAI t v'))) v' 12 ((ks ++ [n]).map ndV):=by
       rw [zMW]
       exact ((((ho'.setBox hx5 _).setBox hP _).setBox hP _).setBox hP _).base hlH.symm
      obtain ⟨H2,hz,hob4⟩:=zJC t hown rfl ((((hob3.set tO _).setB _).setB _).set (zL0 _) _)
      exact zx (o:=0) (.agg (zAI t v')) rfl rfl rfl (zJ hP) rfl hz (zHD _ _ _) hob4 rfl
     ·rw [zLv h41'] at hq
      subst hq
      have e0 : mkR s d none = none:=rfl
      rw [e0]
      by_cases hlt : q1 < s.length
      ·obtain ⟨c,hc⟩ : ∃ c,s[q1]? = some c:=⟨_,zLy hlt⟩
       have hn : c.toNat ≠ 44:=fun x=>h44 (by rw [hc,show c = 44 from zME.1 x])
       refine zCg (zAI t v') hx5 ho'.one rfl rfl <| zAc (hbk1 _ hP tO) (fun h=>by cases h) <| zD (zK q1) (zE (zA tA hx1)) rfl <| zD (AV.str s) (zE (zA tA hx1)) rfl <| zb tT <| zD (AV.str s) (zE (zA tA hx1)) rfl ?_; refine zD (zK q1) (zE (zA tA hx1)) rfl <| zr rfl hc <| zG <| zY tN <| zAV ((hwt1 _ hP tO).2 h41') ?_
       exact sP
      ·refine zCg (zAI t v') hx5 ho'.one rfl rfl <| zAc (hbk1 _ hP tO) (fun h=>by cases h) ?_; refine sW ?_; refine zAV ((hwt1 _ hP tO).2 h41') ?_
       exact sP
 clear hA hbk hwt
 by_cases hlt : q < s.length
 ·obtain ⟨c,hc⟩ : ∃ c,s[q]? = some c:=⟨_,zLy hlt⟩
  have hn : c.toNat ≠ 41:=fun x=>h41 (by rw [hc,show c = 41 from zME.1 x])
  refine sW ?_; refine sS (AV.agg [.int .i64 9,.int .i64 0,AV.str t,.int .i64 0,.int .i64 0,AV.bool false,AV.bool false,.int .i64 0,.int .i64 0,AV.bool false,AV.bool false,AV.lst (some true) 0 []]) (AV.cells (AV.agg [.int .i64 9,.int .i64 0,AV.str t,.int .i64 0,.int .i64 0,AV.bool false,AV.bool false,.int .i64 0,.int .i64 0,AV.bool false,AV.bool false,AV.lst (some true) 0 []])) ?_
  refine sW ?_; refine zN (r:=p + 1) rfl tO <| sS (.int .i64 ↑(p + 1)) [AV.str s,.int .i64 ↑(p + 1),zK d] ?_; refine sW ?_
  exact hloop _ ((((((OldB.start hb).push _).push _).set (by simp) _).setB _).setB _) hP hP hP
 ·refine sW ?_; refine sS (AV.agg [.int .i64 9,.int .i64 0,AV.str t,.int .i64 0,.int .i64 0,AV.bool false,AV.bool false,.int .i64 0,.int .i64 0,AV.bool false,AV.bool false,AV.lst (some true) 0 []]) (AV.cells (AV.agg [.int .i64 9,.int .i64 0,AV.str t,.int .i64 0,.int .i64 0,AV.bool false,AV.bool false,.int .i64 0,.int .i64 0,AV.bool false,AV.bool false,AV.lst (some true) 0 []])) ?_
  refine sW ?_; refine zN (r:=p + 1) rfl tO <| sS (.int .i64 ↑(p + 1)) [AV.str s,.int .i64 ↑(p + 1),zK d] ?_; refine sW ?_
  exact hloop _ ((((((OldB.start hb).push _).push _).set (by simp) _).setB _).setB _) hP hP hP
end
end Go.AM
