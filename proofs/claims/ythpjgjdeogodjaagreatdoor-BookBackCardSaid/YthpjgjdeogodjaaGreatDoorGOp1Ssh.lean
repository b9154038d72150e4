/- Several texts of mine in one (Op1, Op2, Gds, Opm, Ssh). Own work. -/
import Derived.Test.YthpjgjdeogodjaaGreatDoorGWt2Opl
import Derived.Test.YthpjgjdeogodjaaGreatDoorGInsDlg
import Derived.Test.YthpjgjdeogodjaaGreatDoorWt0
import Derived.Test.YthpjgjdeogodjaaGreatDoorGGqBe0
set_option linter.all false
set_option maxRecDepth 20000
namespace Go.AM
theorem zJO {q : Option Bool} {k : Nat} {b : Bs} (hk : k = 1 ∨ b = []) {lo hi : Nat} (h1 : lo ≤ hi) (h2 : hi ≤ b.length) :
  zAq (some 1) (.lst q k (b.map zO)) (some (zP lo)) (some (zP hi)) = some (.lst (zGd q lo hi) k (((b.take hi).drop lo).map zO)):=by
 have hc : k = 1 ∨ (b.map zO).isEmpty = true:=by
  rcases hk with h | h
  ·exact .inl h
  ·exact .inr (by rw [h]; rfl)
 have hb : zBo (b.map zO).length (some (zP lo)) (some (zP hi)) = some (lo,hi):=by
  simp [zBo,aHi,aLo,zP,h1,h2]
 simp only [zAq]
 rw [if_pos hc,hb]
 simp [List.map_drop,List.map_take]
theorem bytes_view {q : Option Bool} {k : Nat} {b : Bs} (hk : k = 1 ∨ b = []) (H : Heap) : view H 1 (.lst q k (b.map zO)) = some (b.map zO):=by
 rcases hk with rfl | rfl
 ·simp [view]
 ·simp [view]
theorem cut_k {k : Nat} {b : Bs} (hk : k = 1 ∨ b = []) (lo hi : Nat) : k = 1 ∨ (b.take hi).drop lo = []:=by
 rcases hk with h | h
 ·exact .inl h
 ·exact .inr (by rw [h]; simp)
theorem u8_nat {x : UInt8} {n : Nat} (h : n < 256) : x = u8N n ↔ x.toNat = n:=by
 constructor
 ·rintro rfl
  simp [u8N,Nat.mod_eq_of_lt h]
 ·intro h2
  rw [← h2]
  simp [u8N]
theorem sLenB {q : Option Bool} {k : Nat} {b : Bs} {K : Int → Prop} (h : K (b.length : Int)) : lenP (.lst q k (b.map zO)) K:=sLenL (by rw [List.length_map]; exact h)
theorem sBytesLst {q : Option Bool} {k : Nat} {u : Bs} {H : Heap} {K : AV → Heap → Prop} (hk : k = 1 ∨ u = []) (h : K (.str u) H) : actP .bytesToStr [.lst q k (u.map zO)] H K:=sAct (by simp only [astep,bytes_view hk,zFb,Option.map_some]) h
theorem bne_no {m n : Nat} (h : m = n) : ((m : Int) != (n : Int)) = false:=by rw [h]; simp
theorem bne_yes {m n : Nat} (h : ¬ m = n) : ((m : Int) != (n : Int)) = true:=bne_iff_ne.2 tO
section
variable {C : CSpec} {GT : Nat → Option AV}
set_option maxHeartbeats 4000000 in
theorem bopen_ev (hS : ∀ v l H,view H 1 v = some (l.map zO) → l.length ≤ 1000 → C zCH [v] H (.int .u16 (sumN 1 l : Nat)) H) (hM : ∀ (f : Fil) H,C zBE [zAa f.col f.row,.str f.text] H (eV (mayN f)) H)
  (hW : ∀ q l c r t H,(q = true → l = []) → l.length ≤ 1000 → Srtd l → C zC9 [opV q l,zAa c r,.str t] H (opV (q && decide (t = [])) (zCC l c r t)) H)
  (q0 : Option Bool) (k0 : Nat) (b : Bs) (hk : k0 = 1 ∨ b = []) (hbl : b.length ≤ 140737488355328) (H : Heap) :
  EFun C GT zIc [.lst q0 k0 (b.map zO)] H (.tup [opV (zA1 b).2.2 (zA1 b).1,zP (zA1 b).2.1]) H:=by
 obtain ⟨R,hR⟩ : ∃ R,zA1 b = R:=⟨_,rfl⟩
 have hlm : (b.map zO).length = b.length:=List.length_map _
 have hv : zDy (.lst q0 k0 (b.map zO)) 1 (b.map zO):=⟨q0,k0,rfl,hk.elim .inl fun h=>.inr (by rw [h]; rfl)⟩
 rw [hR]
 refine zb ?_; refine zDw (fun x : List Fil × Nat × Bool=>[(5,zP x.2.1),(4,opV x.2.2 x.1),(0,.lst q0 k0 (b.map zO))]) (fun x H'=>Old H H' ∧ (x.2.2 = true → x.1 = []) ∧ Srtd x.1 ∧ x.1.length ≤ 200 ∧ x.2.1 ≤ b.length ∧ ∃ k,b.length - x.2.1 ≤ k ∧ zEw b k x.2.1 x.1 x.2.2 = R) (fun x=>b.length - x.2.1) ([],0,true) rfl ⟨Old.refl H,fun _=>rfl,Srtd.nil,by simp,by simp,_,Nat.le_refl _,hR⟩ (fun x H1 hi=>?_)
 obtain ⟨l,a,q⟩:=x
 dsimp only at hi ⊢
 obtain ⟨hO,hq,hs,hl,ha,hk2⟩:=hi
 have hn:=lenAt_lt b a
 have u0:=UInt8.toNat_lt (bAt b a)
 have u1:=UInt8.toNat_lt (bAt b (a + 1))
 have hsl:=sumAt_lt b a
 have hsum:=hS (.lst (zGd q0 a (a + 3 + zAn b a)) k0 ((zJN b a).map zO)) (zJN b a)
 have hsum:=fun H=>hsum H (bytes_view (cut_k hk _ _) H) (Nat.le_trans (headAt_len b a) tO)
 have hsum : ∀ H,C zCH [.lst (zGd q0 a (a + 3 + zAn b a)) k0 (((b.take (a + 3 + zAn b a)).drop a).map zO)] H (.int .u16 (zFl b a : Nat)) H:=hsum
 have hmay:=hM (zz b a)
 have hwith:=hW q l (zz b a).col (zz b a).row (zz b a).text
 clear hS hM hW
 have hno : stepS b a l = false → AV.tup [opV R.2.2 R.1,zP R.2.1] = .tup [opV q l,zP a]:=fun h=>by
  obtain ⟨k,_,h2⟩:=hk2
  rw [openG_no h] at h2
  rw [← h2]
 have hmay0 : mayN (zz b a) = 0 → ∀ H,C zBE [zAa (zz b a).col (zz b a).row,.str (zz b a).text] H .nili H:=fun c5 H=>by
  have:=hmay H
  rwa [c5] at this
 have hmay1 : ¬ mayN (zz b a) = 0 → ∀ H,C zBE [zAa (zz b a).col (zz b a).row,.str (zz b a).text] H (zEJ (mayN (zz b a) : Nat)) H:=fun c5 H=>by
  have:=hmay H
  rwa [show eV (mayN (zz b a)) = zEJ (mayN (zz b a) : Nat) from by unfold eV; rw [if_neg c5]] at this
 clear hmay
 have hw:=fun H=>hwith H hq tO hs
 clear hwith
 have hs2:=withS_srtd hs (zz b a).col (zz b a).row (zz b a).text
 have hq2:=with_q hq (zz b a).col (zz b a).row (zz b a).text
 have hgo:=fun (c1 : a + 5 ≤ b.length) (c2 : a + 5 + zAn b a ≤ b.length) (c3 : bAt b (a + 3 + zAn b a) = u8N (zFl b a % 256)) (c4 : bAt b (a + 4 + zAn b a) = u8N (zFl b a / 256)) (c5 : mayN (zz b a) = 0) (c6 : (zCC l (zz b a).col (zz b a).row (zz b a).text).length ≤ 200)=>openG_go (b:=b) (a:=a) (l:=l) (q:=q) (R:=R) (decide_eq_true ⟨c1,c2,c3,c4,c5,c6⟩) hk2
 have hno6:=fun (c6 : ¬ (zCC l (zz b a).col (zz b a).row (zz b a).text).length ≤ 200)=>hno (decide_eq_false fun h=>c6 h.2.2.2.2.2)
 obtain ⟨q',hq'⟩ : ∃ q',(q && decide ((zz b a).text = [])) = q':=⟨_,rfl⟩
 obtain ⟨l',hl'⟩ : ∃ l',zCC l (zz b a).col (zz b a).row (zz b a).text = l':=⟨_,rfl⟩
 rw [hq',hl'] at hw hgo
 rw [hl'] at hs2 hno6 hq2
 rw [hq'] at hq2
 clear hq' hl'
 have hlm' : (l'.map zd).length = l'.length:=List.length_map _
 have hS1 : ∀ n,n = zAn b a → a + 3 + n ≤ b.length → zAq (some 1) (.lst q0 k0 (b.map zO)) (some (zP a)) (some (zP (a + 3 + n))) = some (.lst (zGd q0 a (a + 3 + n)) k0 (((b.take (a + 3 + n)).drop a).map zO)):=fun n _ h=>zJO hk tO h
 have hS2 : ∀ n,n = zAn b a → a + 3 + n ≤ b.length → zAq (some 1) (.lst q0 k0 (b.map zO)) (some (zP (a + 3))) (some (zP (a + 3 + n))) = some (.lst (zGd q0 (a + 3) (a + 3 + n)) k0 (((b.take (a + 3 + n)).drop (a + 3)).map zO)):=fun n _ h=>zJO hk tO h
 by_cases c1 : a + 5 ≤ b.length
 ·have g0:=zJM (b:=b) (i:=a) tO
  have g1:=zJM (b:=b) (i:=a + 1) tO
  have g2:=zJM (b:=b) (i:=a + 2) tO
  by_cases c2 : a + 5 + zAn b a ≤ b.length
  ·have g3:=zJM (b:=b) (i:=a + 3 + zAn b a) tO
   have g4:=zJM (b:=b) (i:=a + 4 + zAn b a) tO
   have hS1:=hS1 _ rfl tO
   have hS2:=hS2 _ rfl tO
   refine sLenB <| zj (r:=b.length - a) tO tO <| zi tT <| zj (r:=a + 3) rfl tO <| zj (r:=a + 2) rfl tO <| sIdxO (a + 2) _ hv rfl g2 ?_; refine zBk (zO (bAt b (a + 2))) rfl <| zj (r:=zAn b a) rfl tO <| zj (r:=a + 3 + zAn b a) rfl tO <| zj (r:=a + 3 + zAn b a + 2) rfl tO <| sLenB <| zc tF ?_; refine zT hS1 <| zI (hsum _) <| sIdxO a _ hv rfl g0 <| zBk (zO (bAt b a)) rfl <| zj (r:=(bAt b a).toNat) rfl tO <| zj (r:=a + 1) rfl tO ?_
   refine sIdxO (a + 1) _ hv rfl g1 <| zBk (zO (bAt b (a + 1))) rfl <| zj (r:=(bAt b (a + 1)).toNat) rfl tO <| zT (v:=[.int .i64 ↑(bAt b a).toNat,.int .i64 ↑(bAt b (a + 1)).toNat]) rfl <| zj (r:=a + 3) rfl tO <| zT hS2 ?_; refine sBytesLst (cut_k hk _ _) <| zT (v:=[.int .i64 ↑(bAt b a).toNat,.int .i64 ↑(bAt b (a + 1)).toNat,AV.str (List.drop (a + 3) (List.take (a + 3 + zAn b a) b))]) rfl <| zG (v:=zd (zz b a)) (AV.cells (zd (zz b a))) zD rfl rfl rfl rfl <| sIdxO (a + 3 + zAn b a) _ hv rfl g3 <| zBk (zO (bAt b (a + 3 + zAn b a))) rfl <| sWu8n (zFl b a % 256) tO ?_
   by_cases c3 : bAt b (a + 3 + zAn b a) = u8N (zFl b a % 256)
   ·have e3:=bne_no ((u8_nat tO).1 c3)
    refine zc e3 <| zj (r:=a + 4 + zAn b a) tO tO <| sIdxO (a + 4 + zAn b a) _ hv tO g4 <| zBk (zO (bAt b (a + 4 + zAn b a))) rfl <| zT rfl <| sWu8n (zFl b a / 256) (shr8 (zFl b a) tO) ?_; refine zF ?_
    by_cases c4 : bAt b (a + 4 + zAn b a) = u8N (zFl b a / 256)
    ·have e4:=bne_no ((u8_nat tO).1 c4)
     by_cases c5 : mayN (zz b a) = 0
     ·have hmay:=hmay0 c5
      clear hmay1 hmay0 hno
      by_cases c6 : l'.length ≤ 200
      ·have hgo:=hgo c1 c2 c3 c4 c5 c6
       clear hno6
       refine zc e4 <| zC (zAa (zz b a).col (zz b a).row) (zE zD) rfl <| zC (AV.str (zz b a).text) (zE zD) rfl <| zI (hmay _) <| zT rfl <| zF ?_; refine zF <| zC (zAa (zz b a).col (zz b a).row) (zE zD) rfl <| zC (AV.str (zz b a).text) (zE zD) rfl <| zI (hw _) <| zGo (zE6 _ _ hq2 H1) <| zc tF ?_; refine zj (r:=a + 5 + zAn b a) tO tO ?_; refine zBz (l',a + 5 + zAn b a,q') rfl ⟨(hO.push _).set hO.1 _,hq2,hs2,c6,c2,hgo⟩ (by simp only; omega)
      ·clear hgo
       refine zc e4 <| zC (zAa (zz b a).col (zz b a).row) (zE zD) rfl <| zC (AV.str (zz b a).text) (zE zD) rfl <| zI (hmay _) <| zT rfl <| zF ?_; refine zF <| zC (zAa (zz b a).col (zz b a).row) (zE zD) rfl <| zC (AV.str (zz b a).text) (zE zD) rfl <| zI (hw _) <| zGo (zE6 _ _ hq2 H1) <| zi tT ?_
       exact zFc (hno6 c6) rfl rfl rfl rfl ((hO.push _).set hO.1 _)
     ·have hmay:=hmay1 c5
      clear hmay1 hmay0 hw
      refine zc e4 <| zC (zAa (zz b a).col (zz b a).row) (zE zD) rfl <| zC (AV.str (zz b a).text) (zE zD) rfl <| zI (hmay _) <| zT rfl <| zF ?_; refine zH ?_
      exact zFc (hno (decide_eq_false fun h=>c5 h.2.2.2.2.1)) rfl rfl rfl rfl ((hO.push _).set hO.1 _)
    ·have e4:=bne_yes fun h=>c4 ((u8_nat tO).2 h)
     refine zi e4 <| zH <| zH ?_
     exact zFc (hno (decide_eq_false fun h=>c4 h.2.2.2.1)) rfl rfl rfl rfl ((hO.push _).set hO.1 _)
   ·have e3:=bne_yes fun h=>c3 ((u8_nat tO).2 h)
    refine zi e3 <| zH <| zH <| zH <| zH ?_
    exact zFc (hno (decide_eq_false fun h=>c3 h.2.2.1)) rfl rfl rfl rfl ((hO.push _).set hO.1 _)
  ·refine sLenB <| zj (r:=b.length - a) tO tO <| zi tT <| zj (r:=a + 3) rfl tO <| zj (r:=a + 2) rfl tO <| sIdxO (a + 2) _ hv rfl g2 ?_; refine zBk (zO (bAt b (a + 2))) rfl <| zj (r:=zAn b a) rfl tO <| zj (r:=a + 3 + zAn b a) rfl tO <| zj (r:=a + 3 + zAn b a + 2) rfl tO <| sLenB <| zi tT ?_
   exact zFc (hno (decide_eq_false fun h=>c2 h.2.1)) rfl rfl rfl rfl hO
 ·refine sLenB <| zj (r:=b.length - a) tO tO <| zc tF ?_
  exact zFc (hno (decide_eq_false fun h=>c1 h.1)) rfl rfl rfl rfl hO
end
end Go.AM
set_option maxRecDepth 20000
namespace Go.AM
section
variable {C : CSpec} {GT : Nat → Option AV}
end
end Go.AM
namespace Go.AM
theorem withS_mem {l : List Fil} {c r : Int} {t : Bs} {f : Fil} (h : f ∈ zCC l c r t) : f ∈ l ∨ (f = ⟨c,r,t⟩ ∧ t ≠ []):=by
 unfold zCC at h
 rcases List.mem_append.1 h with h | h
 ·rcases List.mem_append.1 h with h | h
  ·exact .inl (List.mem_filter.1 h).1
  ·by_cases ht : t = []
   ·rw [if_pos ht] at h; simp at h
   ·rw [if_neg ht] at h; exact .inr ⟨by simpa using h,ht⟩
 ·exact .inl (List.mem_filter.1 h).1
structure Goods (l : List Fil) : Prop where
 srt : Srtd l
 len : l.length ≤ 200
 each : ∀ f ∈ l,mayN f = 0 ∧ f.text ≠ []
theorem fils_of : ∀ (l : List Fil) (prev : Option Fil),Srtd l → (∀ f ∈ l,mayN f = 0 ∧ f.text ≠ []) → (∀ p,prev = some p → ∀ f ∈ l,p.row < f.row ∨ (p.row = f.row ∧ p.col < f.col)) → zFD prev l = 0
 | [],_,_,_,_=>rfl
 | f :: r,prev,hs,he,hp=>by
  have h0 : filN prev f = 0:=by
   obtain ⟨h1,h2⟩:=he f (List.mem_cons_self ..)
   unfold mayN at h1
   unfold filN
   cases hc : okC f.col f.row with
   | false=>rw [hc] at h1; cases h1
   | true=>
    rw [hc,if_pos rfl] at h1
    rw [if_neg (by simp)]
    cases prev with
    | none=>
     show (if f.text = [] then 3 else zCA f.text) = 0
     rw [if_neg h2]; exact h1
    | some p=>
     have hl:=(lessC_iff p f).2 (hp p rfl f (List.mem_cons_self ..))
     show (if zFC p f = false then 5 else if f.text = [] then 3 else zCA f.text) = 0
     rw [hl,if_neg (by simp),if_neg h2]
     exact h1
  unfold zFD
  rw [if_pos h0]
  exact fils_of r (some f) (List.pairwise_cons.1 hs).2 (fun g hg=>he g (List.mem_cons_of_mem _ hg)) (fun p hpe g hg=>by cases hpe; exact (List.pairwise_cons.1 hs).1 g hg)
theorem Goods.check {l : List Fil} (h : Goods l) : zBD l = 0:=by
 unfold zBD
 rw [if_neg (by have:=h.len; omega)]
 exact fils_of l none h.srt h.each (fun p hp=>by cases hp)
theorem filsN_each : ∀ (l : List Fil) (prev : Option Fil),zFD prev l = 0 → ∀ f ∈ l,mayN f = 0 ∧ f.text ≠ []
 | [],_,_,f,hf=>absurd hf (by simp)
 | g :: r,prev,h,f,hf=>by
  unfold zFD at h
  by_cases h0 : filN prev g = 0
  ·rw [if_pos h0] at h
   rcases List.mem_cons.1 hf with rfl | hf
   ·unfold filN at h0
    unfold mayN
    cases hc : okC f.col f.row with
    | false=>rw [hc,if_pos rfl] at h0; cases h0
    | true=>
     rw [hc,if_neg (by simp)] at h0
     rw [if_pos rfl]
     have h0 : (if f.text = [] then 3 else zCA f.text) = 0:=by
      cases prev with
      | none=>exact h0
      | some p=>
       have h0 : (if zFC p f = false then 5 else if f.text = [] then 3 else zCA f.text) = 0:=h0
       by_cases hp : zFC p f = false
       ·rw [if_pos hp] at h0; cases h0
       ·rwa [if_neg hp] at h0
     by_cases he : f.text = []
     ·rw [if_pos he] at h0; cases h0
     ·rw [if_neg he] at h0; exact ⟨h0,he⟩
   ·exact filsN_each r _ h f hf
  ·rw [if_neg h0] at h; exact absurd h h0
theorem goods_of {l : List Fil} (h : zBD l = 0) : Goods l:=by
 refine ⟨srtd_check h,(zJH h).1, ?_⟩
 unfold zBD at h
 by_cases h1 : 200 < l.length
 ·rw [if_pos h1] at h; cases h
 ·rw [if_neg h1] at h; exact filsN_each l none h
theorem Goods.nil : Goods []:=⟨Srtd.nil,by simp,fun f hf=>absurd hf (by simp)⟩
theorem Goods.take {l : List Fil} (h : Goods l) (n : Nat) : Goods (l.take n):=⟨h.srt.sublist (List.take_sublist n l),by rw [List.length_take]; have:=h.len; omega,fun f hf=>h.each f (List.mem_of_mem_take hf)⟩
end Go.AM
namespace Go.AM
theorem zGZ (a b : List Fil) : zW (a ++ b) = zW a ++ zW b:=by
 induction a with
 | nil=>rfl
 | cons x r ih=>simp only [List.cons_append,zW,ih,List.append_assoc]
theorem entsB_two (p q : Fil → Bool) (hd : ∀ f,p f = true → q f = false) : ∀ l : List Fil,(zW (l.filter p)).length + (zW (l.filter q)).length ≤ (zW l).length
 | []=>by simp [zW]
 | f :: l=>by
  have ih:=entsB_two p q hd l
  have h:=hd f
  rw [List.filter_cons,List.filter_cons]
  cases hp : p f
  ·cases hq : q f
   ·simp only [zW,List.length_append,zCh,Bool.false_eq_true,if_false]; omega
   ·simp only [zW,List.length_append,zCh,Bool.false_eq_true,if_false,if_true]; omega
  ·rw [h hp]
   simp only [zW,List.length_append,zCh,Bool.false_eq_true,if_false,if_true]; omega
theorem withS_size (l : List Fil) (c r : Int) (t : Bs) : (zW (zCC l c r t)).length ≤ (zW l).length + (t.length + 5):=by
 have h:=entsB_two (aheadC c r) (zBj c r) (fun f h=>by simp only [aheadC,zBj,decide_eq_true_eq,decide_eq_false_iff_not] at *; omega) l
 unfold zCC
 rw [zGZ,zGZ,List.length_append,List.length_append]
 by_cases ht : t = []
 ·rw [if_pos ht]; simp only [zW,List.length_nil]; omega
 ·rw [if_neg ht]
  have e : (zW [(⟨c,r,t⟩ : Fil)]).length = t.length + 5:=by simp [zW,zCh]
  rw [e]; omega
theorem openG_inv (b : Bs) : ∀ (k a : Nat) (l : List Fil) (q : Bool),Goods l → a ≤ b.length → (zW l).length ≤ a → (q = true → l = []) →
  Goods (zEw b k a l q).1 ∧ (zEw b k a l q).2.1 ≤ b.length ∧ (zW (zEw b k a l q).1).length ≤ (zEw b k a l q).2.1 ∧ ((zEw b k a l q).2.2 = true → (zEw b k a l q).1 = [])
 | 0,a,l,q,hl,ha,he,hq=>⟨hl,ha,he,hq⟩
 | k + 1,a,l,q,hl,ha,he,hq=>by
  unfold zEw
  by_cases hs : stepS b a l = true
  ·rw [if_pos hs]
   simp only [stepS,decide_eq_true_eq] at hs
   obtain ⟨h1,h2,h3,h4,h5,h6⟩:=hs
   refine openG_inv b k _ _ _ ⟨withS_srtd hl.srt _ _ _,h6,fun f hf=>?_⟩ h2 ?_ (with_q hq _ _ _)
   ·rcases withS_mem hf with h | ⟨rfl,ht⟩
    ·exact hl.each f h
    ·exact ⟨h5,ht⟩
   ·have:=withS_size l (zz b a).col (zz b a).row (zz b a).text
    have e : (zz b a).text.length = zAn b a:=by simp only [zz,List.length_drop,List.length_take]; omega
    omega
  ·rw [if_neg hs]
   exact ⟨hl,ha,he,hq⟩
theorem zEx (b : Bs) : Goods (zA1 b).1 ∧ (zA1 b).2.1 ≤ b.length ∧ (zW (zA1 b).1).length ≤ (zA1 b).2.1 ∧ ((zA1 b).2.2 = true → (zA1 b).1 = []):=openG_inv b _ 0 [] true .nil (Nat.zero_le _) (by simp [zW]) (fun _=>rfl)
theorem zHA (A Y : Bs) (i : Nat) : bAt (A ++ Y) (A.length + i) = bAt Y i:=by
 simp only [bAt,List.getD_eq_getElem?_getD]
 rw [List.getElem?_append_right tO,Nat.add_sub_cancel_left]
theorem bAt_take (W : Bs) {i n : Nat} (h : i < n) : bAt (W.take n) i = bAt W i:=by
 simp only [bAt,List.getD_eq_getElem?_getD]
 rw [List.getElem?_take,if_pos h]
theorem zGa {n : Nat} (h : n < 256) : (u8N n).toNat = n:=by simp [u8N,Nat.mod_eq_of_lt h]
theorem step_at (A X : Bs) (f : Fil) (l : List Fil) (hf : okF f) (hm : mayN f = 0) (hw : (zCC l f.col f.row f.text).length ≤ 200) :
  stepS (A ++ (zGc f ++ X)) A.length l = true ∧ zAn (A ++ (zGc f ++ X)) A.length = f.text.length ∧ zz (A ++ (zGc f ++ X)) A.length = f:=by
 obtain ⟨⟨c1,c2⟩,⟨r1,r2⟩,t1⟩:=hf
 obtain ⟨b,hb⟩ : ∃ b,A ++ (zGc f ++ X) = b:=⟨_,rfl⟩
 have hlen : zAn b A.length = f.text.length:=by
  unfold zAn
  rw [← hb,zHA]
  show (u8N f.text.length).toNat = _
  exact zGa tO
 have hbl : b.length = A.length + (f.text.length + 5) + X.length:=by rw [← hb]; simp only [List.length_append,zCh]; omega
 have b0 : bAt b A.length = u8N f.col.toNat:=by rw [← hb]; exact zHA A _ 0
 have b1 : bAt b (A.length + 1) = u8N f.row.toNat:=by rw [← hb]; exact zHA A _ 1
 have hhl : (zH7 f).length = f.text.length + 3:=by simp [zH7]
 have hin : b = (A ++ zH7 f) ++ ([u8N (sumN 1 (zH7 f) % 256),u8N (sumN 1 (zH7 f) / 256)] ++ X):=by rw [← hb]; simp [zGc,List.append_assoc]
 have htk : b.take (A.length + 3 + f.text.length) = A ++ zH7 f:=by
  rw [hin]
  refine List.take_left' ?_
  rw [List.length_append,hhl]; omega
 have hfil : zz b A.length = f:=by
  unfold zz
  rw [hlen,htk,b0,b1,zGa tO,zGa tO]
  have e : (A ++ zH7 f).drop (A.length + 3) = f.text:=by
   rw [List.drop_append]
   have : A.drop (A.length + 3) = []:=List.drop_eq_nil_iff.2 tO
   rw [this,Nat.add_sub_cancel_left]
   rfl
  rw [e]
  cases f with
  | mk c r t=>
   simp only at c1 r1 ⊢
   rw [Int.toNat_of_nonneg tO,Int.toNat_of_nonneg tO]
 have hhead : zJN b A.length = zH7 f:=by
  unfold zJN
  rw [hlen,htk,List.drop_left]
 have hsum : zFl b A.length = sumN 1 (zH7 f):=by unfold zFl; rw [hhead]
 have b3 : bAt b (A.length + 3 + zAn b A.length) = u8N (zFl b A.length % 256):=by
  rw [hsum,hlen,hin,show A.length + 3 + f.text.length = (A ++ zH7 f).length + 0 from by rw [List.length_append,hhl]; omega,zHA]; rfl
 have b4 : bAt b (A.length + 4 + zAn b A.length) = u8N (zFl b A.length / 256):=by
  rw [hsum,hlen,hin,show A.length + 4 + f.text.length = (A ++ zH7 f).length + 1 from by rw [List.length_append,hhl]; omega,zHA]; rfl
 rw [hb]
 refine ⟨decide_eq_true ⟨by omega,by rw [hlen]; omega,b3,b4, ?_, ?_⟩,hlen,hfil⟩
 ·rw [hfil]; exact hm
 ·rw [hfil]; exact hw
theorem withS_snoc {l : List Fil} {f : Fil} (h : Srtd (l ++ [f])) (ht : f.text ≠ []) : zCC l f.col f.row f.text = l ++ [f]:=by
 have hp:=List.pairwise_append.1 h
 have h1 : ∀ g ∈ l,g.row < f.row ∨ (g.row = f.row ∧ g.col < f.col):=fun g hg=>hp.2.2 g hg f (by simp)
 unfold zCC
 have e1 : l.filter (aheadC f.col f.row) = l:=List.filter_eq_self.2 fun g hg=>tT (h1 g hg)
 have e2 : l.filter (zBj f.col f.row) = []:=List.filter_eq_nil_iff.2 fun g hg=>by have:=h1 g hg; simp only [zBj,decide_eq_true_eq]; omega
 rw [if_neg ht,e1,e2,List.append_nil]
theorem open_take (L : List Fil) (hL : Goods L) (cut : Nat) (hc : cut ≤ (zW L).length) : ∀ (rest pre : List Fil) (k : Nat) (q : Bool),L = pre ++ rest → (zW pre).length ≤ cut → cut - (zW pre).length ≤ k →
  ∃ j q',j ≤ rest.length ∧ zEw ((zW L).take cut) k (zW pre).length pre q = (pre ++ rest.take j,(zW (pre ++ rest.take j)).length,q') ∧ (zW (pre ++ rest.take j)).length ≤ cut ∧ (cut = (zW L).length → j = rest.length)
 | [],pre,k,q,hLe,hp,hk=>by
  have hbl : ((zW L).take cut).length = cut:=by rw [List.length_take]; omega
  have : (zW L).length = (zW pre).length:=by rw [hLe]; simp
  refine ⟨0,q,Nat.le_refl _, ?_,by simpa using hp,fun _=>rfl⟩
  rw [openG_no (decide_eq_false fun h=>by have:=h.1; omega)]
  simp
 | f :: rest,pre,k,q,hLe,hp,hk=>by
  have hbl : ((zW L).take cut).length = cut:=by rw [List.length_take]; omega
  have hfm : f ∈ L:=by rw [hLe]; simp
  obtain ⟨hfm0,hft⟩:=hL.each f hfm
  have hfo : okF f:=by
   unfold mayN at hfm0
   cases hcc : okC f.col f.row with
   | false=>rw [hcc] at hfm0; cases hfm0
   | true=>rw [hcc,if_pos rfl] at hfm0; exact okF_of hcc hfm0
  have hLf : zW L = zW pre ++ (zGc f ++ zW rest):=by rw [hLe,zGZ]; rfl
  have hlen : (zW L).length = (zW pre).length + (f.text.length + 5) + (zW rest).length:=by rw [hLf]; simp only [List.length_append,zCh]; omega
  have hg : Goods (pre ++ [f]):=by
   have:=hL.take (pre.length + 1)
   rwa [hLe,List.take_append,List.take_of_length_le tO,Nat.add_sub_cancel_left,List.take_succ_cons,List.take_zero] at this
  have hws:=withS_snoc hg.srt hft
  by_cases hcut : (zW pre).length + (f.text.length + 5) ≤ cut
  ·have hb : (zW L).take cut = zW pre ++ (zGc f ++ (zW rest).take (cut - (zW pre).length - (zGc f).length)):=by
    rw [hLf,List.take_append,List.take_of_length_le hp,List.take_append,List.take_of_length_le (by rw [zCh]; omega)]
   obtain ⟨h1,h2,h3⟩:=step_at (zW pre) ((zW rest).take (cut - (zW pre).length - (zGc f).length)) f pre hfo hfm0 (by rw [hws]; exact hg.len)
   rw [← hb] at h1 h2 h3
   have hpre2 : (zW (pre ++ [f])).length = (zW pre).length + 5 + f.text.length:=by rw [zGZ]; simp only [zW,List.append_nil,List.length_append,zCh]; omega
   match k,hk with
   | 0,hk=>omega
   | k + 1,hk=>
    obtain ⟨j,q',e1,e2,e3,e4⟩:=open_take L hL cut hc rest (pre ++ [f]) k (q && decide (f.text = [])) (by rw [hLe]; simp) (by rw [hpre2]; omega) (by rw [hpre2]; omega)
    refine ⟨j + 1,q',by simp; omega, ?_, ?_,fun h=>by simp [e4 h]⟩
    ·rw [zEw,if_pos h1,h2,h3,hws,← hpre2,e2]
     simp [List.append_assoc]
    ·simpa [List.append_assoc] using e3
  ·refine ⟨0,q,Nat.zero_le _, ?_,by simpa using hp,fun h=>by omega⟩
   rw [openG_no (decide_eq_false fun h=>?_)]
   ·simp
   ·have h1:=h.1
    have h2:=h.2.1
    rw [hbl] at h1 h2
    have e : zAn ((zW L).take cut) (zW pre).length = f.text.length:=by
     unfold zAn
     rw [bAt_take _ tO,hLf,zHA]
     show (u8N f.text.length).toNat = _
     have:=hfo.2.2
     exact zGa tO
    omega
theorem open_cut {L : List Fil} (h : zBD L = 0) {cut : Nat} (hc : cut ≤ (zW L).length) : ∃ j,j ≤ L.length ∧ (zA1 ((zW L).take cut)).1 = L.take j ∧ (zA1 ((zW L).take cut)).2.1 ≤ cut ∧ (cut = (zW L).length → j = L.length ∧ (zA1 ((zW L).take cut)).2.1 = cut):=by
 have hbl : ((zW L).take cut).length = cut:=by rw [List.length_take]; omega
 obtain ⟨j,q',h1,h2,h3,h4⟩:=open_take L (goods_of h) cut hc L [] cut true rfl (by simp [zW]) tO
 have e : zA1 ((zW L).take cut) = (L.take j,(zW (L.take j)).length,q'):=by
  unfold zA1
  rw [hbl]
  exact h2
 refine ⟨j,h1,by rw [e],by rw [e]; exact h3,fun hcc=>⟨h4 hcc, ?_⟩⟩
 rw [e]
 show (zW (L.take j)).length = cut
 rw [h4 hcc,List.take_length,hcc]
theorem open_all {L : List Fil} (h : zBD L = 0) : (zA1 (zW L)).1 = L ∧ (zA1 (zW L)).2.1 = (zW L).length:=by
 obtain ⟨j,h1,h2,h3,h4⟩:=open_cut h (Nat.le_refl _)
 rw [List.take_length] at h2 h4
 obtain ⟨h5,h6⟩:=h4 rfl
 exact ⟨by rw [h2,h5,List.take_length],h6⟩
end Go.AM
set_option maxRecDepth 20000
namespace Go.AM
section
variable {C : CSpec} {GT : Nat → Option AV}
theorem ssheets_ev (v w : AV) (l : List Fil) (H : Heap) (hv : view H 3 v = some (l.map zd)) (hw : view H 3 w = some (l.map zd)) (hl : l.length ≤ 1000000) : EFun C GT zEH [v,w] H (.bool true) H:=by
 have hlm : (l.map zd).length = l.length:=List.length_map _
 refine zb ?_; refine zGo hv <| zGo hw <| zc (bne_eq_false_iff_eq.2 rfl) ?_; refine zDw (fun i : Nat=>[(5,zP i),(1,w),(0,v)]) (fun i H'=>H' = H ∧ i ≤ l.length) (fun i=>l.length - i) 0 rfl ⟨rfl,by omega⟩ (fun i H1 ⟨hH,hi⟩=>?_)
 subst hH
 dsimp only
 by_cases hlt : i < l.length
 ·obtain ⟨c,hc⟩ : ∃ c,l[i]? = some c:=⟨_,List.getElem?_eq_getElem hlt⟩
  have hcm : (l.map zd)[i]? = some (zd c):=by rw [List.getElem?_map,hc]; rfl
  refine zGo hv <| zi tT ?_; refine zFa i (zd c) hv rfl hcm (fun p hp=>?_)
  refine zBg (zd c) hp rfl ?_; refine zFa i (zd c) hw rfl hcm (fun p2 hp2=>?_)
  refine zBg (zd c) hp2 rfl <| zT rfl <| zc (show negB true (c.col == c.col && (c.row == c.row && (c.text == c.text && true))) = false from by simp [negB]) <| zj (r:=i + 1) rfl tO ?_; refine zBz (i + 1) rfl ⟨rfl,by omega⟩ tO
 ·refine zGo hv <| zc tF ?_
  exact sRr
end
end Go.AM
