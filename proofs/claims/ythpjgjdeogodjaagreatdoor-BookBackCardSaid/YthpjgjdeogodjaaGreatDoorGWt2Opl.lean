/- Several texts of mine in one (Wt2, Be1, Be2, Opv, Opl). Own work. -/
import Derived.Test.YthpjgjdeogodjaaGreatDoorGInsDlg
import Derived.Test.YthpjgjdeogodjaaGreatDoorGRffRfi
import Derived.Test.YthpjgjdeogodjaaGreatDoorGGqBe0
import Derived.Test.YthpjgjdeogodjaaGreatDoorGAm23Am29
import Derived.Test.YthpjgjdeogodjaaGreatDoorGRf5Rf3
import Derived.Test.YthpjgjdeogodjaaGreatDoorWt0
set_option linter.all false
set_option maxRecDepth 20000
namespace Go.AM
structure RwS where
 i : Nat
 v : AV
section
variable {C : CSpec} {GT : Nat → Option AV}
end
end Go.AM
set_option maxRecDepth 20000
namespace Go.AM
def bsV (s : Bs) : AV:=lstF 1 (s.map zO)
theorem bsV_view (s : Bs) (H : Heap) : view H 1 (bsV s) = some (s.map zO):=by
 cases s <;> rfl
structure SumS where
 i : Nat
 s : Nat
section
variable {C : CSpec} {GT : Nat → Option AV}
theorem sWu16 {x : Int} {K : Int → Prop} (r : Nat) (h : x % 65536 = r) (k : K (r : Int)) : valP (IntKind.wrap .u16 x) K:=sVal (by rw [IntKind.wrap_u16]; omega) k
theorem bksum_ev (v : AV) (l : Bs) (H : Heap) (hv : view H 1 v = some (l.map zO)) (hl : l.length ≤ 1000) : EFun C GT a_book_sum [v] H (.int .u16 (sumN 1 l : Nat)) H:=by
 have hlm : (l.map zO).length = l.length:=List.length_map _
 obtain ⟨r,hr⟩ : ∃ r,sumN 1 l = r:=⟨_,rfl⟩
 have hrl : r < 65521:=by rw [← hr]; exact sumN_lt l 1 (by decide)
 rw [hr]
 refine zb ?_; refine zGo hv ?_; refine zDw (fun x : SumS=>[(8,zP x.i),(3,.int .u32 (x.s : Nat)),(6,v),(7,.int .i64 ((l.map zO).length : Nat))]) (fun x H'=>H' = H ∧ x.i ≤ l.length ∧ x.s < 65521 ∧ sumN x.s (l.drop x.i) = r) (fun x=>l.length - x.i) ⟨0,1⟩ rfl ⟨rfl,by simp,by simp,hr⟩ (fun ⟨i,s⟩ H1 ⟨hH,hi,hs,hq⟩=>?_)
 subst hH
 dsimp only at hi hs hq ⊢
 by_cases hlt : i < l.length
 ·obtain ⟨c,hc⟩ : ∃ c,l[i]? = some c:=⟨_,List.getElem?_eq_getElem hlt⟩
  have hcm : (l.map zO)[i]? = some (zO c):=by rw [List.getElem?_map,hc]; rfl
  have hc2:=c.toNat_lt
  rw [sumN_drop l i c hc] at hq
  refine zi tT ?_; refine zFa i (zO c) hv rfl hcm (fun p hp=>?_)
  refine zBg (zO c) hp rfl <| sWu32 (s * 257) tO <| sWu32 c.toNat tO <| sWu32 (s * 257 + c.toNat) tO <| zFZ (by decide) <| sVal (r:=((s * 257 + c.toNat) % 65521 : Nat)) (Int.ofNat_tmod (s * 257 + c.toNat) 65521).symm ?_; refine zj (r:=i + 1) rfl tO ?_; refine zBz (SumS.mk (i + 1) ((s * 257 + c.toNat) % 65521)) rfl ⟨rfl,by simp only; omega,Nat.mod_lt _ (by decide),hq⟩ (by simp only; omega)
 ·have hd : l.drop i = []:=List.drop_eq_nil_of_le tO
  rw [hd] at hq
  have hq : s = r:=hq
  subst hq
  refine zc tF <| sWu16 s tO ?_
  exact sRr
structure EntS where
 i : Nat
 s : Nat
def OwnF (H0 H : Heap) (v : AV) (k : Nat) (xs : List AV) : Prop:=∃ b,v = .sl (some false) b k 0 xs.length ∧ H0.length ≤ b ∧ H[b]? = some (.row k xs) ∧ xs ≠ []
theorem OwnF.view {H0 H : Heap} {v : AV} {k : Nat} {xs : List AV} (h : OwnF H0 H v k xs) : view H k v = some xs:=by
 obtain ⟨b,rfl,_,h2,_⟩:=h
 simp [Go.AM.view,h2]
theorem OwnF.keep {H0 H H' : Heap} {v : AV} {k : Nat} {xs : List AV} (h : OwnF H0 H v k xs) (hk : ∀ b x,v.blk = some b → H[b]? = some x → H'[b]? = some x) : OwnF H0 H' v k xs:=by
 obtain ⟨b,rfl,h1,h2,h3⟩:=h
 exact ⟨b,rfl,h1,hk b _ rfl h2,h3⟩
theorem OwnF.push {H0 H : Heap} {v : AV} {k : Nat} {xs : List AV} (h : OwnF H0 H v k xs) (x : ABlk) : OwnF H0 (H ++ [x]) v k xs:=h.keep fun _ _ _ hx=>zA hx
theorem OwnF.frz {H0 H : Heap} {v : AV} {k : Nat} {xs : List AV} (h : OwnF H0 H v k xs) (hO : Old H0 H) : ∃ H',zCb H0.length v H = some (lstF k xs,H') ∧ Old H0 H':=by
 obtain ⟨b,rfl,h1,h2,h3⟩:=h
 refine ⟨H.set b (.frz k xs), ?_,hO.set h1 _⟩
 cases xs with
 | nil=>exact absurd rfl h3
 | cons x xs=>
  simp only [zCb]
  rw [if_neg tO,h2]
  simp [lstF,frzQ]
theorem sAppStrF {H0 H : Heap} {v : AV} {xs : List AV} {s : List UInt8} {K : AV → Heap → Prop} (ho : OwnF H0 H v 1 xs) (hH : Old H0 H) (hl : xs.length + s.length ≤ 140737488355328)
  (q : ∀ v' H',OwnF H0 H' v' 1 (xs ++ s.map zO) → Old H0 H' → (∀ c y,v.blk ≠ some c → H[c]? = some y → H'[c]? = some y) → K v' H') : actP .appendS [v,.str s] H K:=by
 obtain ⟨b,rfl,h1,h2,h3⟩:=ho
 by_cases he : s = []
 ·subst he
  refine sAct (v:=.sl (some false) b 1 0 xs.length) (H':=H) ?_ (q _ H ⟨b,by simp,h1,by simpa using h2,by simpa using h3⟩ hH fun c y _ h=>h)
  simp [astep]
 have hne : s.isEmpty = false:=by simpa using he
 refine sAct (v:=.sl (some false) H.length 1 0 (xs.length + s.length)) (H':=H.set b .dead ++ [.row 1 (xs ++ s.map zO)]) ?_ ?_
 ·simp only [astep,hne,h2]
  rw [if_neg (by simp),if_pos ⟨trivial,trivial,by omega,by omega⟩]
  simp
 ·refine q _ _ ⟨_,by rw [List.length_append,List.length_map],hH.1, ?_,by simp [h3]⟩ ((hH.set h1 _).push _) fun c x hc hx=>?_
  ·have : (H.set b .dead).length = H.length:=List.length_set
   rw [← this]; exact zD
  ·exact zA (zB (fun e=>hc (by rw [e]; rfl)) hx)
theorem sAppendF {H0 H : Heap} {v y : AV} {k bytes : Nat} {xs ys : List AV} {K : AV → Heap → Prop} (ho : OwnF H0 H v k xs) (hH : Old H0 H) (hy : view H k y = some ys) (hb : bytes ≤ 1024) (hl : xs.length + ys.length ≤ 137438953472)
  (q : ∀ v' H',OwnF H0 H' v' k (xs ++ ys) → Old H0 H' → K v' H') : actP (.append k bytes) [v,y] H K:=by
 have hm : (xs.length + ys.length) * bytes ≤ 137438953472 * 1024:=Nat.mul_le_mul hl hb
 obtain ⟨b,rfl,h1,h2,h3⟩:=ho
 refine sAct (v:=.sl (some false) H.length k 0 (xs.length + ys.length)) (H':=H.set b .dead ++ [.row k (xs ++ ys)]) ?_ ?_
 ·simp only [astep,hy,h2]
  rw [if_pos ⟨trivial,trivial,by omega,by omega,by omega⟩]
  simp
 ·refine q _ _ ⟨_,by rw [List.length_append],hH.1, ?_,by simp [h3]⟩ ((hH.set h1 _).push _)
  have : (H.set b .dead).length = H.length:=List.length_set
  rw [← this]; exact zD
theorem sWu8n {x : Int} {K : Int → Prop} (r : Nat) (h : x % 256 = r) (k : K (r : Int)) : valP (IntKind.wrap .u8 x) K:=sVal (by rw [IntKind.wrap_u8]; omega) k
theorem shr8 (n : Nat) (h : n < 65536) : ((n : Int).fdiv (2 ^ ((Int.toNat 8).min IntKind.u16.bits))) % 256 = ((n / 256 : Nat) : Int):=by
 have e : (2 : Int) ^ ((Int.toNat 8).min IntKind.u16.bits) = 256:=by decide
 rw [e,Int.fdiv_eq_ediv_of_nonneg _ (by decide)]
 omega
theorem bentry_ev (hS : ∀ v l H,view H 1 v = some (l.map zO) → l.length ≤ 1000 → C zCH [v] H (.int .u16 (sumN 1 l : Nat)) H) (f : Fil) (hf : okF f) (H : Heap) : EFun C GT zHO [zd f] H (bsV (zGc f)) H:=by
 obtain ⟨⟨hc1,hc2⟩,⟨hr1,hr2⟩,hl⟩:=hf
 have hsl : sumN 1 (zH7 f) < 65521:=sumN_lt _ _ (by decide)
 have hel : (zH7 f).length = f.text.length + 3:=by simp [zH7]
 have hs:=fun v H h=>hS v (zH7 f) H h tO
 clear hS
 refine zb ?_
 have e0 : [AV.int .u8 f.col,.int .u8 f.row,.int .u8 (f.text.length : Nat)] = [u8N f.col.toNat,u8N f.row.toNat,u8N f.text.length].map zO:=by
  simp only [List.map_cons,List.map_nil]
  rw [zJI _ tO,zJI _ tO,zJI _ tO]
  have h1 : ((f.col.toNat : Nat) : Int) = f.col:=by omega
  have h2 : ((f.row.toNat : Nat) : Int) = f.row:=by omega
  rw [h1,h2]
 refine zCj (x:=zd f) rfl <| zC (zl f.col) zD rfl <| sWu8 tO <| zC (zl f.row) zD rfl <| sWu8 tO <| zC (AV.str f.text) zD rfl ?_; refine sWu8 tO <| zCT (vs':=[AV.int IntKind.u8 f.col,AV.int IntKind.u8 f.row,AV.int IntKind.u8 ↑(List.length f.text)]) rfl rfl <| zC (AV.str f.text) (zA zD) rfl ?_; refine sAppStrF (H0:=H) (xs:=[u8N f.col.toNat,u8N f.row.toNat,u8N f.text.length].map zO) ⟨_,rfl,by simp,by rw [← e0]; exact zD,by simp⟩ (((Old.refl H).push _).push _) (by simp; omega) (fun v1 H1 ho1 hO1 _=>?_)
 rw [← List.map_append] at ho1
 have ho1 : OwnF H H1 v1 1 ((zH7 f).map zO):=ho1
 have hs1:=hs v1 H1 ho1.view
 obtain ⟨sn,hsn⟩ : ∃ sn,sumN 1 (zH7 f) = sn:=⟨_,rfl⟩
 have hen : zGc f = zH7 f ++ [u8N (sn % 256),u8N (sn / 256)]:=by rw [← hsn]; rfl
 rw [hsn] at hs1 hsl
 clear hs
 refine zI hs1 <| sWu8n (sn % 256) tO <| zT rfl <| sWu8n (sn / 256) (shr8 sn tO) <| zCT (vs':=[AV.int IntKind.u8 ↑(sn % 256),AV.int IntKind.u8 ↑(sn / 256)]) rfl rfl ?_
 have e1 : [AV.int .u8 (sn % 256 : Nat),.int .u8 (sn / 256 : Nat)] = [u8N (sn % 256),u8N (sn / 256)].map zO:=by
  simp only [List.map_cons,List.map_nil]
  rw [zJI _ tO,zJI _ tO]
 refine sAppendF (H0:=H) (xs:=(zH7 f).map zO) (ys:=[u8N (sn % 256),u8N (sn / 256)].map zO) (ho1.push _) (hO1.push _) (by rw [← e1]; exact zE0) (by decide) (by simp; omega) (fun v2 H2 ho2 hO2=>?_)
 rw [← List.map_append,← hen] at ho2
 obtain ⟨H3,hz,hO3⟩:=ho2.frz hO2
 exact sRetF rfl rfl hz (lstF_bel _ _ _) hO3
end
end Go.AM
set_option maxRecDepth 20000
namespace Go.AM
section
variable {C : CSpec} {GT : Nat → Option AV}
theorem may_ev (hA : ∀ c r H,C zAs [zAa c r] H (if okC c r = true then .nili else zEJ 1) H) (hT : ∀ s H,C zAg [.str s] H (eV (zCA s)) H) (f : Fil) (H : Heap) :
  EFun C GT zIh [zAa f.col f.row,.str f.text] H (eV (if okC f.col f.row = true then zCA f.text else 1)) H:=by
 have ha:=hA f.col f.row
 have ht:=hT f.text
 clear hA hT
 refine zb ?_
 cases hk : okC f.col f.row with
 | true=>
  rw [hk] at ha
  rw [if_pos rfl]
  have ha : ∀ H,C zAs [zAa f.col f.row] H .nili H:=ha
  generalize zCA f.text = n at *
  have hb : (eV n).bel H.length = true:=by unfold eV; split <;> rfl
  have hz : ∀ H1 : Heap,zCb H.length (eV n) H1 = some (eV n,H1):=fun H1=>by unfold eV; split <;> rfl
  refine zCj (x:=zAa f.col f.row) rfl <| zC (zAa f.col f.row) zD rfl <| zI (ha _) <| zT rfl <| zF <| zI (ht _) ?_
  exact zBW rfl rfl (hz _) hb ((Old.refl H).push _)
 | false=>
  rw [hk] at ha
  have ha : ∀ H,C zAs [zAa f.col f.row] H (zEJ 1) H:=ha
  clear ht
  refine zCj (x:=zAa f.col f.row) rfl <| zC (zAa f.col f.row) zD rfl <| zI (ha _) <| zT rfl <| zH ?_
  exact zBW rfl rfl rfl rfl ((Old.refl _).push _)
theorem kentry_ev (hM : ∀ (f : Fil) H,C zBE [zAa f.col f.row,.str f.text] H (eV (if okC f.col f.row = true then zCA f.text else 1)) H) (hE : ∀ f,okF f → ∀ H,C zBu [zd f] H (bsV (zGc f)) H) (f : Fil) (n : Nat) (hn : (if okC f.col f.row = true then zCA f.text else 1) = n) (H : Heap) :
  EFun C GT zHL [zd f] H (.tup [if n = 0 then bsV (zGc f) else .lst (some true) 0 [],eV n]) H:=by
 have hm:=hM f
 rw [hn] at hm
 clear hM
 refine zb ?_
 by_cases h0 : n = 0
 ·rw [if_pos h0]
  subst h0
  have hok : okF f:=by
   by_cases h1 : okC f.col f.row = true
   ·rw [if_pos h1] at hn; exact okF_of h1 hn
   ·rw [if_neg h1] at hn; cases hn
  have he:=hE f hok
  clear hE
  have hm : ∀ H,C zBE [zAa f.col f.row,.str f.text] H .nili H:=hm
  refine zCj (x:=zd f) rfl <| zC (AV.agg [zl f.col,zl f.row]) zD rfl <| zC (AV.str f.text) zD rfl <| zI (hm _) <| zT rfl <| zF ?_; refine zC (zd f) zD rfl <| zI (he _) ?_
  exact zBW rfl rfl rfl rfl ((Old.refl _).push _)
 ·rw [if_neg h0]
  have he : eV n = zEJ n:=by unfold eV; rw [if_neg h0]
  rw [he] at hm ⊢
  clear hE
  refine zCj (x:=zd f) rfl <| zC (AV.agg [zl f.col,zl f.row]) zD rfl <| zC (AV.str f.text) zD rfl <| zI (hm _) <| zT rfl <| zH ?_
  exact zBW rfl rfl rfl rfl ((Old.refl _).push _)
theorem frz_pair {n : Nat} {v v' y : AV} {H H' : Heap} (h : zCb n v H = some (v',H')) (hy : ∀ H,zCb n y H = some (y,H)) : zCb n (.tup [v,y]) H = some (.tup [v',y],H'):=by
 simp only [zCb,zH9,h,hy]
def wriV (l : List Fil) : AV:=if zBD l = 0 then bsV (zW l) else .lst (some true) 0 []
theorem write_ev (hG : ∀ lv l H,view H 3 lv = some (l.map zd) → C zB0 [lv] H (eV (zBD l)) H) (hE : ∀ f,okF f → ∀ H,C zBu [zd f] H (bsV (zGc f)) H) (lv : AV) (l : List Fil) (H : Heap) (hv : view H 3 lv = some (l.map zd)) :
  EFun C GT zHM [lv] H (.tup [wriV l,eV (zBD l)]) H:=by
 have hlm : (l.map zd).length = l.length:=List.length_map _
 have hg:=hG lv l H hv
 clear hG
 refine zb ?_
 unfold wriV
 by_cases h0 : zBD l = 0
 ·obtain ⟨hl,hok⟩:=zJH h0
  rw [if_pos h0]
  rw [h0] at hg ⊢
  have hg : C zB0 [lv] H .nili H:=hg
  have hle:=zH8 l hok
  refine zI hg <| zT rfl <| zF <| zGo hv ?_; refine zDw (fun x : Nat × AV=>[(15,zP x.1),(5,x.2),(13,lv),(14,.int .i64 ((l.map zd).length : Nat))]) (fun x H'=>Old H H' ∧ view H' 3 lv = some (l.map zd) ∧ x.1 ≤ l.length ∧ Owns H H' x.2 1 ((zW (l.take x.1)).map zO)) (fun x=>l.length - x.1) (0,.lst (some true) 0 []) rfl ⟨Old.refl _,hv,by simp,.inl ⟨rfl,rfl⟩⟩ (fun ⟨i,v⟩ H1 ⟨hO,hv1,hi,ho⟩=>?_)
  dsimp only at hi ho ⊢
  by_cases hlt : i < l.length
  ·obtain ⟨f,hf⟩ : ∃ f,l[i]? = some f:=⟨_,List.getElem?_eq_getElem hlt⟩
   have hfm : (l.map zd)[i]? = some (zd f):=by rw [List.getElem?_map,hf]; rfl
   have hfo:=hok f (List.mem_of_getElem? hf)
   have he:=hE f hfo
   have hlt2:=zH8 (l.take (i + 1)) fun g hg=>hok g (List.mem_of_mem_take hg)
   have hll : (l.take (i + 1)).length ≤ 200:=by rw [List.length_take]; omega
   have hvo : view ((H1 ++ [ABlk.box [.int .i64 0,.int .i64 0,AV.str []]]).set (List.length H1) (ABlk.box (zd f).cells)) 3 lv = some (l.map zd):=zH2 (((Old.refl H1).push _).set (Nat.le_refl _) _) hv1
   rw [entsB_take l i f hf,List.length_append] at hlt2
   refine zi tT ?_; refine zFa i (zd f) hv1 rfl hfm (fun p hp=>?_)
   refine zBg (zd f) hp rfl <| zG (v:=zd f) (AV.cells (zd f)) zD rfl rfl rfl rfl <| zC (zd f) (zE zD) rfl <| zI (he _) ?_; refine zGp (H0:=H) (ys:=(zGc f).map zO) (ho.pushSet _ _) (hO.pushSet _ _) (bsV_view (zGc f) _) (by decide) (by simp only [List.length_map]; omega) (by simp [zGc,zH7]) (fun v' H' ho' hO' _ hfr=>?_)
   refine zj (r:=i + 1) rfl tO ?_; refine zBz (i + 1,v') rfl ⟨hO', ?_,by simp only; omega, ?_⟩ (by simp only; omega)
   ·exact zH2 hO' hv
   ·rw [← List.map_append,← entsB_take l i f hf] at ho'
    exact ho'
  ·have he : l.take i = l:=List.take_of_length_le tO
   rw [he] at ho
   refine zc tF ?_
   obtain ⟨H3,hz,hO3,_⟩:=ho.frz hO
   exact sRetF rfl rfl (frz_pair hz fun _=>rfl) (by show (AV.tup [lstF 1 _,.nili]).bel _ = true; generalize (zW l).map zO = xs; cases xs <;> rfl) hO3
 ·rw [if_neg h0]
  have he : eV (zBD l) = zEJ (zBD l : Nat):=by unfold eV; rw [if_neg h0]
  rw [he] at hg ⊢
  clear hE
  refine zI hg <| zT rfl <| zH ?_
  exact sRr
end
end Go.AM
namespace Go.AM
theorem withS_nil (c r : Int) : zCC [] c r [] = []:=by simp [zCC]
def opV (q : Bool) (l : List Fil) : AV:=.lst (some q) (if q = true then 0 else 3) (l.map zd)
theorem withV_op (q : Bool) (l : List Fil) (hq : q = true → l = []) (c r : Int) (t : Bs) : (if q = true ∧ t = [] then AV.lst (some true) 0 [] else .lst (some false) 3 ((zCC l c r t).map zd)) = opV (q && decide (t = [])) (zCC l c r t):=by
 by_cases h : q = true ∧ t = []
 ·obtain ⟨rfl,rfl⟩:=h
  rw [hq rfl,withS_nil]
  rfl
 ·rw [if_neg h]
  have : (q && decide (t = [])) = false:=by
   cases q
   ·rfl
   ·simp only [true_and] at h
    simp [h]
  rw [this]
  rfl
theorem with_q {q : Bool} {l : List Fil} (hq : q = true → l = []) (c r : Int) (t : Bs) : (q && decide (t = [])) = true → zCC l c r t = []:=by
 intro h
 simp only [Bool.and_eq_true,decide_eq_true_eq] at h
 rw [hq h.1,h.2,withS_nil]
theorem zE6 (q : Bool) (l : List Fil) (hq : q = true → l = []) (H : Heap) : view H 3 (opV q l) = some (l.map zd):=by
 cases q with
 | true=>rw [hq rfl]; simp [opV,view]
 | false=>simp [opV,view]
end Go.AM
namespace Go.AM
def bAt (b : Bs) (i : Nat) : UInt8:=b.getD i 0
theorem bAt_get {b : Bs} {i : Nat} (h : i < b.length) : b[i]? = some (bAt b i):=by
 rw [List.getElem?_eq_getElem h]
 simp [bAt,List.getD,List.getElem?_eq_getElem h]
theorem zJM {b : Bs} {i : Nat} (h : i < b.length) : (b.map zO)[i]? = some (zO (bAt b i)):=by rw [List.getElem?_map,bAt_get h]; rfl
def zAn (b : Bs) (a : Nat) : Nat:=(bAt b (a + 2)).toNat
theorem lenAt_lt (b : Bs) (a : Nat) : zAn b a < 256:=UInt8.toNat_lt _
def zz (b : Bs) (a : Nat) : Fil:=⟨((bAt b a).toNat : Int),((bAt b (a + 1)).toNat : Int),(b.take (a + 3 + zAn b a)).drop (a + 3)⟩
def zJN (b : Bs) (a : Nat) : Bs:=(b.take (a + 3 + zAn b a)).drop a
def zFl (b : Bs) (a : Nat) : Nat:=sumN 1 (zJN b a)
theorem sumAt_lt (b : Bs) (a : Nat) : zFl b a < 65521:=sumN_lt _ _ (by decide)
def stepS (b : Bs) (a : Nat) (l : List Fil) : Bool:=decide (a + 5 ≤ b.length ∧ a + 5 + zAn b a ≤ b.length ∧ bAt b (a + 3 + zAn b a) = u8N (zFl b a % 256) ∧ bAt b (a + 4 + zAn b a) = u8N (zFl b a / 256) ∧ mayN (zz b a) = 0 ∧ (zCC l (zz b a).col (zz b a).row (zz b a).text).length ≤ 200)
def zEw (b : Bs) : Nat → Nat → List Fil → Bool → List Fil × Nat × Bool
 | 0,a,l,q=>(l,a,q)
 | k + 1,a,l,q=>if stepS b a l = true then zEw b k (a + 5 + zAn b a) (zCC l (zz b a).col (zz b a).row (zz b a).text) (q && decide ((zz b a).text = [])) else (l,a,q)
def zA1 (b : Bs) : List Fil × Nat × Bool:=zEw b b.length 0 [] true
theorem openG_no {b : Bs} {a : Nat} {l : List Fil} (h : stepS b a l = false) (q : Bool) (k : Nat) : zEw b k a l q = (l,a,q):=by
 cases k with
 | zero=>rfl
 | succ k=>rw [zEw,if_neg (by rw [h]; decide)]
theorem openG_go {b : Bs} {a : Nat} {l : List Fil} (h : stepS b a l = true) {q : Bool} {R : List Fil × Nat × Bool} (hk : ∃ k,b.length - a ≤ k ∧ zEw b k a l q = R) :
  ∃ k,b.length - (a + 5 + zAn b a) ≤ k ∧ zEw b k (a + 5 + zAn b a) (zCC l (zz b a).col (zz b a).row (zz b a).text) (q && decide ((zz b a).text = [])) = R:=by
 obtain ⟨k,h1,h2⟩:=hk
 have h':=h
 simp only [stepS,decide_eq_true_eq] at h'
 match k,h1,h2 with
 | 0,h1,_=>omega
 | k + 1,h1,h2=>
  rw [zEw,if_pos h] at h2
  exact ⟨k,by omega,h2⟩
theorem headAt_len (b : Bs) (a : Nat) : (zJN b a).length ≤ 3 + zAn b a:=by unfold zJN; rw [List.length_drop,List.length_take]; omega
end Go.AM
