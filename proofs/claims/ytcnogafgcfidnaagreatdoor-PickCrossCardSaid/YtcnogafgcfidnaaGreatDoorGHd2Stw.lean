/- Several texts of mine in one (Hd2, Hd3, Owe, T3, Stw). Own work. -/
import Derived.Test.YtcnogafgcfidnaaGreatDoorGCmpTwo
import Derived.Test.YtcnogafgcfidnaaGreatDoorGAddHd1
import Derived.Test.YtcnogafgcfidnaaGreatDoorGValStb
import Derived.Test.YtcnogafgcfidnaaGreatDoorGAm22Am30
import Derived.Test.YtcnogafgcfidnaaGreatDoorGRtwErr
set_option linter.all false
set_option maxRecDepth 20000
namespace Go.AM
abbrev SoH (C : CSpec) : Prop:=∀ (b : Nat) (xs : List Val) H,H[b]? = some (.row 3 (xs.map zB)) → xs ≠ [] → xs.length ≤ 1000 → C zU [.sl (some true) b 3 0 xs.length,.fn zBF [] []] H (.tup []) (H.set b (.row 3 ((zAq xs).map zB)))
abbrev So0H (C : CSpec) : Prop:=∀ H,C zU [.lst (some true) 0 [],.fn zBF [] []] H (.tup []) H
abbrev Co0H (C : CSpec) : Prop:=∀ H,C zO [.lst (some true) 0 []] H (.lst (some true) 0 []) H
abbrev CoH (C : CSpec) : Prop:=∀ (b : Nat) (xs : List Val) H,H[b]? = some (.row 3 (xs.map zB)) → xs ≠ [] → xs.length ≤ 1000 → C zO [.sl (some true) b 3 0 xs.length] H (.sl (some true) b 3 0 (zE xs).length) (H.set b (.row 3 ((zLC xs).map zB)))
theorem zBo {t : List Row} {i j : Nat} {r : Row} (hr : t[i]? = some r) (hj : j < r.length) : r[j]? = some (zb t (j : Int) i):=by
 unfold zb
 rw [List.getD_eq_getElem?_getD (l:=t),hr]
 simp [hj]
theorem zNb {t : List Row} {c : Int} {i : Nat} (h : i < t.length) : (zJl t c).take (i + 1) = (zJl t c).take i ++ [zb t c i]:=by
 have : (zJl t c)[i]? = some (zb t c i):=by unfold zJl; rw [List.getElem?_map,List.getElem?_range h]; rfl
 rw [List.take_succ,this]; rfl
section
variable {C : CSpec} {GT : Nat → Option AV}
set_option maxHeartbeats 4000000 in
theorem zOv (hS : SoH C) (hS0 : So0H C) (hC0 : Co0H C) (hC : CoH C) (tv : AV) (t : List Row) (c : Nat) (H : Heap) (ht : zAS H tv t) (hl : t.length ≤ 60) (hin : ∀ (i : Nat) (r : Row),t[i]? = some r → c < r.length) :
  EFun C GT zFc [tv,zJ (c : Int)] H (zC3 3 ((zp t c).map zB)) H:=by
 obtain ⟨rows,hrv,hrl,hrg⟩:=ht
 obtain ⟨F,hF⟩ : ∃ F,zJl t (c : Int) = F:=⟨_,rfl⟩
 have hFl : F.length = t.length:=by rw [← hF]; unfold zJl; simp
 refine zR ?_; refine zBN t.length hrv hrl ?_; refine zAV (fun x : Nat × AV=>[(10,zBf x.1),(1,zJ (c : Int)),(5,x.2),(8,tv),(9,zBf t.length)]) (fun x H'=>Old H H' ∧ x.1 ≤ t.length ∧ Owns H H' x.2 3 (((zJl t (c : Int)).take x.1).map zB)) (fun x=>t.length - x.1) (0,.lst (some true) 0 []) rfl ⟨Old.refl H,by simp,.inl ⟨rfl,by simp⟩⟩ (fun x H1 hi=>?_)
 obtain ⟨i,out⟩:=x
 obtain ⟨hO,hi,ho⟩:=hi
 dsimp only at hi ho ⊢
 have hv1:=zAI hO hrv
 by_cases hlt : i < t.length
 ·obtain ⟨r,hr⟩ : ∃ r,t[i]? = some r:=⟨_,List.getElem?_eq_getElem hlt⟩
  obtain ⟨x,hx,hxr⟩:=hrg i r hr
  have hj:=hin i r hr
  have hxj:=zBo hr hj
  have htk:=zNb (c:=(c : Int)) hlt
  have hpt : part x.cells 0 1 false = some x:=by obtain ⟨q,k,rfl,_⟩:=hxr; rfl
  have hxm : (r.map zB)[c]? = some (zB (zb t (c : Int) i)):=by rw [List.getElem?_map,hxj]; rfl
  obtain ⟨w,hw⟩ : ∃ w,zb t (c : Int) i = w:=⟨_,rfl⟩
  rw [hw] at hxm htk
  refine zGz tT ?_; refine zBZ i x hv1 rfl hx (fun p hp=>?_)
  refine zAB x hp hpt ?_; refine zAK c (zB w) hxr rfl hxm ?_; refine zh (zB w) rfl ?_; refine zAu (vs':=[zB w]) rfl rfl ?_; refine zCp (H0:=H) (ho.push _) (hO.push _) zAn tO (by simp only [List.length_map,List.length_take,List.length_cons,List.length_nil]; omega) (by simp) (fun v2 H3 ho2 hO2 _ hfr=>?_)
  refine zY (r:=i + 1) rfl tO ?_; refine zw (i + 1,v2) rfl ⟨hO2,by simp only; omega, ?_⟩ (by simp only; omega)
  simp only
  rw [htk,List.map_append]
  exact ho2
 ·have he : (zJl t (c : Int)).take i = F:=by rw [hF]; exact List.take_of_length_le tO
  rw [he] at ho
  refine zGg tF ?_
  rcases ho with ⟨rfl,hnil⟩ | ⟨b,rfl,hb0,hb,hne⟩
  ·have hF0 : F = []:=List.map_eq_nil_iff.1 hnil
   have hcs : zp t c = []:=by unfold zp; rw [hF,hF0,show zAq [] = [] from List.length_eq_zero_iff.1 (zBO []).length_eq]; rfl
   rw [hcs]
   refine zI (hS0 _) ?_; refine zI (hC0 _) ?_
   exact z2 rfl rfl rfl rfl hO
  ·have hFn : F ≠ []:=fun e=>hne (by rw [e]; rfl)
   have hbl:=(zg hb).1
   have hs:=hS b F H1 hb hFn tO
   have hsl : (zAq F).length = F.length:=(zBO F).length_eq
   have hsn : zAq F ≠ []:=fun e=>hFn (List.length_eq_zero_iff.1 (by rw [← hsl,e]; rfl))
   have hc:=hC b (zAq F) (H1.set b (.row 3 ((zAq F).map zB))) (List.getElem?_set_self hbl) hsn tO
   have hcs : zp t c = zE (zAq F):=by unfold zp; rw [hF]
   rw [List.length_map]
   rw [hsl,List.set_set] at hc
   have hcn : (zp t c).map zB ≠ []:=by
    rw [hcs]
    intro e
    have e:=List.map_eq_nil_iff.1 e
    obtain ⟨z,r,hz⟩:=List.exists_cons_of_ne_nil hsn
    have:=(zBc (zAq F) z).2 (by rw [hz]; simp)
    rw [e] at this; simp at this
   have hfz : zCl H.length (.sl (some true) b 3 0 (zE (zAq F)).length) (H1.set b (.row 3 ((zLC (zAq F)).map zB))) = some (zC3 3 ((zp t c).map zB),(H1.set b (.row 3 ((zLC (zAq F)).map zB))).set b (.frz 3 ((zLC (zAq F)).map zB))):=by
    simp only [zCl]
    rw [if_neg tO,List.getElem?_set_self hbl]
    have hle : 0 + (zE (zAq F)).length ≤ ((zLC (zAq F)).map zB).length:=by unfold zLC; simp
    have htk : (((zLC (zAq F)).map zB).drop 0).take (zE (zAq F)).length = (zp t c).map zB:=by
     rw [List.drop_zero,← List.map_take,hcs]
     unfold zLC
     rw [List.take_left]
    simp only [true_and,if_pos hle,htk]
    rw [hcs] at hcn ⊢
    cases hq : (zE (zAq F)).map zB with
    | nil=>exact absurd hq hcn
    | cons z r=>rfl
   refine zIM hs (fun h=>by cases h) ?_; refine zIM hc (fun h=>by cases h) ?_
   exact zKM rfl rfl hfz (zDf _ _ _) ((hO.set hb0 _).set hb0 _)
end
end Go.AM
set_option maxRecDepth 20000
namespace Go.AM
def zCi (ls : List (List Val)) : List AV:=ls.map fun l=>zC3 3 (l.map zB)
def zFh (t : List Row) (by_ over col : Int) : AV:=
 if zX t [by_,over,col] ≠ 0 then .tup [.lst (some true) 0 [],.lst (some true) 0 [],.lst (some true) 0 [],zPZ (zX t [by_,over,col])]
 else .tup [zC3 3 ((zp t by_).map zB),zC3 3 ((zp t over).map zB),zC3 1 (zCi (zEt t by_ over col (zp t by_) (zp t over))),.nili]
theorem Owns.old2 {H0 H H' : Heap} {v : AV} {k : Nat} {xs : List AV} (h : Owns H0 H v k xs) (hO : Old H H') : Owns H0 H' v k xs:=h.keep fun _ _ _ hx=>zBx hO hx
theorem zFL {t : List Row} {cols : List Int} (h : zX t cols = 0) {c : Int} (hc : c ∈ cols) : 0 ≤ c:=by
 unfold zX at h
 split at h
 ·omega
 split at h
 ·omega
 split at h
 ·omega
 rename_i h3
 simp only [List.any_eq_true,Bool.not_eq_true',not_exists,not_and,Bool.not_eq_false] at h3
 have:=h3 c hc
 simp only [colOK,Bool.and_eq_true,decide_eq_true_eq] at this
 omega
theorem zLE (n k : Nat) (xs : List AV) (H : Heap) : zCl n (zC3 k xs) H = some (zC3 k xs,H):=by cases xs <;> rfl
theorem zNc {t : List Row} {c d : Int} (h : zp t c ≠ []) : zp t d ≠ []:=by
 intro e
 have ht : t ≠ []:=fun e=>h (by subst e; unfold zp zJl; rw [show zAq ((List.range ([] : List Row).length).map (zb [] c)) = [] from List.length_eq_zero_iff.1 (by rw [(zBO _).length_eq]; rfl)]; rfl)
 obtain ⟨r,rs,rfl⟩:=List.exists_cons_of_ne_nil ht
 have h1 : zb (r :: rs) d 0 ∈ zJl (r :: rs) d:=List.mem_map_of_mem (List.mem_range.2 (by simp))
 have h2:=(zBc _ _).2 ((zBO _).mem_iff.2 h1)
 unfold zp at e
 rw [e] at h2
 simp at h2
section
variable {C : CSpec} {GT : Nat → Option AV}
set_option maxHeartbeats 16000000 in
theorem zOw (hCs : ∀ tv cv t cols H,zAS H tv t → view H 1 cv = some (cols.map zJ) → C zBS [tv,cv] H (zPZ (zX t cols)) H)
  (hHd : ∀ tv t (c : Nat) H,zAS H tv t → t.length ≤ 60 → (∀ (i : Nat) (r : Row),t[i]? = some r → c < r.length) → C zBa [tv,zJ (c : Int)] H (zC3 3 ((zp t c).map zB)) H)
  (hSm : ∀ lv (l : List Val) H,view H 3 lv = some (l.map zB) → l.length ≤ 1000 → C zDg [lv] H (zB (zEJ l)) H)
  (tv : AV) (t : List Row) (by_ over col : Int) (H : Heap) (ht : zAS H tv t) : EFun C GT zFb [tv,zJ by_,zJ over,zJ col] H (zFh t by_ over col) H:=by
 have h1:=hCs tv (.sl (some false) H.length 1 0 3) t [by_,over,col] (H ++ [.row 1 [zJ by_,zJ over,zJ col]]) (ht.old ((Old.refl H).push _)) zAn
 unfold zFh
 by_cases he : zX t [by_,over,col] = 0
 case neg=>
  obtain ⟨n,hn⟩ : ∃ n,zX t [by_,over,col] = n + 1:=⟨zX t [by_,over,col] - 1,by omega⟩
  rw [if_pos he]
  rw [hn] at h1 ⊢
  clear hCs hHd hSm
  refine zR ?_; refine zAu (vs':=[zJ by_,zJ over,zJ col]) rfl rfl ?_; refine zI h1 ?_; refine zA9 rfl ?_; refine zM ?_
  exact z2 rfl rfl rfl rfl ((Old.refl _).push _)
 rw [if_neg tO]
 rw [he] at h1
 obtain ⟨h60,_,_,hcol⟩:=zK8 he
 obtain ⟨b,rfl⟩ : ∃ b : Nat,by_ = b:=⟨by_.toNat,by have:=zFL he (c:=by_) (by simp); omega⟩
 obtain ⟨o,rfl⟩ : ∃ o : Nat,over = o:=⟨over.toNat,by have:=zFL he (c:=over) (by simp); omega⟩
 obtain ⟨c,rfl⟩ : ∃ c : Nat,col = c:=⟨col.toNat,by have:=zFL he (c:=col) (by simp); omega⟩
 have inb : ∀ (i : Nat) (r : Row),t[i]? = some r → b < r.length:=fun i r hr=>by have:=hcol i r hr (b : Int) (by simp); omega
 have ino : ∀ (i : Nat) (r : Row),t[i]? = some r → o < r.length:=fun i r hr=>by have:=hcol i r hr (o : Int) (by simp); omega
 have inc : ∀ (i : Nat) (r : Row),t[i]? = some r → c < r.length:=fun i r hr=>by have:=hcol i r hr (c : Int) (by simp); omega
 have g1:=fun (H' : Heap) (h : Old H H')=>hHd tv t b H' (ht.old h) h60 inb
 have g2:=fun (H' : Heap) (h : Old H H')=>hHd tv t o H' (ht.old h) h60 ino
 have hba : zp t (b : Int) ≠ [] → zp t (o : Int) ≠ []:=zNc
 have hla:=zDi t (b : Int)
 have hlb:=zDi t (o : Int)
 obtain ⟨A,hA⟩ : ∃ A,zp t (b : Int) = A:=⟨_,rfl⟩
 obtain ⟨B,hB⟩ : ∃ B,zp t (o : Int) = B:=⟨_,rfl⟩
 rw [hA] at g1 hba hla ⊢
 rw [hB] at g2 hba hlb ⊢
 clear hCs hHd
 obtain ⟨rows,hrv,hrl,hrg⟩:=ht
 have la : (A.map zB).length = A.length:=List.length_map _
 have lb : (B.map zB).length = B.length:=List.length_map _
 obtain ⟨av,hav⟩ : ∃ av,zC3 3 (A.map zB) = av:=⟨_,rfl⟩
 obtain ⟨bv,hbv⟩ : ∃ bv,zC3 3 (B.map zB) = bv:=⟨_,rfl⟩
 have haO : zAv av 3 (A.map zB):=hav ▸ zEE _ _
 have hbO : zAv bv 3 (B.map zB):=hbv ▸ zEE _ _
 have fa : ∀ n H,zCl n av H = some (av,H):=fun n H=>hav ▸ zLE _ _ _ _
 have fb : ∀ n H,zCl n bv H = some (bv,H):=fun n H=>hbv ▸ zLE _ _ _ _
 have ba : ∀ n,av.bel n = true:=fun n=>hav ▸ zDf _ _ _
 have bb : ∀ n,bv.bel n = true:=fun n=>hbv ▸ zDf _ _ _
 rw [hav] at g1 ⊢
 rw [hbv] at g2 ⊢
 obtain ⟨X,hX⟩ : ∃ X,zEt t (b : Int) (o : Int) (c : Int) A B = X:=⟨_,rfl⟩
 have hXl : X.length = A.length:=by rw [← hX]; unfold zEt; simp
 rw [hX]
 refine zR ?_; refine zAu (vs':=[zJ (b : Int),zJ (o : Int),zJ (c : Int)]) rfl rfl ?_; refine zI h1 ?_; refine zA9 rfl ?_; refine zK ?_; refine zI (g1 _ ((Old.refl H).push _)) ?_; refine zI (g2 _ ((Old.refl H).push _)) ?_; refine zu A.length haO la ?_; refine zAV (fun x : Nat × AV=>[(3,zJ (c : Int)),(2,zJ (o : Int)),(1,zJ (b : Int)),(0,tv),(41,zBf x.1),(15,x.2),(14,bv),(39,av),(13,av),(40,zBf A.length)]) (fun x H'=>Old H H' ∧ x.1 ≤ A.length ∧ Owns H H' x.2 1 (zCi (X.take x.1))) (fun x=>A.length - x.1) (0,.lst (some true) 0 []) rfl ⟨(Old.refl H).push _,by simp,.inl ⟨rfl,by simp [zCi]⟩⟩ (fun x H1 hi=>?_)
 obtain ⟨i,out⟩:=x
 obtain ⟨hO,hi,ho⟩:=hi
 dsimp only at hi ho ⊢
 by_cases hlt : i < A.length
 case neg=>
  have hil : X.take i = X:=List.take_of_length_le tO
  rw [hil] at ho
  obtain ⟨H5,hf5,hO5,_⟩:=ho.frz hO
  refine zGg tF ?_
  exact zKM (v0:=.tup [av,bv,out,.nili]) rfl rfl (by simp only [zCl,zMX,fa,fb,hf5]) (by simp [AV.bel,AV.belL,zDf,ba,bb]) hO5
 obtain ⟨x,hx⟩ : ∃ x,A[i]? = some x:=⟨_,List.getElem?_eq_getElem hlt⟩
 have hxm : (A.map zB)[i]? = some (zB x):=by rw [List.getElem?_map,hx]; rfl
 have hXi : X.take (i + 1) = X.take i ++ [zHM t (b : Int) (o : Int) (c : Int) x B]:=by
  have : X[i]? = some (zHM t (b : Int) (o : Int) (c : Int) x B):=by rw [← hX]; unfold zEt; rw [List.getElem?_map,hx]; rfl
  rw [List.take_succ,this]; rfl
 have hBn : B ≠ []:=hba fun e=>by rw [e] at hlt; simp at hlt
 refine zGz tT ?_; refine zAK i (zB x) haO rfl hxm ?_; refine zh (zB x) rfl ?_; refine zS (v:=zB x) (AV.cells (zB x)) zA rfl rfl rfl rfl ?_; refine zu B.length hbO lb ?_
 obtain ⟨Hx,hHx⟩ : ∃ Hx,List.set (H1 ++ [ABlk.box [AV.int IntKind.i64 0,AV.int IntKind.i64 0,AV.str []]]) (List.length H1) (ABlk.box (zB x).cells) = Hx:=⟨_,rfl⟩
 have hOx : Old H1 Hx:=hHx ▸ (Old.refl H1).pushSet _ _
 have hbx : Hx[H1.length]? = some (.box (zB x).cells):=hHx ▸ zN zA
 have hox : Owns H Hx out 1 (zCi (X.take i)):=hHx ▸ ho.pushSet _ _
 have hlx : H1.length < Hx.length:=(zg hbx).1
 rw [hHx]
 clear hHx
 obtain ⟨L,hL⟩ : ∃ L,zHM t (b : Int) (o : Int) (c : Int) x B = L:=⟨_,rfl⟩
 have hLl : L.length = B.length:=by rw [← hL]; unfold zHM; simp
 rw [hL] at hXi
 refine zAV (fun y : Nat × AV=>[(3,zJ (c : Int)),(2,zJ (o : Int)),(17,.ref H1.length 0 0 0),(1,zJ (b : Int)),(47,zBf y.1),(18,y.2),(0,tv),(45,bv),(14,bv),(39,av),(13,av),(40,zBf A.length),(41,zBf i),(15,out),(46,zBf B.length)]) (fun y H'=>Old Hx H' ∧ y.1 ≤ B.length ∧ Owns Hx H' y.2 3 ((L.take y.1).map zB)) (fun y=>B.length - y.1) (0,.lst (some true) 0 []) rfl ⟨Old.refl _,by simp,.inl ⟨rfl,by simp⟩⟩ (fun y H2 hi2=>?_)
 obtain ⟨k,line⟩:=y
 obtain ⟨hO2,hk,hl2⟩:=hi2
 dsimp only at hk hl2 ⊢
 have hO12 : Old H H2:=(hO.trans hOx).trans hO2
 by_cases hkl : k < B.length
 case neg=>
  have hkL : L.take k = L:=List.take_of_length_le tO
  rw [hkL] at hl2
  have hLn : L.map zB ≠ []:=fun e=>by
   have:=congrArg List.length e
   rw [List.length_map,hLl] at this
   exact hBn (List.length_eq_zero_iff.1 this)
  refine zGg tF ?_; refine zQy (H0:=H) (hox.old2 hO2) (hl2.weaken (by have:=hO.1; omega)) hLn (fun z hz e=>by have h5:=(hox.lt hz).2; have h6:=(hl2.lt e).1; omega) hO12 tO (by simp only [zCi,List.length_map,List.length_take]; omega) (fun s0 H3 v2 H4 ho4 hO4 _=>?_)
  refine zY (r:=i + 1) rfl tO ?_; refine zw (i + 1,v2) rfl ⟨hO4,by simp only; omega, ?_⟩ (by simp only; omega)
  simp only
  rw [hXi]
  unfold zCi at ho4 ⊢
  rw [List.map_append]
  exact ho4
 obtain ⟨y,hy⟩ : ∃ y,B[k]? = some y:=⟨_,List.getElem?_eq_getElem hkl⟩
 have hym : (B.map zB)[k]? = some (zB y):=by rw [List.getElem?_map,hy]; rfl
 have hLk : L.take (k + 1) = L.take k ++ [zEJ (zJy t (b : Int) (o : Int) (c : Int) x y t.length)]:=by
  have : L[k]? = some (zEJ (zJy t (b : Int) (o : Int) (c : Int) x y t.length)):=by rw [← hL]; unfold zHM; rw [List.getElem?_map,hy]; rfl
  rw [List.take_succ,this]; rfl
 have hbx2 : H2[H1.length]? = some (.box (zB x).cells):=zBx hO2 hbx
 refine zGz tT ?_; refine zAK k (zB y) hbO rfl hym ?_; refine zh (zB y) rfl ?_; refine zS (v:=zB y) (AV.cells (zB y)) zA rfl rfl rfl rfl ?_
 obtain ⟨Hy,hHy⟩ : ∃ Hy,List.set (H2 ++ [ABlk.box [AV.int IntKind.i64 0,AV.int IntKind.i64 0,AV.str []]]) (List.length H2) (ABlk.box (zB y).cells) = Hy:=⟨_,rfl⟩
 have hOy : Old H2 Hy:=hHy ▸ (Old.refl H2).pushSet _ _
 have hby : Hy[H2.length]? = some (.box (zB y).cells):=hHy ▸ zN zA
 rw [hHy]
 clear hHy
 refine zBN t.length (zAI hOy (zAI hO12 hrv)) hrl ?_
 have hbxy : Hy[H1.length]? = some (.box (zB x).cells):=zBx hOy hbx2
 obtain ⟨M,hM⟩ : ∃ M,(fun n=>zJy t (b : Int) (o : Int) (c : Int) x y n) = M:=⟨_,rfl⟩
 have hM0 : M 0 = []:=by rw [← hM]; rfl
 have hMl : ∀ n,(M n).length ≤ n:=fun n=>by rw [← hM]; exact zLD _ _ _ _ _ _ _
 have hMs : ∀ n,M (n + 1) = if zb t (b : Int) n = x ∧ zb t (o : Int) n = y then M n ++ [zb t (c : Int) n] else M n:=fun n=>by rw [← hM]; exact zJm _ _ _ _ _ _ _
 rw [show zJy t (b : Int) (o : Int) (c : Int) x y t.length = M t.length from congrFun hM _] at hLk
 clear hM
 refine zAV (fun z : Nat × AV=>[(53,zBf z.1),(3,zJ (c : Int)),(21,z.2),(20,.ref H2.length 0 0 0),(2,zJ (o : Int)),(17,.ref H1.length 0 0 0),(1,zJ (b : Int)),(51,tv),(0,tv),(45,bv),(14,bv),(39,av),(13,av),(40,zBf A.length),(41,zBf i),(15,out),(46,zBf B.length),(47,zBf k),(18,line),(52,zBf t.length)]) (fun z H'=>Old Hy H' ∧ z.1 ≤ t.length ∧ Owns Hy H' z.2 3 ((M z.1).map zB)) (fun z=>t.length - z.1) (0,.lst (some true) 0 []) rfl ⟨Old.refl _,by simp,.inl ⟨rfl,by simp [hM0]⟩⟩ (fun z H3 hi3=>?_)
 obtain ⟨r,all⟩:=z
 obtain ⟨hO3,hr,ha3⟩:=hi3
 dsimp only at hr ha3 ⊢
 have hO13 : Old H H3:=(hO12.trans hOy).trans hO3
 by_cases hrl3 : r < t.length
 case neg=>
  have e : r = t.length:=by omega
  subst e
  have hs:=hSm all (M t.length) H3 ha3.view (by have:=hMl t.length; omega)
  have hl3 : Owns Hx H3 line 3 ((L.take k).map zB):=hl2.old2 (hOy.trans hO3)
  have hO23 : Old Hx H3:=(hO2.trans hOy).trans hO3
  refine zGg tF ?_; refine zI hs ?_; refine zAu (vs':=[zB (zEJ (M t.length))]) rfl rfl ?_; refine zCp (H0:=Hx) (hl3.push _) (hO23.push _) zAn tO (by simp only [List.length_map,List.length_take,List.length_cons,List.length_nil]; omega) (by simp) (fun v2 H4 ho4 hO4 _ hfr=>?_)
  refine zY (r:=k + 1) rfl tO ?_; refine zw (k + 1,v2) rfl ⟨hO4,by simp only; omega, ?_⟩ (by simp only; omega)
  simp only
  rw [hLk,List.map_append]
  exact ho4
 obtain ⟨row,hrow⟩ : ∃ row,t[r]? = some row:=⟨_,List.getElem?_eq_getElem hrl3⟩
 obtain ⟨xr,hxr,hxR⟩:=hrg r row hrow
 have hpt : part xr.cells 0 1 false = some xr:=by obtain ⟨q,k,rfl,_⟩:=hxR; rfl
 have cb:=zBo hrow (inb r row hrow)
 have co:=zBo hrow (ino r row hrow)
 have cc:=zBo hrow (inc r row hrow)
 have hMr:=hMs r
 obtain ⟨vb,hvb⟩ : ∃ v,zb t (b : Int) r = v:=⟨_,rfl⟩
 obtain ⟨vo,hvo⟩ : ∃ v,zb t (o : Int) r = v:=⟨_,rfl⟩
 obtain ⟨vc,hvc⟩ : ∃ v,zb t (c : Int) r = v:=⟨_,rfl⟩
 rw [hvb] at cb hMr
 rw [hvo] at co hMr
 rw [hvc] at cc hMr
 have mb : (row.map zB)[b]? = some (zB vb):=by rw [List.getElem?_map,cb]; rfl
 have mo : (row.map zB)[o]? = some (zB vo):=by rw [List.getElem?_map,co]; rfl
 have mc : (row.map zB)[c]? = some (zB vc):=by rw [List.getElem?_map,cc]; rfl
 have hbx3 : H3[H1.length]? = some (.box (zB x).cells):=zBx hO3 hbxy
 have hby3 : H3[H2.length]? = some (.box (zB y).cells):=zBx hO3 hby
 have hv3:=zAI hO13 hrv
 have eb:=zB4 vb x
 have eo:=zB4 vo y
 refine zGz tT ?_; refine zBZ r xr hv3 rfl hxr (fun p hp=>?_)
 refine zAB xr hp hpt ?_; refine zAK b (zB vb) hxR rfl mb ?_; refine zh (zB vb) rfl ?_; refine zD (zB x) hbx3 rfl ?_; refine zA9 eb ?_
 by_cases e1 : vb = x
 ·rw [decide_eq_true e1]
  refine zM ?_; refine zAK o (zB vo) hxR rfl mo ?_; refine zh (zB vo) rfl ?_; refine zD (zB y) hby3 rfl ?_; refine zA9 eo ?_
  by_cases e2 : vo = y
  ·rw [decide_eq_true e2]
   rw [if_pos ⟨e1,e2⟩] at hMr
   refine zM ?_; refine zM ?_; refine zAK c (zB vc) hxR rfl mc ?_; refine zh (zB vc) rfl ?_; refine zAu (vs':=[zB vc]) rfl rfl ?_; refine zCp (H0:=Hy) (ha3.push _) (hO3.push _) zAn tO (by have:=hMl r; simp only [List.length_map,List.length_cons,List.length_nil]; omega) (by simp) (fun v2 H4 ho4 hO4 _ hfr=>?_)
   refine zY (r:=r + 1) rfl tO ?_; refine zw (r + 1,v2) rfl ⟨hO4,by simp only; omega, ?_⟩ (by simp only; omega)
   simp only
   rw [hMr,List.map_append]
   exact ho4
  ·rw [decide_eq_false e2]
   rw [if_neg (fun h=>e2 h.2)] at hMr
   refine zM ?_; refine zK ?_; refine zY (r:=r + 1) rfl tO ?_; refine zw (r + 1,all) rfl ⟨hO3,by simp only; omega, ?_⟩ (by simp only; omega)
   simp only
   rw [hMr]
   exact ha3
 ·rw [decide_eq_false e1]
  rw [if_neg (fun h=>e1 h.1)] at hMr
  refine zK ?_; refine zK ?_; refine zK ?_; refine zY (r:=r + 1) rfl tO ?_; refine zw (r + 1,all) rfl ⟨hO3,by simp only; omega, ?_⟩ (by simp only; omega)
  simp only
  rw [hMr]
  exact ha3
end
end Go.AM
set_option maxRecDepth 20000
namespace Go.AM
def zEu (H0 H : Heap) (v : AV) (k : Nat) (xs : List AV) : Prop:=
 (v = .lst (some true) 0 [] ∧ xs = []) ∨ ∃ b,v = .sl (some true) b k 0 xs.length ∧ H0.length ≤ b ∧ H[b]? = some (.row k xs)
theorem zEu.nil (H0 H : Heap) (k : Nat) : zEu H0 H (.lst (some true) 0 []) k []:=.inl ⟨rfl,rfl⟩
theorem zEu.toOwns {H0 H : Heap} {v : AV} {k : Nat} {xs : List AV} (h : zEu H0 H v k xs) (hx : xs ≠ []) : Owns H0 H v k xs:=by
 rcases h with ⟨_,h⟩ | ⟨b,h1,h2,h3⟩
 ·exact absurd h hx
 ·exact .inr ⟨b,h1,h2,h3,hx⟩
theorem zEu.keep {H0 H H' : Heap} {v : AV} {k : Nat} {xs : List AV} (h : zEu H0 H v k xs) (hk : ∀ b x,v.blk = some b → H[b]? = some x → H'[b]? = some x) : zEu H0 H' v k xs:=by
 rcases h with h | ⟨b,rfl,h1,h2⟩
 ·exact .inl h
 ·exact .inr ⟨b,rfl,h1,hk b _ rfl h2⟩
theorem zEu.push {H0 H : Heap} {v : AV} {k : Nat} {xs : List AV} (h : zEu H0 H v k xs) (x : ABlk) : zEu H0 (H ++ [x]) v k xs:=h.keep fun _ _ _ hx=>zF hx
theorem zDj {H0 H : Heap} {v y : AV} {k bytes : Nat} {xs ys : List AV} {K : AV → Heap → Prop} (ho : zEu H0 H v k xs) (hH : Old H0 H) (hy : view H k y = some ys) (hm : (xs.length + ys.length) * bytes ≤ 140737488355328) (hl : xs.length + ys.length ≤ 9223372036854775807)
  (q : ∀ v' H',zEu H0 H' v' k (xs ++ ys) → Old H0 H' → v'.blk = some H.length → (∀ c x,v.blk ≠ some c → H[c]? = some x → H'[c]? = some x) → K v' H') : actP (.append k bytes) [v,y] H K:=by
 rcases ho with ⟨rfl,rfl⟩ | ⟨b,rfl,h1,h2⟩
 ·simp only [List.length_nil,Nat.zero_add] at hl hm
  refine zLo (v:=.sl (some true) H.length k 0 ys.length) (H':=H ++ [.row k ys]) ?_ ?_
  ·simp only [astep,hy]
   rw [if_pos ⟨by omega,by omega⟩]
  ·exact q _ _ (.inr ⟨_,rfl,hH.1,zA⟩) (hH.push _) rfl fun _ _ _ hx=>zF hx
 ·refine zLo (v:=.sl (some true) H.length k 0 (xs.length + ys.length)) (H':=H.set b .dead ++ [.row k (xs ++ ys)]) ?_ ?_
  ·simp only [astep,hy,h2]
   rw [if_pos ⟨trivial,trivial,by omega,by omega,by omega⟩]
   simp
  ·refine q _ _ (.inr ⟨_,by rw [List.length_append],hH.1, ?_⟩) ((hH.set h1 _).push _) rfl fun c x hc hx=>?_
   ·have : (H.set b .dead).length = H.length:=List.length_set
    rw [← this]; exact zA
   ·exact zF (zG (fun e=>hc (by rw [e]; rfl)) hx)
theorem zLF {H0 H : Heap} {v : AV} {w : Nat} {xs : List AV} (h : Owns H0 H v w xs) {k : Nat} (hk : k ≤ xs.length) : ∃ v',zAN (some w) v none (some (.int .i64 (k : Int))) = some v' ∧ v'.blk = v.blk ∧ ∀ H',(∀ b x,v.blk = some b → H[b]? = some x → H'[b]? = some x) → view H' w v' = some (xs.take k):=by
 rcases h with ⟨rfl,rfl⟩ | ⟨b,rfl,h1,h2,h3⟩
 ·have : k = 0:=by simpa using hk
  subst this
  refine ⟨.lst (some true) 0 [],by simp [zAN,zAe,aHi,aLo,zH7],rfl,fun H' _=>by simp [view]⟩
 ·refine ⟨.sl (zPU (some true) 0 k) b w 0 k, ?_,rfl,fun H' hH'=>?_⟩
  ·have e : zAe xs.length none (some (.int .i64 (k : Int))) = some (0,k):=by
    simp only [zAe,aHi,aLo]
    rw [if_pos ⟨by omega,by omega⟩]
    simp
   simp only [zAN,if_true,e,Option.map_some,Nat.zero_add,Nat.sub_zero]
  ·have:=hH' b _ rfl h2
   simp only [view,if_true,this]
   rw [if_pos ⟨trivial,by omega⟩]
   simp
theorem zLG {H0 H : Heap} {v : AV} {w : Nat} {xs : List AV} (h : Owns H0 H v w xs) {k : Nat} (hk : k ≤ xs.length) : ∃ v',zAN (some w) v (some (.int .i64 (k : Int))) none = some v' ∧ v'.blk = v.blk ∧ ∀ H',(∀ b x,v.blk = some b → H[b]? = some x → H'[b]? = some x) → view H' w v' = some (xs.drop k):=by
 rcases h with ⟨rfl,rfl⟩ | ⟨b,rfl,h1,h2,h3⟩
 ·have : k = 0:=by simpa using hk
  subst this
  refine ⟨.lst (some true) 0 [],by simp [zAN,zAe,aHi,aLo,zH7],rfl,fun H' _=>by simp [view]⟩
 ·refine ⟨.sl (zPU (some true) k xs.length) b w k (xs.length - k), ?_,rfl,fun H' hH'=>?_⟩
  ·have e : zAe xs.length (some (.int .i64 (k : Int))) none = some (k,xs.length):=by
    simp only [zAe,aHi,aLo]
    rw [if_pos ⟨by omega,by omega⟩]
    simp
   simp only [zAN,if_true,e,Option.map_some,Nat.zero_add]
  ·have:=hH' b _ rfl h2
   simp only [view,if_true,this]
   rw [if_pos ⟨trivial,by omega⟩]
   rw [List.take_of_length_le (by rw [List.length_drop]; omega)]
theorem zIg (b : Nat) : AV.blk (.lst (some true) 0 []) ≠ some b:=by simp [AV.blk]
end Go.AM
namespace Go.AM
section
variable {C : CSpec} {GT : Nat → Option AV}
theorem zQ6 (v : Val) (H : Heap) : EFun C GT zFd [zB v] H (.bool (valOK v)) H:=by
 have hO : Old H (H ++ [ABlk.box [.int .i64 v.kind,.int .i64 v.num,.str v.text]]):=(Old.refl H).push _
 refine zK5 rfl ?_; refine zD (zJ v.kind) zA rfl ?_; refine zH (fun h0=>?_) (fun h0=>?_)
 ·refine zD (zJ v.num) zA rfl ?_; refine zH (fun h1=>?_) (fun h1=>?_)
  ·refine zD (.str v.text) zA rfl ?_; refine zM ?_
   have e : valOK v = (v.text == []):=by unfold valOK; rw [if_pos h0,h1,Bool.true_and]
   rw [e]; exact z2 rfl rfl rfl rfl hO
  ·refine zK ?_
   have e : valOK v = false:=by unfold valOK; rw [if_pos h0,h1,Bool.false_and]
   rw [e]; exact z2 rfl rfl rfl rfl hO
 have h0' : ¬ (v.kind == 0) = true:=by rw [h0]; simp
 refine zH (fun h2=>?_) (fun h2=>?_)
 ·refine zD (.str v.text) zA rfl ?_
  have e : valOK v = (v.text == []):=by unfold valOK; rw [if_neg h0',if_pos h2]
  rw [e]; exact z2 rfl rfl rfl rfl hO
 have h2' : ¬ (v.kind == 1) = true:=by rw [h2]; simp
 refine zH (fun h3=>?_) (fun h3=>?_)
 ·refine zD (zJ v.num) zA rfl ?_; refine zH (fun h1=>?_) (fun h1=>?_)
  ·refine zD (.str v.text) zA rfl ?_; refine zM ?_
   have e : valOK v = decide ((v.text.length : Int) ≤ 200):=by unfold valOK; rw [if_neg h0',if_neg h2',if_pos h3,h1,Bool.true_and]
   rw [e]; exact z2 rfl rfl rfl rfl hO
  ·refine zK ?_
   have e : valOK v = false:=by unfold valOK; rw [if_neg h0',if_neg h2',if_pos h3,h1,Bool.false_and]
   rw [e]; exact z2 rfl rfl rfl rfl hO
 have h3' : ¬ (v.kind == 2) = true:=by rw [h3]; simp
 refine zH (fun h4=>?_) (fun h4=>?_)
 ·refine zD (.str v.text) zA rfl ?_; refine zH (fun h1=>?_) (fun h1=>?_)
  ·refine zD (zJ v.num) zA rfl ?_; refine zH (fun h5=>?_) (fun h5=>?_)
   ·refine zM ?_; refine zM ?_
    have e : valOK v = true:=by unfold valOK; rw [if_neg h0',if_neg h2',if_neg h3',if_pos h4,h1,h5]; rfl
    rw [e]; exact z2 rfl rfl rfl rfl hO
   ·refine zD (zJ v.num) zA rfl ?_; refine zK ?_; refine zM ?_
    have e : valOK v = (v.num == 1):=by unfold valOK; rw [if_neg h0',if_neg h2',if_neg h3',if_pos h4,h1,h5,Bool.false_or,Bool.and_true]
    rw [e]; exact z2 rfl rfl rfl rfl hO
  ·refine zK ?_
   have e : valOK v = false:=by unfold valOK; rw [if_neg h0',if_neg h2',if_neg h3',if_pos h4,h1,Bool.and_false]
   rw [e]; exact z2 rfl rfl rfl rfl hO
 have h4' : ¬ (v.kind == 3) = true:=by rw [h4]; simp
 refine zH (fun h5=>?_) (fun h5=>?_)
 ·refine zD (.str v.text) zA rfl ?_; refine zH (fun h1=>?_) (fun h1=>?_)
  ·refine zD (zJ v.num) zA rfl ?_; refine zM ?_; refine zH (fun h6=>?_) (fun h6=>?_)
   ·refine zD (zJ v.num) zA rfl ?_; refine zM ?_
    have e : valOK v = decide (v.num ≤ 6):=by unfold valOK; rw [if_neg h0',if_neg h2',if_neg h3',if_neg h4',if_pos h5,h1,h6,Bool.true_and,Bool.and_true]
    rw [e]; exact z2 rfl rfl rfl rfl hO
   ·refine zK ?_
    have e : valOK v = false:=by unfold valOK; rw [if_neg h0',if_neg h2',if_neg h3',if_neg h4',if_pos h5,h6]; rfl
    rw [e]; exact z2 rfl rfl rfl rfl hO
  ·refine zK ?_; refine zK ?_; refine zK ?_
   have e : valOK v = false:=by unfold valOK; rw [if_neg h0',if_neg h2',if_neg h3',if_neg h4',if_pos h5,h1,Bool.and_false]
   rw [e]; exact z2 rfl rfl rfl rfl hO
 have h5' : ¬ (v.kind == 4) = true:=by rw [h5]; simp
 have e : valOK v = false:=by unfold valOK; rw [if_neg h0',if_neg h2',if_neg h3',if_neg h4',if_neg h5']
 rw [e]; exact z2 rfl rfl rfl rfl hO
theorem zNd (hC : ∀ v H,C zCF [zB v] H (.bool (valOK v)) H) (tv : AV) (t : List Row) (H : Heap) (ht : zAS H tv t) : EFun C GT zDS [tv] H (zBf (zk t)) H:=by
 obtain ⟨rows,hv,hl,hr⟩:=ht
 refine zBN t.length hv hl ?_; refine zH (fun h=>?_) (fun h=>?_)
 ·have e : zk t = 4:=by simp only [decide_eq_true_eq] at h; unfold zk; rw [if_pos tO]
  rw [e]; exact sRr
 simp only [decide_eq_false_iff_not] at h
 have h60 : ¬ 60 < t.length:=by omega
 refine zAV (σ:=Nat) (fun i=>[(3,.int .i64 i),(0,tv)]) (fun i H1=>H1 = H ∧ i ≤ t.length ∧ ∀ k r,k < i → t[k]? = some r → r.length ≤ 12) (fun i=>t.length - i) 0 rfl ⟨rfl,Nat.zero_le _,fun k r h=>absurd h (Nat.not_lt_zero _)⟩ (fun i H1 ⟨e,hi,h12⟩=>?_)
 subst e
 refine zBN t.length hv hl ?_; refine zH (fun hlt=>?_) (fun hlt=>?_)
 ·simp only [decide_eq_true_eq,Int.ofNat_lt] at hlt
  have hti : t[i]? = some t[i]:=List.getElem?_eq_getElem hlt
  obtain ⟨x,hx,hxr⟩:=hr i _ hti
  refine zBZ i x hv rfl hx (fun p hp=>?_)
  refine zAB x hp (by rw [hxr.cells]; rfl) ?_; refine zu t[i].length hxr (by simp) ?_; refine zH (fun hw=>?_) (fun hw=>?_)
  ·have e : zk t = 4:=by
    simp only [decide_eq_true_eq] at hw
    unfold zk; rw [if_neg h60,if_pos (zD2 hti (by simp only [decide_eq_true_eq]; omega))]
   rw [e]; exact sRr
  ·simp only [decide_eq_false_iff_not] at hw
   refine zY (r:=i + 1) rfl tO ?_; refine zw (i + 1) rfl ⟨rfl,by omega,fun k r hk hkr=>?_⟩ tO
   by_cases e : k = i
   ·subst e; rw [hti] at hkr; cases hkr; omega
   ·exact h12 k r tO hkr
 simp only [decide_eq_false_iff_not,Int.ofNat_lt] at hlt
 have e : i = t.length:=by omega
 subst e
 have n12 : (t.any fun r=>decide (12 < r.length)) = false:=zD3 fun k r hk hkr=>by have:=h12 k r hk hkr; simp only [decide_eq_false_iff_not]; omega
 clear hi hlt
 refine zAV (σ:=Nat) (fun i=>[(4,.int .i64 i),(0,tv)]) (fun i H1'=>H1' = H1 ∧ i ≤ t.length ∧ ∀ k r,k < i → t[k]? = some r → r.length = (t.headD []).length) (fun i=>t.length - i) 0 rfl ⟨rfl,Nat.zero_le _,fun k r h=>absurd h (Nat.not_lt_zero _)⟩ (fun i H1' ⟨e,hi,hw⟩=>?_)
 subst e
 refine zBN t.length hv hl ?_; refine zH (fun hlt=>?_) (fun hlt=>?_)
 ·simp only [decide_eq_true_eq,Int.ofNat_lt] at hlt
  have hti : t[i]? = some t[i]:=List.getElem?_eq_getElem hlt
  obtain ⟨x,hx,hxr⟩:=hr i _ hti
  have ht0 : t[0]? = some (t.headD []):=by cases t with
   | nil=>simp at hlt
   | cons r t=>rfl
  obtain ⟨x0,hx0,hxr0⟩:=hr 0 _ ht0
  refine zBZ i x hv rfl hx (fun p hp=>?_)
  refine zAB x hp (by rw [hxr.cells]; rfl) ?_; refine zu t[i].length hxr (by simp) ?_; refine zBZ 0 x0 hv rfl hx0 (fun p0 hp0=>?_)
  refine zAB x0 hp0 (by rw [hxr0.cells]; rfl) ?_; refine zu (t.headD []).length hxr0 (by simp) ?_; refine zH (fun hne=>?_) (fun hne=>?_)
  ·have e : zk t = 3:=by
    unfold zk; rw [if_neg h60,if_neg (by rw [n12]; simp),if_pos (zD2 hti ?_)]
    simp only [bne_iff_ne,ne_eq] at hne ⊢
    omega
   rw [e]; exact sRr
  ·simp only [bne_eq_false_iff_eq] at hne
   refine zY (r:=i + 1) rfl tO ?_; refine zw (i + 1) rfl ⟨rfl,by omega,fun k r hk hkr=>?_⟩ tO
   by_cases e : k = i
   ·subst e; rw [hti] at hkr; cases hkr; omega
   ·exact hw k r tO hkr
 simp only [decide_eq_false_iff_not,Int.ofNat_lt] at hlt
 have e : i = t.length:=by omega
 subst e
 have nw : (t.any fun r=>r.length != (t.headD []).length) = false:=zD3 fun k r hk hkr=>by rw [hw k r hk hkr]; simp
 clear hi hlt
 refine zAV (σ:=Nat) (fun i=>[(5,.int .i64 i),(0,tv)]) (fun i H2=>H2 = H1' ∧ i ≤ t.length ∧ ∀ k r,k < i → t[k]? = some r → ∀ v ∈ r,valOK v = true) (fun i=>t.length - i) 0 rfl ⟨rfl,Nat.zero_le _,fun k r h=>absurd h (Nat.not_lt_zero _)⟩ (fun i H2 ⟨e,hi,hok⟩=>?_)
 subst e
 refine zBN t.length hv hl ?_; refine zH (fun hlt=>?_) (fun hlt=>?_)
 ·simp only [decide_eq_true_eq,Int.ofNat_lt] at hlt
  have hti : t[i]? = some t[i]:=List.getElem?_eq_getElem hlt
  obtain ⟨x,hx,hxr⟩:=hr i _ hti
  have hrl:=h12 i _ hlt hti
  refine zAV (σ:=Nat) (fun j=>[(6,.int .i64 j),(5,.int .i64 i),(0,tv)]) (fun j H3=>H3 = H2 ∧ j ≤ t[i].length ∧ ∀ k v,k < j → t[i][k]? = some v → valOK v = true) (fun j=>t[i].length - j) 0 rfl ⟨rfl,Nat.zero_le _,fun k r h=>absurd h (Nat.not_lt_zero _)⟩ (fun j H3 ⟨e3,hj,hokj⟩=>?_)
  subst e3
  refine zBZ i x hv rfl hx (fun p hp=>?_)
  refine zAB x hp (by rw [hxr.cells]; rfl) ?_; refine zu t[i].length hxr (by simp) ?_; refine zH (fun hjl=>?_) (fun hjl=>?_)
  ·simp only [decide_eq_true_eq,Int.ofNat_lt] at hjl
   have hvj : t[i][j]? = some t[i][j]:=List.getElem?_eq_getElem hjl
   refine zBZ i x hv rfl hx (fun p hp=>?_)
   refine zAB x hp (by rw [hxr.cells]; rfl) ?_; refine zAK j (zB t[i][j]) hxr rfl (hxr.get [] hvj).2 ?_; refine zh (zB t[i][j]) rfl ?_; refine zI (hC t[i][j] _) ?_; refine zH (fun hb=>?_) (fun hb=>?_)
   ·have e : zk t = 1:=by
     unfold zk; rw [if_neg h60,if_neg (by rw [n12]; simp),if_neg (by rw [nw]; simp),if_pos (zD2 hti (zD2 hvj hb))]
    rw [e]; exact sRr
   ·refine zY (r:=j + 1) rfl tO ?_; refine zw (j + 1) rfl ⟨rfl,by omega,fun k v hk hkv=>?_⟩ tO
    by_cases e : k = j
    ·subst e; rw [hvj] at hkv; cases hkv; simpa using hb
    ·exact hokj k v tO hkv
  ·simp only [decide_eq_false_iff_not,Int.ofNat_lt] at hjl
   refine zY (r:=i + 1) rfl tO ?_; refine zw (i + 1) rfl ⟨rfl,by omega,fun k r hk hkr=>?_⟩ tO
   by_cases e : k = i
   ·subst e; rw [hti] at hkr; cases hkr
    intro v hv
    obtain ⟨m,hm⟩:=List.getElem?_of_mem hv
    exact hokj m v (by have:=(zg hm).1; omega) hm
   ·exact hok k r tO hkr
 simp only [decide_eq_false_iff_not,Int.ofNat_lt] at hlt
 have e : zk t = 0:=by
  unfold zk; rw [if_neg h60,if_neg (by rw [n12]; simp),if_neg (by rw [nw]; simp),if_neg ?_]
  rw [zD3 fun k r hk hkr=>?_]
  ·simp
  ·exact zD3 fun m v hm hmv=>by rw [hok k r tO hkr v (List.mem_of_getElem? hmv)]; rfl
 rw [e]; exact sRr
theorem zL8 (tv : AV) (t : List Row) (c : Int) (H : Heap) (ht : zAS H tv t) : EFun C GT zC7 [tv,zJ c] H (.bool (colOK t c)) H:=zJf tv t c H ht
theorem zKP (hK : ∀ tv t H,zAS H tv t → C zBC [tv] H (zBf (zk t)) H) (hL : ∀ tv t c H,zAS H tv t → C zA2 [tv,zJ c] H (.bool (colOK t c)) H)
  (tv cv : AV) (t : List Row) (cols : List Int) (H : Heap) (ht : zAS H tv t) (hc : view H 1 cv = some (cols.map zJ)) : EFun C GT zCc [tv,cv] H (zBf (zX t cols)) H:=by
 have hk:=hK tv t H ht
 refine zI hk ?_; refine zH (fun he=>?_) (fun he=>?_)
 ·have he' : zk t ≠ 0:=by simp only [bne_iff_ne,ne_eq] at he; omega
  have e : zX t cols = zk t:=by unfold zX; rw [if_pos he']
  rw [e]; exact sRr
 have he' : zk t = 0:=by simp only [bne_eq_false_iff_eq] at he; omega
 refine zBN cols.length hc (by simp) ?_; refine zH (fun h=>?_) (fun h=>?_)
 ·simp only [decide_eq_true_eq] at h
  have e : zX t cols = 4:=by unfold zX; rw [if_neg tO,if_pos tO]
  rw [e]; exact sRr
 simp only [decide_eq_false_iff_not] at h
 refine zAV (σ:=Nat) (fun i=>[(6,.int .i64 i),(1,cv),(0,tv)]) (fun i H1=>H1 = H ∧ i ≤ cols.length ∧ ∀ k c,k < i → cols[k]? = some c → colOK t c = true) (fun i=>cols.length - i) 0 rfl ⟨rfl,Nat.zero_le _,fun k r h=>absurd h (Nat.not_lt_zero _)⟩ (fun i H1 ⟨e,hi,hok⟩=>?_)
 subst e
 refine zBN cols.length hc (by simp) ?_; refine zH (fun hlt=>?_) (fun hlt=>?_)
 ·simp only [decide_eq_true_eq,Int.ofNat_lt] at hlt
  have hci : cols[i]? = some cols[i]:=List.getElem?_eq_getElem hlt
  refine zBZ i (zJ cols[i]) hc rfl (by rw [List.getElem?_map,hci]; rfl) (fun p hp=>?_)
  refine zAB (zJ cols[i]) hp rfl ?_; refine zI (hL tv t cols[i] _ ht) ?_; refine zH (fun hb=>?_) (fun hb=>?_)
  ·have e : zX t cols = 1:=by
    unfold zX; rw [if_neg tO,if_neg tO,if_pos (zD2 hci hb)]
   rw [e]; exact sRr
  ·refine zY (r:=i + 1) rfl tO ?_; refine zw (i + 1) rfl ⟨rfl,by omega,fun k c hk hkc=>?_⟩ tO
   by_cases e : k = i
   ·subst e; rw [hci] at hkc; cases hkc; simpa using hb
   ·exact hok k c tO hkc
 ·simp only [decide_eq_false_iff_not,Int.ofNat_lt] at hlt
  have e : zX t cols = 0:=by
   unfold zX; rw [if_neg tO,if_neg tO,if_neg ?_]
   rw [zD3 fun k c hk hkc=>by rw [hok k c tO hkc]; rfl]; simp
  rw [e]; exact sRr
end
end Go.AM
set_option maxRecDepth 20000
namespace Go.AM
def Below' (f : Nat → Nat) (n : Nat) : Prop:=∀ i,i < n → f i < n
theorem Below'.rot {f : Nat → Nat} {n a m b : Nat} (h : Below' f n) (ha : a ≤ m) (hm : m ≤ b) (hb : b ≤ n) : Below' (rotF f a m b) n:=by
 intro i hi
 unfold rotF
 split
 ·exact h _ tO
 ·split
  ·exact h _ tO
  ·exact h _ hi
theorem Below'.perm {f g : Nat → Nat} {n a b : Nat} (h : Below' f n) (p : zA0 f g a b) (hb : b ≤ n) : Below' g n:=by
 intro i hi
 by_cases e : a ≤ i ∧ i < b
 ·obtain ⟨j,h1,h2,h3⟩:=p.mem e.1 e.2
  rw [← h3]; exact h _ tO
 ·rw [p.1 i e]; exact h _ hi
section
variable {C : CSpec} {GT : Nat → Option AV}
def zQ7 (C : CSpec) (G : Heap) (b n : Nat) (g : FuncId) (caps : List AV) (cmp : Nat → Nat → Int) : Prop:=
 ∀ (f : Nat → Nat) (x y : Nat),x < n → y < n → C g ([nV x,nV y] ++ caps) (hpR G b n f) (.int .i64 (cmp x y)) (hpR G b n f)
structure SR where
 i : Nat
 j : Nat
 f : Nat → Nat
def mrgQ (G : Heap) (b n : Nat) (lt : Nat → Nat → Bool) (f : Nat → Nat) (a e : Nat) (v : AV) (H' : Heap) : Prop:=v = .tup [] ∧ ∃ f',H' = hpR G b n f' ∧ zA0 f f' a e ∧ zDC lt f' a e
structure MrgOK (n : Nat) (lt : Nat → Nat → Bool) (f : Nat → Nat) (a m e : Nat) : Prop where
 am : a < m
 me : m < e
 en : e ≤ n
 bel : Below' f n
 left : zDC lt f a m
 right : zDC lt f m e
 tag : ∀ i j,a ≤ i → i < m → m ≤ j → j < e → f i < f j
structure MrgEnv (C : CSpec) (G : Heap) (b n : Nat) (q : Option Bool) (g : FuncId) (caps : List AV) (cmp : Nat → Nat → Int) : Prop where
 ord : LtOK (zJk cmp)
 hb : b < G.length
 hn : n ≤ 1099511627776
 cmpOK : zQ7 C G b n g caps cmp
 rot : ∀ (f : Nat → Nat) (a m e : Nat),a < m → m < e → e ≤ n → C zBz [.sl q b 1 0 n,nV a,nV m,nV e,.fn g [] caps] (hpR G b n f) (.tup []) (hpR G b n (rotF f a m e))
structure Half (n : Nat) (lt : Nat → Nat → Bool) (f : Nat → Nat) (a c e : Nat) : Prop where
 bel : Below' f n
 cross : ∀ i j,a ≤ i → i < c → c ≤ j → j < e → Bef lt (f i) (f j)
theorem Half.done {n : Nat} {lt : Nat → Nat → Bool} {f : Nat → Nat} {a c e : Nat} (h : Half n lt f a c e) (h1 : zDC lt f a c) (h2 : zDC lt f c e) : zDC lt f a e:=by
 intro i j hi hij hj
 by_cases h3 : j < c
 ·exact h1 i j hi hij h3
 by_cases h4 : c ≤ i
 ·exact h2 i j h4 hij hj
 exact h.cross i j hi tO tO hj
structure StbEnv (C : CSpec) (G : Heap) (b n : Nat) (q : Option Bool) (g : FuncId) (caps : List AV) (cmp : Nat → Nat → Int) : Prop where
 ord : LtOK (zJk cmp)
 hb : b < G.length
 hn : n ≤ 1099511627776
 ins : ∀ (f : Nat → Nat) (a e : Nat),a ≤ e → e ≤ n → Below' f n → (∀ i j,a ≤ i → i < j → j < e → f i < f j) → ∃ v H',mrgQ G b n (zJk cmp) f a e v H' ∧ C zBA [.sl q b 1 0 n,nV a,nV e,.fn g [] caps] (hpR G b n f) v H'
 mrg : ∀ (f : Nat → Nat) (a m e : Nat),MrgOK n (zJk cmp) f a m e → ∃ v H',mrgQ G b n (zJk cmp) f a e v H' ∧ C zBd [.sl q b 1 0 n,nV a,nV m,nV e,.fn g [] caps] (hpR G b n f) v H'
end
end Go.AM
