/- Several texts of mine in one (Val, Srt, Srp, So2, Stb). Own work. -/
import Derived.Test.YtcnogafgcfidnaaGreatDoorGRtwErr
import Derived.Test.YtcnogafgcfidnaaGreatDoorGAm22Am30
set_option linter.all false
namespace Go.AM
structure Val where
 kind : Int
 num : Int
 text : List UInt8
 deriving DecidableEq,Inhabited
def zB (v : Val) : AV:=.agg [.int .i64 v.kind,.int .i64 v.num,.str v.text]
def zK7 (a b : Int) : Int:=if a < b then -1 else if a > b then 1 else 0
def zMZ (a b : List UInt8) : Int:=if Op.bytesLess a b = true then -1 else if (!(Op.bytesLess a b || a == b)) = true then 1 else 0
def orI : List Int → Int
 | []=>0
 | x :: xs=>if (x != 0) = true then x else orI xs
def zEq (a b : Val) : Int:=orI [zK7 a.kind b.kind,zK7 a.num b.num,zMZ a.text b.text]
def valOK (v : Val) : Bool:=
 if (v.kind == 0) = true then v.num == 0 && v.text == []
 else if (v.kind == 1) = true then v.text == []
 else if (v.kind == 2) = true then v.num == 0 && decide ((v.text.length : Int) ≤ 200)
 else if (v.kind == 3) = true then (v.num == 0 || v.num == 1) && v.text == []
 else if (v.kind == 4) = true then decide (v.num ≥ 1) && decide (v.num ≤ 6) && v.text == []
 else false
def zCf (v : Val) : AV:=if valOK v = true then .nili else zHJ 1
section
variable {C : CSpec} {GT : Nat → Option AV}
theorem zP1 (v : Val) (H : Heap) : EFun C GT zEi [zB v] H (zCf v) H:=by
 have hO : Old H (H ++ [ABlk.box [.int .i64 v.kind,.int .i64 v.num,.str v.text]]):=(Old.refl H).push _
 refine zK5 rfl ?_; refine zD (zJ v.kind) zA rfl ?_; refine zH (fun h0=>?_) (fun h0=>?_)
 ·refine zD (zJ v.num) zA rfl ?_; refine zH (fun h1=>?_) (fun h1=>?_)
  ·refine zD (.str v.text) zA rfl ?_; refine zM ?_; refine zH (fun hf=>?_) (fun hf=>?_)
   ·have e : zCf v = zHJ 1:=by simp_all [zCf,valOK] <;> intros <;> omega
    rw [e]; exact z2 rfl rfl rfl rfl hO
   ·have e : zCf v = .nili:=by simp_all [zCf,valOK] <;> intros <;> omega
    rw [e]; exact z2 rfl rfl rfl rfl hO
  ·refine zK ?_; refine zM ?_
   have e : zCf v = zHJ 1:=by simp_all [zCf,valOK] <;> intros <;> omega
   rw [e]; exact z2 rfl rfl rfl rfl hO
 refine zH (fun h2=>?_) (fun h2=>?_)
 ·refine zD (.str v.text) zA rfl ?_; refine zH (fun hf=>?_) (fun hf=>?_)
  ·have e : zCf v = zHJ 1:=by simp_all [zCf,valOK] <;> intros <;> omega
   rw [e]; exact z2 rfl rfl rfl rfl hO
  ·have e : zCf v = .nili:=by simp_all [zCf,valOK] <;> intros <;> omega
   rw [e]; exact z2 rfl rfl rfl rfl hO
 refine zH (fun h3=>?_) (fun h3=>?_)
 ·refine zD (zJ v.num) zA rfl ?_; refine zH (fun h1=>?_) (fun h1=>?_)
  ·refine zD (.str v.text) zA rfl ?_; refine zM ?_; refine zH (fun hf=>?_) (fun hf=>?_)
   ·have e : zCf v = zHJ 1:=by simp_all [zCf,valOK] <;> intros <;> omega
    rw [e]; exact z2 rfl rfl rfl rfl hO
   ·have e : zCf v = .nili:=by simp_all [zCf,valOK] <;> intros <;> omega
    rw [e]; exact z2 rfl rfl rfl rfl hO
  ·refine zK ?_; refine zM ?_
   have e : zCf v = zHJ 1:=by simp_all [zCf,valOK] <;> intros <;> omega
   rw [e]; exact z2 rfl rfl rfl rfl hO
 refine zH (fun h4=>?_) (fun h4=>?_)
 ·refine zD (zJ v.num) zA rfl ?_; refine zH (fun h1=>?_) (fun h1=>?_)
  ·refine zM ?_; refine zM ?_; refine zD (.str v.text) zA rfl ?_; refine zM ?_; refine zH (fun hf=>?_) (fun hf=>?_)
   ·have e : zCf v = zHJ 1:=by simp_all [zCf,valOK] <;> intros <;> omega
    rw [e]; exact z2 rfl rfl rfl rfl hO
   ·have e : zCf v = .nili:=by simp_all [zCf,valOK] <;> intros <;> omega
    rw [e]; exact z2 rfl rfl rfl rfl hO
  ·refine zD (zJ v.num) zA rfl ?_; refine zK ?_; refine zH (fun h5=>?_) (fun h5=>?_)
   ·refine zD (.str v.text) zA rfl ?_; refine zM ?_; refine zH (fun hf=>?_) (fun hf=>?_)
    ·have e : zCf v = zHJ 1:=by simp_all [zCf,valOK] <;> intros <;> omega
     rw [e]; exact z2 rfl rfl rfl rfl hO
    ·have e : zCf v = .nili:=by simp_all [zCf,valOK] <;> intros <;> omega
     rw [e]; exact z2 rfl rfl rfl rfl hO
   ·refine zK ?_; refine zM ?_
    have e : zCf v = zHJ 1:=by simp_all [zCf,valOK] <;> intros <;> omega
    rw [e]; exact z2 rfl rfl rfl rfl hO
 refine zH (fun h5=>?_) (fun h5=>?_)
 ·refine zD (zJ v.num) zA rfl ?_; refine zH (fun h1=>?_) (fun h1=>?_)
  ·refine zD (zJ v.num) zA rfl ?_; refine zM ?_; refine zH (fun h6=>?_) (fun h6=>?_)
   ·refine zD (.str v.text) zA rfl ?_; refine zM ?_; refine zH (fun hf=>?_) (fun hf=>?_)
    ·have e : zCf v = zHJ 1:=by simp_all [zCf,valOK] <;> intros <;> omega
     rw [e]; exact z2 rfl rfl rfl rfl hO
    ·have e : zCf v = .nili:=by simp_all [zCf,valOK] <;> intros <;> omega
     rw [e]; exact z2 rfl rfl rfl rfl hO
   ·refine zK ?_; refine zM ?_
    have e : zCf v = zHJ 1:=by simp_all [zCf,valOK] <;> intros <;> omega
    rw [e]; exact z2 rfl rfl rfl rfl hO
  ·refine zK ?_; refine zK ?_; refine zK ?_; refine zM ?_
   have e : zCf v = zHJ 1:=by simp_all [zCf,valOK] <;> intros <;> omega
   rw [e]; exact z2 rfl rfl rfl rfl hO
 refine zM ?_
 have e : zCf v = zHJ 1:=by simp_all [zCf,valOK] <;> intros <;> omega
 rw [e]; exact z2 rfl rfl rfl rfl hO
end
theorem zB4 (a b : Val) : zi [.int .i64,.int .i64,.str] (zB a).cells (zB b).cells = some (decide (a = b)):=by
 have h : zi [.int .i64,.int .i64,.str] (zB a).cells (zB b).cells = some ((a.kind == b.kind) && ((a.num == b.num) && ((a.text == b.text) && true))):=rfl
 rw [h]
 congr 1
 rw [Bool.eq_iff_iff]
 simp only [Bool.and_eq_true,beq_iff_eq,decide_eq_true_eq,and_true]
 constructor
 ·rintro ⟨h1,h2,h3⟩; cases a; cases b; simp_all
 ·intro h; subst h; exact ⟨rfl,rfl,rfl⟩
end Go.AM
namespace Go.AM
abbrev Row:=List Val
def zDB (x : AV) (r : Row) : Prop:=zAv x 3 (r.map zB)
def zAS (H : Heap) (tv : AV) (t : List Row) : Prop:=∃ rows,view H 1 tv = some rows ∧ rows.length = t.length ∧ ∀ (i : Nat) (r : Row),t[i]? = some r → ∃ x,rows[i]? = some x ∧ zDB x r
theorem zAS.old {H H' : Heap} {tv : AV} {t : List Row} (h : zAS H tv t) (hO : Old H H') : zAS H' tv t:=by
 obtain ⟨rows,h1,h2,h3⟩:=h
 exact ⟨rows,zAI hO h1,h2,h3⟩
theorem zDB.len {x : AV} {r : Row} (h : zDB x r) (H : Heap) : view H 3 x = some (r.map zB) ∧ (r.map zB).length = r.length:=⟨h.view H,by simp⟩
theorem zDB.get {x : AV} {r : Row} (h : zDB x r) (H : Heap) {i : Nat} {v : Val} (hi : r[i]? = some v) : view H 3 x = some (r.map zB) ∧ (r.map zB)[i]? = some (zB v):=⟨h.view H,by rw [List.getElem?_map,hi]; rfl⟩
def zPZ : Nat → AV
 | 0=>.nili
 | n + 1=>zHJ (n + 1 : Nat)
def zk (t : List Row) : Nat:=
 if 60 < t.length then 4 else if (t.any fun r=>decide (12 < r.length)) = true then 4
 else if (t.any fun r=>r.length != (t.headD []).length) = true then 3 else if (t.any fun r=>r.any fun v=>!valOK v) = true then 1 else 0
def zNM (t : List Row) : Nat:=match t with
 | []=>12
 | r :: _=>r.length
def colOK (t : List Row) (c : Int) : Bool:=decide (c ≥ 0) && decide (c < (zNM t : Int))
def zX (t : List Row) (cols : List Int) : Nat:=
 if zk t ≠ 0 then zk t else if 12 < cols.length then 4 else if (cols.any fun c=>!colOK t c) = true then 1 else 0
section
variable {C : CSpec} {GT : Nat → Option AV}
theorem zD2 {α : Type} {p : α → Bool} {l : List α} {i : Nat} {x : α} (h : l[i]? = some x) (hp : p x = true) : l.any p = true:=List.any_eq_true.2 ⟨x,List.mem_of_getElem? h,hp⟩
theorem zD3 {α : Type} {p : α → Bool} {l : List α} (h : ∀ k x,k < l.length → l[k]? = some x → p x = false) : l.any p = false:=by
 rw [List.any_eq_false]
 intro x hx
 obtain ⟨k,hk⟩:=List.getElem?_of_mem hx
 rw [h k x (zg hk).1 hk]; simp
theorem zQ1 (hC : ∀ v H,C zBl [zB v] H (zCf v) H) (tv : AV) (t : List Row) (H : Heap) (ht : zAS H tv t) : EFun C GT zFe [tv] H (zPZ (zk t)) H:=by
 obtain ⟨rows,hv,hl,hr⟩:=ht
 refine zBN t.length hv hl ?_; refine zH (fun h=>?_) (fun h=>?_)
 ·have e : zk t = 4:=by simp only [decide_eq_true_eq] at h; unfold zk; rw [if_pos tO]
  rw [e]; exact sRr
 simp only [decide_eq_false_iff_not] at h
 have h60 : ¬ 60 < t.length:=by omega
 refine zBN t.length hv hl ?_; refine zAV (σ:=Nat) (fun i=>[(18,.int .i64 i),(16,tv),(0,tv),(17,.int .i64 t.length)]) (fun i H1=>H1 = H ∧ i ≤ t.length ∧ ∀ k r,k < i → t[k]? = some r → r.length ≤ 12) (fun i=>t.length - i) 0 rfl ⟨rfl,Nat.zero_le _,fun k r h=>absurd h (Nat.not_lt_zero _)⟩ (fun i H1 ⟨e,hi,h12⟩=>?_)
 subst e
 refine zH (fun hlt=>?_) (fun hlt=>?_)
 ·simp only [decide_eq_true_eq,Int.ofNat_lt] at hlt
  have hti : t[i]? = some t[i]:=List.getElem?_eq_getElem hlt
  obtain ⟨x,hx,hxr⟩:=hr i _ hti
  refine zBZ i x hv rfl hx (fun p hp=>?_)
  refine zAB x hp (by rw [hxr.cells]; rfl) ?_; refine zBN t[i].length (hxr.len []).1 (hxr.len []).2 ?_; refine zH (fun hw=>?_) (fun hw=>?_)
  ·have e : zk t = 4:=by
    simp only [decide_eq_true_eq] at hw
    unfold zk; rw [if_neg h60,if_pos (zD2 hti (by simp only [decide_eq_true_eq]; omega))]
   rw [e]; exact sRr
  ·simp only [decide_eq_false_iff_not] at hw
   refine zY (r:=i + 1) rfl tO ?_; refine zw (i + 1) rfl ⟨rfl,by omega,fun k r hk hkr=>?_⟩ tO
   by_cases e : k = i
   ·subst e; rw [hti] at hkr; cases hkr; omega
   ·exact h12 k r tO hkr
 simp only [decide_eq_false_iff_not,Int.ofNat_lt] at hlt
 have e : i = t.length:=by omega
 subst e
 have n12 : (t.any fun r=>decide (12 < r.length)) = false:=zD3 fun k r hk hkr=>by have:=h12 k r hk hkr; simp only [decide_eq_false_iff_not]; omega
 clear hi hlt
 refine zBN t.length hv hl ?_; refine zAV (σ:=Nat) (fun i=>[(29,.int .i64 i),(0,tv),(27,tv),(28,.int .i64 t.length)]) (fun i H1'=>H1' = H1 ∧ i ≤ t.length ∧ ∀ k r,k < i → t[k]? = some r → r.length = (t.headD []).length) (fun i=>t.length - i) 0 rfl ⟨rfl,Nat.zero_le _,fun k r h=>absurd h (Nat.not_lt_zero _)⟩ (fun i H1' ⟨e,hi,hw⟩=>?_)
 subst e
 refine zH (fun hlt=>?_) (fun hlt=>?_)
 ·simp only [decide_eq_true_eq,Int.ofNat_lt] at hlt
  have hti : t[i]? = some t[i]:=List.getElem?_eq_getElem hlt
  obtain ⟨x,hx,hxr⟩:=hr i _ hti
  have ht0 : t[0]? = some (t.headD []):=by cases t with
   | nil=>simp at hlt
   | cons r t=>rfl
  obtain ⟨x0,hx0,hxr0⟩:=hr 0 _ ht0
  refine zBZ i x hv rfl hx (fun p hp=>?_)
  refine zAB x hp (by rw [hxr.cells]; rfl) ?_; refine zBN t[i].length (hxr.len []).1 (hxr.len []).2 ?_; refine zBZ 0 x0 hv rfl hx0 (fun p0 hp0=>?_)
  refine zAB x0 hp0 (by rw [hxr0.cells]; rfl) ?_; refine zBN (t.headD []).length (hxr0.len []).1 (hxr0.len []).2 ?_; refine zH (fun hne=>?_) (fun hne=>?_)
  ·have e : zk t = 3:=by
    unfold zk; rw [if_neg h60,if_neg (by rw [n12]; simp),if_pos (zD2 hti ?_)]
    simp only [bne_iff_ne,ne_eq] at hne ⊢
    omega
   rw [e]; exact sRr
  ·simp only [bne_eq_false_iff_eq] at hne
   refine zY (r:=i + 1) rfl tO ?_; refine zw (i + 1) rfl ⟨rfl,by omega,fun k r hk hkr=>?_⟩ tO
   by_cases e : k = i
   ·subst e; rw [hti] at hkr; cases hkr; omega
   ·exact hw k r tO hkr
 simp only [decide_eq_false_iff_not,Int.ofNat_lt] at hlt
 have e : i = t.length:=by omega
 subst e
 have nw : (t.any fun r=>r.length != (t.headD []).length) = false:=zD3 fun k r hk hkr=>by rw [hw k r hk hkr]; simp
 clear hi hlt
 refine zBN t.length hv hl ?_; refine zAV (σ:=Nat) (fun i=>[(44,.int .i64 i),(42,tv),(43,.int .i64 t.length)]) (fun i H2=>Old H1' H2 ∧ i ≤ t.length ∧ ∀ k r,k < i → t[k]? = some r → ∀ v ∈ r,valOK v = true) (fun i=>t.length - i) 0 rfl ⟨Old.refl _,Nat.zero_le _,fun k r h=>absurd h (Nat.not_lt_zero _)⟩ (fun i H2 ⟨hO,hi,hok⟩=>?_)
 refine zH (fun hlt=>?_) (fun hlt=>?_)
 ·simp only [decide_eq_true_eq,Int.ofNat_lt] at hlt
  have hti : t[i]? = some t[i]:=List.getElem?_eq_getElem hlt
  obtain ⟨x,hx,hxr⟩:=hr i _ hti
  have hrl:=h12 i _ hlt hti
  refine zBZ i x (zAI hO hv) rfl hx (fun p hp=>?_)
  refine zAB x hp (by rw [hxr.cells]; rfl) ?_; refine zBN t[i].length (hxr.len []).1 (hxr.len []).2 ?_; refine zAV (σ:=Nat) (fun j=>[(50,.int .i64 j),(48,x),(42,tv),(43,.int .i64 t.length),(44,.int .i64 i),(49,.int .i64 t[i].length)]) (fun j H3=>Old H1' H3 ∧ j ≤ t[i].length ∧ ∀ k v,k < j → t[i][k]? = some v → valOK v = true) (fun j=>t[i].length - j) 0 rfl ⟨hO,Nat.zero_le _,fun k r h=>absurd h (Nat.not_lt_zero _)⟩ (fun j H3 ⟨hO3,hj,hokj⟩=>?_)
  refine zH (fun hjl=>?_) (fun hjl=>?_)
  ·simp only [decide_eq_true_eq,Int.ofNat_lt] at hjl
   have hvj : t[i][j]? = some t[i][j]:=List.getElem?_eq_getElem hjl
   refine zBZ j (zB t[i][j]) (hxr.get H3 hvj).1 rfl (hxr.get [] hvj).2 (fun q hq=>?_)
   refine zAB (zB t[i][j]) hq rfl ?_; refine zDL zA rfl rfl (by simp) ?_; refine zD (zB t[i][j]) (zN zA) rfl ?_
   have hO4:=(hO3.push [ABlk.box [.int .i64 0,.int .i64 0,.str []]]).set (hO3.1) (.box (splice [.int .i64 0,.int .i64 0,.str []] (0 + 0) (zB t[i][j]).cells))
   cases hval : valOK t[i][j] with
   | false=>
    have e : zk t = 1:=by
     unfold zk; rw [if_neg h60,if_neg (by rw [n12]; simp),if_neg (by rw [nw]; simp),if_pos (zD2 hti (zD2 hvj (by rw [hval]; rfl)))]
    rw [e]
    refine zI (v:=zHJ 1) (by have:=hC t[i][j] ((H3 ++ [ABlk.box [.int .i64 0,.int .i64 0,.str []]]).set H3.length (.box (splice [.int .i64 0,.int .i64 0,.str []] (0 + 0) (zB t[i][j]).cells))); simp only [zCf,hval,Bool.false_eq_true,if_false] at this; exact this) ?_; refine zA9 rfl ?_; refine zM ?_
    exact z2 rfl rfl rfl rfl hO4
   | true=>
    refine zI (v:=.nili) (by have:=hC t[i][j] ((H3 ++ [ABlk.box [.int .i64 0,.int .i64 0,.str []]]).set H3.length (.box (splice [.int .i64 0,.int .i64 0,.str []] (0 + 0) (zB t[i][j]).cells))); simp only [zCf,hval,if_true] at this; exact this) ?_; refine zA9 rfl ?_; refine zK ?_; refine zY (r:=j + 1) rfl tO ?_; refine zw (j + 1) rfl ⟨hO4,by omega,fun k v hk hkv=>?_⟩ tO
    by_cases e : k = j
    ·subst e; rw [hvj] at hkv; cases hkv; exact hval
    ·exact hokj k v tO hkv
  ·simp only [decide_eq_false_iff_not,Int.ofNat_lt] at hjl
   refine zY (r:=i + 1) rfl tO ?_; refine zw (i + 1) rfl ⟨hO3,by omega,fun k r hk hkr=>?_⟩ tO
   by_cases e : k = i
   ·subst e; rw [hti] at hkr; cases hkr
    intro v hv
    obtain ⟨m,hm⟩:=List.getElem?_of_mem hv
    exact hokj m v (by have:=(zg hm).1; omega) hm
   ·exact hok k r tO hkr
 simp only [decide_eq_false_iff_not,Int.ofNat_lt] at hlt
 have e : zk t = 0:=by
  unfold zk; rw [if_neg h60,if_neg (by rw [n12]; simp),if_neg (by rw [nw]; simp),if_neg ?_]
  rw [zD3 fun k r hk hkr=>?_]
  ·simp
  ·exact zD3 fun m v hm hmv=>by rw [hok k r tO hkr v (List.mem_of_getElem? hmv)]; rfl
 rw [e]; exact z2 rfl rfl rfl rfl hO
theorem zOn {t : List Row} {r : Row} (h : t[0]? = some r) : zNM t = r.length:=by
 cases t with
 | nil=>simp at h
 | cons a t=>simp at h; subst h; rfl
theorem zJf (tv : AV) (t : List Row) (c : Int) (H : Heap) (ht : zAS H tv t) : EFun C GT zEf [tv,zJ c] H (.bool (colOK t c)) H:=by
 obtain ⟨rows,hv,hl,hr⟩:=ht
 have key : ∀ w : Nat,w = zNM t → (.bool (colOK t c) : AV) = .bool (decide (c ≥ 0) && decide (c < (w : Int))):=fun w hw=>by rw [hw]; rfl
 refine zBN t.length hv hl ?_; refine zH (fun h=>?_) (fun h=>?_)
 ·simp only [decide_eq_true_eq] at h
  have hlt : 0 < t.length:=by omega
  have h0 : t[0]? = some t[0]:=List.getElem?_eq_getElem hlt
  obtain ⟨x,hx,hxr⟩:=hr 0 _ h0
  refine zBZ 0 x hv rfl hx (fun p hp=>?_)
  refine zAB x hp (by rw [hxr.cells]; rfl) ?_; refine zBN t[0].length (hxr.len []).1 (hxr.len []).2 ?_
  have hk:=key t[0].length (zOn h0).symm
  refine zH (fun hc=>?_) (fun hc=>?_)
  ·refine zM ?_
   rw [hk,hc,Bool.true_and]; exact sRr
  ·refine zK ?_
   rw [hk,hc,Bool.false_and]; exact sRr
 ·simp only [decide_eq_false_iff_not] at h
  have hk:=key 12 (by cases t with
   | nil=>rfl
   | cons a t=>simp at h)
  refine zH (fun hc=>?_) (fun hc=>?_)
  ·refine zM ?_
   rw [hk,hc,Bool.true_and]; exact sRr
  ·refine zK ?_
   rw [hk,hc,Bool.false_and]; exact sRr
theorem zL2 (hK : ∀ tv t H,zAS H tv t → C zCG [tv] H (zPZ (zk t)) H) (hL : ∀ tv t c H,zAS H tv t → C zBj [tv,zJ c] H (.bool (colOK t c)) H)
  (tv cv : AV) (t : List Row) (cols : List Int) (H : Heap) (ht : zAS H tv t) (hc : view H 1 cv = some (cols.map zJ)) : EFun C GT zDx [tv,cv] H (zPZ (zX t cols)) H:=by
 have hk:=hK tv t H ht
 cases he : zk t with
 | succ n=>
  rw [he] at hk
  have e : zX t cols = n + 1:=by unfold zX; rw [if_pos tO,he]
  rw [e]
  refine zI hk ?_; refine zA9 rfl ?_; refine zM ?_
  exact sRr
 | zero=>
  rw [he] at hk
  refine zI hk ?_; refine zA9 rfl ?_; refine zK ?_; refine zBN cols.length hc (by simp) ?_; refine zH (fun h=>?_) (fun h=>?_)
  ·simp only [decide_eq_true_eq] at h
   have e : zX t cols = 4:=by unfold zX; rw [if_neg tO,if_pos tO]
   rw [e]; exact sRr
  simp only [decide_eq_false_iff_not] at h
  refine zBN cols.length hc (by simp) ?_; refine zAV (σ:=Nat) (fun i=>[(19,.int .i64 i),(0,tv),(17,cv),(18,.int .i64 cols.length)]) (fun i H1=>H1 = H ∧ i ≤ cols.length ∧ ∀ k c,k < i → cols[k]? = some c → colOK t c = true) (fun i=>cols.length - i) 0 rfl ⟨rfl,Nat.zero_le _,fun k r h=>absurd h (Nat.not_lt_zero _)⟩ (fun i H1 ⟨e,hi,hok⟩=>?_)
  subst e
  refine zH (fun hlt=>?_) (fun hlt=>?_)
  ·simp only [decide_eq_true_eq,Int.ofNat_lt] at hlt
   have hci : cols[i]? = some cols[i]:=List.getElem?_eq_getElem hlt
   refine zBZ i (zJ cols[i]) hc rfl (by rw [List.getElem?_map,hci]; rfl) (fun p hp=>?_)
   refine zAB (zJ cols[i]) hp rfl ?_; refine zI (hL tv t cols[i] _ ht) ?_; refine zH (fun hb=>?_) (fun hb=>?_)
   ·have e : zX t cols = 1:=by
     unfold zX; rw [if_neg tO,if_neg tO,if_pos (zD2 hci hb)]
    rw [e]; exact sRr
   ·refine zY (r:=i + 1) rfl tO ?_; refine zw (i + 1) rfl ⟨rfl,by omega,fun k c hk hkc=>?_⟩ tO
    by_cases e : k = i
    ·subst e; rw [hci] at hkc; cases hkc; simpa using hb
    ·exact hok k c tO hkc
  ·simp only [decide_eq_false_iff_not,Int.ofNat_lt] at hlt
   have e : zX t cols = 0:=by
    unfold zX; rw [if_neg tO,if_neg tO,if_neg ?_]
    rw [zD3 fun k c hk hkc=>by rw [hok k c tO hkc]; rfl]; simp
   rw [e]; exact sRr
structure Key where
 col : Int
 down : Bool
 deriving DecidableEq,Inhabited
def kyV (k : Key) : AV:=.agg [zJ k.col,.bool k.down]
def zId (a b : Row) (k : Key) : Int:=if k.down = true then - zEq (a.getD k.col.toNat default) (b.getD k.col.toNat default) else zEq (a.getD k.col.toNat default) (b.getD k.col.toNat default)
def zHK (a b : Row) : List Key → Int
 | []=>0
 | k :: ks=>if (zId a b k != 0) = true then zId a b k else zHK a b ks
def zIe (a : Row) (k : Key) : Prop:=0 ≤ k.col ∧ k.col < (a.length : Int)
theorem zHy (a b : Int) : -1 ≤ zK7 a b ∧ zK7 a b ≤ 1:=by unfold zK7; split <;> (try split) <;> omega
theorem zL3 (a b : List UInt8) : -1 ≤ zMZ a b ∧ zMZ a b ≤ 1:=by unfold zMZ; split <;> (try split) <;> omega
theorem zHz (a b : Val) : -1 ≤ zEq a b ∧ zEq a b ≤ 1:=by
 have h1:=zHy a.kind b.kind
 have h2:=zHy a.num b.num
 have h3:=zL3 a.text b.text
 simp only [zEq,orI]
 split
 ·exact h1
 ·split
  ·exact h2
  ·split
   ·exact h3
   ·omega
end
end Go.AM
namespace Go.AM
def zCg (cols : List Int) : List Key:=cols.map fun c=>⟨c,false⟩
def same (t : List Row) (ks : List Key) (k i : Nat) : Bool:=zHK (t.getD k []) (t.getD i []) ks == 0
theorem zK8 {t : List Row} {cols : List Int} (h : zX t cols = 0) : t.length ≤ 60 ∧ cols.length ≤ 12 ∧ (∀ (i : Nat) (r : Row),t[i]? = some r → r.length = zNM t ∧ r.length ≤ 12) ∧ (∀ (i : Nat) (r : Row),t[i]? = some r → ∀ c ∈ cols,0 ≤ c ∧ c < (r.length : Int)):=by
 unfold zX at h
 split at h
 ·omega
 rename_i h1
 have h1 : zk t = 0:=by omega
 split at h
 ·omega
 rename_i h2
 split at h
 ·omega
 rename_i h3
 unfold zk at h1
 split at h1
 ·omega
 rename_i h4
 split at h1
 ·omega
 rename_i h5
 split at h1
 ·omega
 rename_i h6
 have w : ∀ (i : Nat) (r : Row),t[i]? = some r → r.length = zNM t ∧ r.length ≤ 12:=by
  intro i r hr
  have hm:=List.mem_of_getElem? hr
  simp only [List.any_eq_true,decide_eq_true_eq,not_exists,not_and,bne_iff_ne,ne_eq,Classical.not_not] at h5 h6
  refine ⟨?_,by have:=h5 r hm; omega⟩
  rw [h6 r hm]
  cases t with
  | nil=>simp at hm
  | cons a t=>rfl
 refine ⟨by omega,by omega,w,fun i r hr c hc=>?_⟩
 simp only [List.any_eq_true,Bool.not_eq_true',not_exists,not_and,Bool.not_eq_false] at h3
 have:=h3 c hc
 simp only [colOK,Bool.and_eq_true,decide_eq_true_eq] at this
 rw [(w i r hr).1]
 omega
theorem zDB.one {x : AV} {r : Row} (h : zDB x r) : x.cells = [x] ∧ x.one = true:=by obtain ⟨q,k,rfl,_⟩:=h; exact ⟨rfl,rfl⟩
end Go.AM
namespace Go.AM
theorem zBV : ∀ s : List UInt8,Op.bytesLess s s = false
 | []=>rfl
 | a :: x=>by
  simp only [Op.bytesLess,zBV x,Bool.and_false,Bool.or_false,decide_eq_false_iff_not]
  exact UInt8.lt_irrefl a
theorem zGr {a b : Int} : zK7 a b = 0 ↔ a = b:=by unfold zK7; split <;> (try split) <;> omega
theorem zJg {a b : List UInt8} : zMZ a b = 0 ↔ a = b:=by
 unfold zMZ
 constructor
 ·intro h
  split at h
  ·omega
  ·split at h
   ·omega
   ·rename_i h1 h2
    simp only [Bool.not_eq_true,Bool.not_eq_false',Bool.or_eq_true,beq_iff_eq] at h1 h2
    rw [h1] at h2
    simpa using h2
 ·intro h
  subst h
  rw [if_neg (by rw [zBV]; simp),if_neg (by simp)]
theorem zNN {a b : Val} : zEq a b = 0 ↔ a = b:=by
 unfold zEq
 simp only [orI,bne_iff_ne,ne_eq]
 constructor
 ·intro h
  split at h
  ·rename_i h1; exact absurd h h1
  ·rename_i h1
   split at h
   ·rename_i h2; exact absurd h h2
   ·rename_i h2
    split at h
    ·rename_i h3; exact absurd h h3
    ·rename_i h3
     have e1:=zGr.1 (Classical.not_not.1 h1)
     have e2:=zGr.1 (Classical.not_not.1 h2)
     have e3:=zJg.1 (Classical.not_not.1 h3)
     cases a; cases b; simp_all
 ·intro h
  subst h
  simp [zGr.2 rfl,zJg.2 rfl]
section
variable {t : List Row} {cols : List Int}
end
end Go.AM
namespace Go.AM
structure LtOK (lt : Nat → Nat → Bool) : Prop where
 asym : ∀ x y,lt x y = true → lt y x = false
 le : ∀ x y z,lt y x = false → lt z y = false → lt z x = false
def Bef (lt : Nat → Nat → Bool) (x y : Nat) : Prop:=lt x y = true ∨ (lt y x = false ∧ x < y)
section
variable {lt : Nat → Nat → Bool} (hl : LtOK lt)
include hl
theorem zQ2 (x : Nat) : lt x x = false:=by
 cases h : lt x x with
 | false=>rfl
 | true=>have:=hl.asym x x h; rw [h] at this; cases this
theorem zQ3 {x y z : Nat} (h : lt x y = true) (k : lt z y = false) : lt x z = true:=by
 cases e : lt x z with
 | true=>rfl
 | false=>have:=hl.le y z x k e; rw [h] at this; cases this
theorem le_lt {x y z : Nat} (h : lt y x = false) (k : lt y z = true) : lt x z = true:=by
 cases e : lt x z with
 | true=>rfl
 | false=>have:=hl.le z x y e h; rw [k] at this; cases this
theorem Bef.trans {x y z : Nat} (h : Bef lt x y) (k : Bef lt y z) : Bef lt x z:=by
 rcases h with h | ⟨h,h'⟩ <;> rcases k with k | ⟨k,k'⟩
 ·exact .inl (zQ3 hl h (hl.asym _ _ k))
 ·exact .inl (zQ3 hl h k)
 ·exact .inl (le_lt hl h k)
 ·exact .inr ⟨hl.le _ _ _ h k,by omega⟩
theorem Bef.ne {x y : Nat} (h : Bef lt x y) : x ≠ y:=by
 intro e; subst e
 rcases h with h | ⟨_,h⟩
 ·rw [zQ2 hl] at h; cases h
 ·omega
end
def sg (f : Nat → Nat) (a b : Nat) : List Nat:=(List.range' a (b - a)).map f
theorem zGA (f : Nat → Nat) {a m b : Nat} (h : a ≤ m) (k : m ≤ b) : sg f a b = sg f a m ++ sg f m b:=by
 unfold sg
 rw [← List.map_append]
 congr 1
 have e : List.range' a (m - a) ++ List.range' (a + 1 * (m - a)) (b - m) = List.range' a (m - a + (b - m)):=List.range'_append
 rw [show a + 1 * (m - a) = m by omega,show m - a + (b - m) = b - a by omega] at e
 exact e.symm
theorem zK9 {f g : Nat → Nat} {a b : Nat} (h : ∀ i,a ≤ i → i < b → f i = g i) : sg f a b = sg g a b:=by
 unfold sg
 apply List.map_congr_left
 intro i hi
 rw [List.mem_range'_1] at hi
 exact h i hi.1 tO
theorem zPa {f : Nat → Nat} {a b x : Nat} : x ∈ sg f a b ↔ ∃ i,a ≤ i ∧ i < b ∧ f i = x:=by
 unfold sg
 simp only [List.mem_map,List.mem_range'_1]
 constructor
 ·rintro ⟨i,h1,h2⟩; exact ⟨i,h1.1,by omega,h2⟩
 ·rintro ⟨i,h1,h2,h3⟩; exact ⟨i,⟨h1,by omega⟩,h3⟩
def zA0 (f g : Nat → Nat) (a b : Nat) : Prop:=(∀ k,¬ (a ≤ k ∧ k < b) → g k = f k) ∧ (sg g a b).Perm (sg f a b)
theorem zA0.refl (f : Nat → Nat) (a b : Nat) : zA0 f f a b:=⟨fun _ _=>rfl,List.Perm.refl _⟩
theorem zA0.trans {f g h : Nat → Nat} {a b : Nat} (p : zA0 f g a b) (q : zA0 g h a b) : zA0 f h a b:=
 ⟨fun k hk=>(q.1 k hk).trans (p.1 k hk),q.2.trans p.2⟩
theorem zA0.wide {f g : Nat → Nat} {a b a' b' : Nat} (p : zA0 f g a b) (hab : a ≤ b) (h : a' ≤ a) (k : b ≤ b') : zA0 f g a' b':=by
 refine ⟨fun i hi=>p.1 i tO, ?_⟩
 rw [zGA g (a:=a') (m:=a) (b:=b') h tO,zGA g (a:=a) (m:=b) (b:=b') hab k,zGA f (a:=a') (m:=a) (b:=b') h tO,zGA f (a:=a) (m:=b) (b:=b') hab k]
 rw [zK9 (f:=g) (g:=f) (a:=a') (b:=a) (fun i _ hi=>p.1 i tO),zK9 (f:=g) (g:=f) (a:=b) (b:=b') (fun i hi _=>p.1 i tO)]
 exact (p.2.append_right _).append_left _
theorem zA0.mem {f g : Nat → Nat} {a b i : Nat} (p : zA0 f g a b) (h : a ≤ i) (k : i < b) : ∃ j,a ≤ j ∧ j < b ∧ f j = g i:=
 zPa.1 (p.2.mem_iff.1 (zPa.2 ⟨i,h,k,rfl⟩))
def rotF (f : Nat → Nat) (a m b : Nat) : Nat → Nat:=fun k=>if a ≤ k ∧ k < a + (b - m) then f (k + (m - a)) else if a + (b - m) ≤ k ∧ k < b then f (k - (b - m)) else f k
def zDC (lt : Nat → Nat → Bool) (f : Nat → Nat) (a b : Nat) : Prop:=∀ i j,a ≤ i → i < j → j < b → Bef lt (f i) (f j)
theorem zDC.sub {lt : Nat → Nat → Bool} {f : Nat → Nat} {a b a' b' : Nat} (h : zDC lt f a b) (h1 : a ≤ a') (h2 : b' ≤ b) : zDC lt f a' b':=fun i j hi hij hj=>h i j tO hij tO
theorem zDC.congr {lt : Nat → Nat → Bool} {f g : Nat → Nat} {a b : Nat} (h : zDC lt f a b) (hg : ∀ k,a ≤ k → k < b → g k = f k) : zDC lt g a b:=fun i j hi hij hj=>by
 rw [hg i hi tO,hg j tO hj]; exact h i j hi hij hj
structure CutOK (lt : Nat → Nat → Bool) (f : Nat → Nat) (a m b s : Nat) : Prop where
 lo : (a + b) / 2 + m - b ≤ s
 lo' : a ≤ s
 hi : s ≤ (a + b) / 2
 hi' : s ≤ m
 low : a < s → (a + b) / 2 + m - s < b → lt (f ((a + b) / 2 + m - s)) (f (s - 1)) = false
 high : s < m → s < (a + b) / 2 → lt (f ((a + b) / 2 + m - 1 - s)) (f s) = true
def zJh (lt : Nat → Nat → Bool) (w : Nat) (f : Nat → Nat) (a b : Nat) : Prop:=∀ i j,a ≤ i → i < j → j < b → i / w = j / w → Bef lt (f i) (f j)
theorem zNO {w q i : Nat} (h : q * w ≤ i) (k : i < q * w + w) : i / w = q:=by
 apply Nat.div_eq_of_lt_le
 ·exact h
 ·rw [Nat.add_mul,Nat.one_mul]; exact k
structure BlkSt (lt : Nat → Nat → Bool) (n w a : Nat) (f : Nat → Nat) : Prop where
 mul : ∃ k,a = k * (2 * w)
 done : zJh lt (2 * w) f 0 a
 todo : zJh lt w f a n
 perm : zA0 (fun i=>i) f 0 n
 t1 : ∀ i,a ≤ i → i < n → f i / w = i / w
 t2 : ∀ i,i < n → f i / (2 * w) = i / (2 * w)
theorem zNP {w k i : Nat} (h : k * (2 * w) ≤ i) (h2 : i < k * (2 * w) + 2 * w) : i / (2 * w) = k:=zNO h h2
theorem zNQ {w k i : Nat} (h : k * (2 * w) ≤ i) (h2 : i < k * (2 * w) + w) : i / w = 2 * k:=by
 have e : k * (2 * w) = 2 * k * w:=by rw [Nat.mul_comm 2 k,Nat.mul_assoc]
 rw [e] at h h2
 exact zNO h h2
theorem zNR {w k i : Nat} (h : k * (2 * w) + w ≤ i) (h2 : i < k * (2 * w) + 2 * w) : i / w = 2 * k + 1:=by
 have e : k * (2 * w) = 2 * k * w:=by rw [Nat.mul_comm 2 k,Nat.mul_assoc]
 have e2 : (2 * k + 1) * w = 2 * k * w + w:=by rw [Nat.add_mul,Nat.one_mul]
 rw [e] at h h2
 exact zNO tO tO
theorem BlkSt.mrg {lt : Nat → Nat → Bool} {n w a e : Nat} {f : Nat → Nat} (S : BlkSt lt n w a f) (he : e ≤ a + 2 * w) (hen : e ≤ n) (hae : a + w ≤ e) : zDC lt f a (a + w) ∧ zDC lt f (a + w) e ∧ ∀ i j,a ≤ i → i < a + w → a + w ≤ j → j < e → f i < f j:=by
 obtain ⟨k,hk⟩:=S.mul
 refine ⟨fun i j hi hij hj=>S.todo i j hi hij tO ?_,fun i j hi hij hj=>S.todo i j tO hij tO ?_,fun i j i1 i2 j1 j2=>?_⟩
 ·rw [zNQ (w:=w) (k:=k) (i:=i) tO tO,zNQ (w:=w) (k:=k) (i:=j) tO tO]
 ·rw [zNR (w:=w) (k:=k) (i:=i) tO tO,zNR (w:=w) (k:=k) (i:=j) tO tO]
 ·have e1:=S.t1 i i1 tO
  have e2:=S.t1 j tO tO
  rw [zNQ (w:=w) (k:=k) (i:=i) tO tO] at e1
  rw [zNR (w:=w) (k:=k) (i:=j) tO tO] at e2
  apply Nat.lt_of_not_le
  intro h
  have:=Nat.div_le_div_right (c:=w) h
  omega
theorem BlkSt.turn {lt : Nat → Nat → Bool} {n w a e : Nat} {f f' : Nat → Nat} (S : BlkSt lt n w a f) (he : e ≤ a + 2 * w) (hen : e ≤ n) (hae : a ≤ e) (p : zA0 f f' a e) (s : zDC lt f' a e) :
  zJh lt (2 * w) f' 0 e ∧ zA0 (fun i=>i) f' 0 n ∧ ∀ i,i < n → f' i / (2 * w) = i / (2 * w):=by
 obtain ⟨k,hk⟩:=S.mul
 refine ⟨fun i j hi hij hj hd=>?_,S.perm.trans (p.wide hae tO hen),fun i hi=>?_⟩
 ·by_cases h1 : j < a
  ·rw [p.1 i tO,p.1 j tO]; exact S.done i j hi hij h1 hd
  by_cases h2 : a ≤ i
  ·exact s i j h2 hij hj
  rw [zNP (k:=k) (i:=j) tO tO] at hd
  exfalso
  have : i / (2 * w) < k:=Nat.div_lt_of_lt_mul (by rw [Nat.mul_comm]; omega)
  omega
 ·by_cases h1 : a ≤ i ∧ i < e
  ·obtain ⟨j,j1,j2,j3⟩:=p.mem h1.1 h1.2
   rw [← j3,S.t2 j tO,zNP (k:=k) (i:=j) tO tO,zNP (k:=k) (i:=i) tO tO]
  ·rw [p.1 i h1]; exact S.t2 i hi
theorem BlkSt.step {lt : Nat → Nat → Bool} {n w a : Nat} {f f' : Nat → Nat} (S : BlkSt lt n w a f) (hen : a + 2 * w ≤ n) (p : zA0 f f' a (a + 2 * w)) (s : zDC lt f' a (a + 2 * w)) : BlkSt lt n w (a + 2 * w) f':=by
 obtain ⟨h1,h2,h3⟩:=S.turn (Nat.le_refl _) hen tO p s
 obtain ⟨k,hk⟩:=S.mul
 refine ⟨⟨k + 1,by rw [Nat.add_mul,Nat.one_mul,hk]⟩,h1,fun i j hi hij hj hd=>?_,h2,fun i hi hin=>?_,h3⟩
 ·rw [p.1 i tO,p.1 j tO]; exact S.todo i j tO hij hj hd
 ·rw [p.1 i tO]; exact S.t1 i tO hin
structure BlkIn (lt : Nat → Nat → Bool) (n a : Nat) (f : Nat → Nat) : Prop where
 mul : ∃ k,a = k * 20
 done : zJh lt 20 f 0 a
 perm : zA0 (fun i=>i) f 0 a
 t : ∀ i,i < n → f i / 20 = i / 20
theorem BlkIn.turn {lt : Nat → Nat → Bool} {n a e : Nat} {f f' : Nat → Nat} (S : BlkIn lt n a f) (he : e ≤ a + 20) (hen : e ≤ n) (hae : a ≤ e) (p : zA0 f f' a e) (s : zDC lt f' a e) :
  zJh lt 20 f' 0 e ∧ zA0 (fun i=>i) f' 0 e ∧ ∀ i,i < n → f' i / 20 = i / 20:=by
 obtain ⟨k,hk⟩:=S.mul
 refine ⟨fun i j hi hij hj hd=>?_,(S.perm.wide tO tO hae).trans (p.wide hae tO (Nat.le_refl _)),fun i hi=>?_⟩
 ·by_cases h1 : j < a
  ·rw [p.1 i tO,p.1 j tO]; exact S.done i j hi hij h1 hd
  by_cases h2 : a ≤ i
  ·exact s i j h2 hij hj
  omega
 ·by_cases h1 : a ≤ i ∧ i < e
  ·obtain ⟨j,j1,j2,j3⟩:=p.mem h1.1 h1.2
   have:=S.t j tO
   rw [← j3]
   omega
  ·rw [p.1 i h1]; exact S.t i hi
theorem BlkIn.tag {lt : Nat → Nat → Bool} {n a : Nat} {f : Nat → Nat} (S : BlkIn lt n a f) {i j : Nat} (hi : a ≤ i) (hij : i < j) : f i < f j:=by
 rw [S.perm.1 i tO,S.perm.1 j tO]; exact hij
def zMa (lt : Nat → Nat → Bool) (x : Nat) : List Nat → List Nat
 | []=>[x]
 | y :: l=>if lt x y then x :: y :: l else y :: zMa lt x l
def zL4 (lt : Nat → Nat → Bool) : Nat → List Nat
 | 0=>[]
 | n + 1=>zMa lt n (zL4 lt n)
theorem zGs (lt : Nat → Nat → Bool) (x : Nat) : ∀ l,(zMa lt x l).Perm (x :: l)
 | []=>List.Perm.refl _
 | y :: l=>by
  unfold zMa
  split
  ·exact List.Perm.refl _
  ·exact ((zGs lt x l).cons y).trans (List.Perm.swap x y l)
theorem zCh (lt : Nat → Nat → Bool) : ∀ n,(zL4 lt n).Perm (List.range n)
 | 0=>List.Perm.refl _
 | n + 1=>by
  unfold zL4
  rw [List.range_succ]
  exact ((zGs lt n _).trans ((zCh lt n).cons n)).trans (List.perm_append_comm (l₁:=[n]) (l₂:=List.range n))
theorem zGt {lt : Nat → Nat → Bool} (hl : LtOK lt) (x : Nat) : ∀ l,l.Pairwise (Bef lt) → (∀ y ∈ l,y < x) → (zMa lt x l).Pairwise (Bef lt)
 | [],_,_=>by simp [zMa]
 | y :: l,h,hx=>by
  obtain ⟨h1,h2⟩:=List.pairwise_cons.1 h
  unfold zMa
  split
  ·rename_i e
   refine List.pairwise_cons.2 ⟨fun z hz=>?_,h⟩
   rcases List.mem_cons.1 hz with rfl | hz
   ·exact .inl e
   ·exact Bef.trans hl (.inl e) (h1 z hz)
  ·rename_i e
   refine List.pairwise_cons.2 ⟨fun z hz=>?_,zGt hl x l h2 (fun z hz=>hx z (List.mem_cons_of_mem _ hz))⟩
   rcases List.mem_cons.1 ((zGs lt x l).mem_iff.1 hz) with rfl | hz
   ·exact .inr ⟨by simpa using e,hx y (List.mem_cons_self ..)⟩
   ·exact h1 z hz
theorem zCx {lt : Nat → Nat → Bool} (hl : LtOK lt) : ∀ n,(zL4 lt n).Pairwise (Bef lt)
 | 0=>List.Pairwise.nil
 | n + 1=>zGt hl n _ (zCx hl n) fun y hy=>List.mem_range.1 ((zCh lt n).mem_iff.1 hy)
theorem zLA (lt : Nat → Nat → Bool) (n : Nat) : (zL4 lt n).length = n:=by rw [(zCh lt n).length_eq,List.length_range]
end Go.AM
