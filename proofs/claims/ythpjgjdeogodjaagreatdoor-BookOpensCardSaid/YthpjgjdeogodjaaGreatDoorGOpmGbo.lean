/- Several texts of mine in one (Opm, Ssh, Opn, Opo, Gbo). Own work. -/
import Derived.Test.YthpjgjdeogodjaaGreatDoorGWt2Op2
import Derived.Test.YthpjgjdeogodjaaGreatDoorGRfhSk0
import Derived.Test.YthpjgjdeogodjaaGreatDoorGInsDlg
set_option linter.all false
namespace Go.AM
theorem entsB_app (a b : List Fil) : zBY (a ++ b) = zBY a ++ zBY b:=by
 induction a with
 | nil=>rfl
 | cons x r ih=>simp only [List.cons_append,zBY,ih,List.append_assoc]
theorem entsB_two (p q : Fil → Bool) (hd : ∀ f,p f = true → q f = false) : ∀ l : List Fil,(zBY (l.filter p)).length + (zBY (l.filter q)).length ≤ (zBY l).length
 | []=>by simp [zBY]
 | f :: l=>by
  have ih:=entsB_two p q hd l
  have h:=hd f
  rw [List.filter_cons,List.filter_cons]
  cases hp : p f
  ·cases hq : q f
   ·simp only [zBY,List.length_append,zHV,Bool.false_eq_true,if_false]; omega
   ·simp only [zBY,List.length_append,zHV,Bool.false_eq_true,if_false,if_true]; omega
  ·rw [h hp]
   simp only [zBY,List.length_append,zHV,Bool.false_eq_true,if_false,if_true]; omega
theorem withS_size (l : List Fil) (c r : Int) (t : Bs) : (zBY (zCD l c r t)).length ≤ (zBY l).length + (t.length + 5):=by
 have h:=entsB_two (aheadC c r) (zA9 c r) (fun f h=>by simp only [aheadC,zA9,decide_eq_true_eq,decide_eq_false_iff_not] at *; omega) l
 unfold zCD
 rw [entsB_app,entsB_app,List.length_append,List.length_append]
 by_cases ht : t = []
 ·rw [if_pos ht]; simp only [zBY,List.length_nil]; omega
 ·rw [if_neg ht]
  have e : (zBY [(⟨c,r,t⟩ : Fil)]).length = t.length + 5:=by simp [zBY,zHV]
  rw [e]; omega
theorem withS_mem {l : List Fil} {c r : Int} {t : Bs} {f : Fil} (h : f ∈ zCD l c r t) : f ∈ l ∨ (f = ⟨c,r,t⟩ ∧ t ≠ []):=by
 unfold zCD at h
 rcases List.mem_append.1 h with h | h
 ·rcases List.mem_append.1 h with h | h
  ·exact .inl (List.mem_filter.1 h).1
  ·by_cases ht : t = []
   ·rw [if_pos ht] at h; simp at h
   ·rw [if_neg ht] at h; exact .inr ⟨by simpa using h,ht⟩
 ·exact .inl (List.mem_filter.1 h).1
structure Goods (l : List Fil) : Prop where
 srt : Srtd l
 len : l.length ≤ 200
 each : ∀ f ∈ l,mayN f = 0 ∧ f.text ≠ []
theorem fils_of : ∀ (l : List Fil) (prev : Option Fil),Srtd l → (∀ f ∈ l,mayN f = 0 ∧ f.text ≠ []) → (∀ p,prev = some p → ∀ f ∈ l,p.row < f.row ∨ (p.row = f.row ∧ p.col < f.col)) → zKf prev l = 0
 | [],_,_,_,_=>rfl
 | f :: r,prev,hs,he,hp=>by
  have h0 : filN prev f = 0:=by
   obtain ⟨h1,h2⟩:=he f (List.mem_cons_self ..)
   unfold mayN at h1
   unfold filN
   cases hc : okC f.col f.row with
   | false=>rw [hc] at h1; cases h1
   | true=>
    rw [hc,if_pos rfl] at h1
    rw [if_neg (by simp)]
    cases prev with
    | none=>
     show (if f.text = [] then 3 else zDC f.text) = 0
     rw [if_neg h2]; exact h1
    | some p=>
     have hl:=(lessC_iff p f).2 (hp p rfl f (List.mem_cons_self ..))
     show (if zFv p f = false then 5 else if f.text = [] then 3 else zDC f.text) = 0
     rw [hl,if_neg (by simp),if_neg h2]
     exact h1
  unfold zKf
  rw [if_pos h0]
  exact fils_of r (some f) (List.pairwise_cons.1 hs).2 (fun g hg=>he g (List.mem_cons_of_mem _ hg)) (fun p hpe g hg=>by cases hpe; exact (List.pairwise_cons.1 hs).1 g hg)
theorem Goods.check {l : List Fil} (h : Goods l) : zEe l = 0:=by
 unfold zEe
 rw [if_neg (by have:=h.len; omega)]
 exact fils_of l none h.srt h.each (fun p hp=>by cases hp)
theorem Goods.nil : Goods []:=⟨Srtd.nil,by simp,fun f hf=>absurd hf (by simp)⟩
theorem Goods.take {l : List Fil} (h : Goods l) (n : Nat) : Goods (l.take n):=⟨h.srt.sublist (List.take_sublist n l),by rw [List.length_take]; have:=h.len; omega,fun f hf=>h.each f (List.mem_of_mem_take hf)⟩
theorem openG_inv (b : Bs) : ∀ (k a : Nat) (l : List Fil) (q : Bool),Goods l → a ≤ b.length → (zBY l).length ≤ a → (q = true → l = []) →
  Goods (zHm b k a l q).1 ∧ (zHm b k a l q).2.1 ≤ b.length ∧ (zBY (zHm b k a l q).1).length ≤ (zHm b k a l q).2.1 ∧ ((zHm b k a l q).2.2 = true → (zHm b k a l q).1 = [])
 | 0,a,l,q,hl,ha,he,hq=>⟨hl,ha,he,hq⟩
 | k + 1,a,l,q,hl,ha,he,hq=>by
  unfold zHm
  by_cases hs : stepS b a l = true
  ·rw [if_pos hs]
   simp only [stepS,decide_eq_true_eq] at hs
   obtain ⟨h1,h2,h3,h4,h5,h6⟩:=hs
   refine openG_inv b k _ _ _ ⟨zJu hl.srt _ _ _,h6,fun f hf=>?_⟩ h2 ?_ (with_q hq _ _ _)
   ·rcases withS_mem hf with h | ⟨rfl,ht⟩
    ·exact hl.each f h
    ·exact ⟨h5,ht⟩
   ·have:=withS_size l (zk b a).col (zk b a).row (zk b a).text
    have e : (zk b a).text.length = zo b a:=by simp only [zk,List.length_drop,List.length_take]; omega
    omega
  ·rw [if_neg hs]
   exact ⟨hl,ha,he,hq⟩
theorem openS_inv (b : Bs) : Goods (zCi b).1 ∧ (zCi b).2.1 ≤ b.length ∧ (zBY (zCi b).1).length ≤ (zCi b).2.1 ∧ ((zCi b).2.2 = true → (zCi b).1 = []):=openG_inv b _ 0 [] true .nil (Nat.zero_le _) (by simp [zBY]) (fun _=>rfl)
end Go.AM
set_option maxRecDepth 20000
namespace Go.AM
section
variable {C : CSpec} {GT : Nat → Option AV}
theorem ssheets_ev (v w : AV) (l : List Fil) (H : Heap) (hv : view H 3 v = some (l.map zi)) (hw : view H 3 w = some (l.map zi)) (hl : l.length ≤ 1000000) : EFun C GT zGU [v,w] H (.bool true) H:=by
 have hlm : (l.map zi).length = l.length:=List.length_map _
 refine zc ?_; refine zCa hv <| zCa hw <| zO (bne_eq_false_iff_eq.2 rfl) ?_; refine zBn (fun i : Nat=>[(5,zJ i),(1,w),(0,v)]) (fun i H'=>H' = H ∧ i ≤ l.length) (fun i=>l.length - i) 0 rfl ⟨rfl,by omega⟩ (fun i H1 ⟨hH,hi⟩=>?_)
 subst hH
 dsimp only
 by_cases hlt : i < l.length
 ·obtain ⟨c,hc⟩ : ∃ c,l[i]? = some c:=⟨_,List.getElem?_eq_getElem hlt⟩
  have hcm : (l.map zi)[i]? = some (zi c):=by rw [List.getElem?_map,hc]; rfl
  refine zCa hv <| zT tT ?_; refine zF4 i (zi c) hv rfl hcm (fun p hp=>?_)
  refine zAd (zi c) hp rfl ?_; refine zF4 i (zi c) hw rfl hcm (fun p2 hp2=>?_)
  refine zAd (zi c) hp2 rfl <| zR rfl <| zO (show negB true (c.col == c.col && (c.row == c.row && (c.text == c.text && true))) = false from by simp [negB]) <| zL (r:=i + 1) rfl tO ?_; refine zAT (i + 1) rfl ⟨rfl,by omega⟩ tO
 ·refine zCa hv <| zO tF ?_
  exact sRr
end
end Go.AM
set_option maxRecDepth 20000
namespace Go.AM
theorem goods_ok {l : List Fil} (h : Goods l) : ∀ f ∈ l,okF f:=(checkN_ok h.check).2
section
variable {C : CSpec} {GT : Nat → Option AV}
theorem pack_ev (hO : ∀ q k (b : Bs) H,(k = 1 ∨ b = []) → b.length ≤ 140737488355328 → C zDi [.lst q k (b.map zP)] H (.tup [opV (zCi b).2.2 (zCi b).1,zJ (zCi b).2.1]) H)
  (hW : ∀ lv l H,view H 3 lv = some (l.map zi) → C zDu [lv] H (.tup [wriV l,eV (zEe l)]) H) (q : Option Bool) (k : Nat) (b : Bs) (hk : k = 1 ∨ b = []) (hbl : b.length ≤ 140737488355328) (H : Heap) :
  EFun C GT zLS [.lst q k (b.map zP)] H (.tup [bsV (zBY (zCi b).1),.nili]) H:=by
 have ho:=hO q k b H hk hbl
 obtain ⟨hg,_,_,hq⟩:=openS_inv b
 generalize (zCi b).1 = L at *
 generalize (zCi b).2.2 = Q at *
 generalize (zCi b).2.1 = n at *
 have hw:=hW (opV Q L) L H (zKu _ _ hq H)
 have e1 : wriV L = bsV (zBY L):=if_pos hg.check
 rw [e1,hg.check] at hw
 have hw : C zDu [opV Q L] H (.tup [bsV (zBY L),.nili]) H:=hw
 clear hO hW
 generalize opV Q L = ov at *
 obtain ⟨bv,hbv⟩ : ∃ bv,bsV (zBY L) = bv:=⟨_,rfl⟩
 have hf : ∀ H,zDd H.length bv H = some (bv,H):=fun H=>by rw [← hbv]; exact zLJ (lstF_plain _ _)
 have hb : ∀ n,bv.bel n = true:=fun n=>by rw [← hbv]; exact lstF_bel _ _ _
 rw [hbv] at hw ⊢
 refine zc ?_; refine zI ho <| zR rfl <| zR rfl <| zI hw <| zR rfl <| zR rfl ?_; refine zBC rfl rfl ?_ ?_ (Old.refl H)
 ·exact frz_pair (hf _) (fun _=>rfl)
 ·simp [AV.bel,AV.belL,hb]
set_option maxHeartbeats 4000000 in
theorem bopens_ev (hM : ∀ q k (b : Bs) H,(k = 1 ∨ b = []) → b.length ≤ 140737488355328 → C zDn [.lst q k (b.map zP)] H (.tup [zIN 3 ((zCi b).1.map zi),zJ (zCi b).2.1]) H)
  (hO : ∀ q k (b : Bs) H,(k = 1 ∨ b = []) → b.length ≤ 140737488355328 → C zDi [.lst q k (b.map zP)] H (.tup [opV (zCi b).2.2 (zCi b).1,zJ (zCi b).2.1]) H)
  (hP : ∀ q k (b : Bs) H,(k = 1 ∨ b = []) → b.length ≤ 140737488355328 → C zF5 [.lst q k (b.map zP)] H (.tup [bsV (zBY (zCi b).1),.nili]) H)
  (hS : ∀ v w (l : List Fil) H,view H 3 v = some (l.map zi) → view H 3 w = some (l.map zi) → l.length ≤ 1000000 → C zC0 [v,w] H (.bool true) H)
  (hE : ∀ f,okF f → ∀ H,C zBy [zi f] H (bsV (zKE f)) H)
  (hB : ∀ v w (l : List UInt8) H,view H 1 v = some (l.map zP) → view H 1 w = some (l.map zP) → l.length ≤ 1000000 → C zDN [v,w] H (.bool true) H)
  (q : Option Bool) (k : Nat) (b : Bs) (hk : k = 1 ∨ b = []) (hbl : b.length ≤ 140737488355328) (H : Heap) : EFun C GT zEO [.lst q k (b.map zP)] H (.bool true) H:=by
 have hm:=hM q k b H hk hbl
 have ho:=hO q k b H hk hbl
 have hp:=fun H=>hP q k b H hk hbl
 obtain ⟨hg,hn1,hn2,hq⟩:=openS_inv b
 generalize (zCi b).1 = L at *
 generalize (zCi b).2.2 = Q at *
 generalize (zCi b).2.1 = n at *
 have hs:=hS (opV Q L) (zIN 3 (L.map zi)) L H (zKu _ _ hq H) ((zLM 3 _).view H) (by have:=hg.len; omega)
 have hok:=goods_ok hg
 have hlen:=hg.len
 have hle:=zKt L hok
 clear hM hO hP hS
 obtain ⟨lv,hlv⟩ : ∃ lv,zIN 3 (L.map zi) = lv:=⟨_,rfl⟩
 have hv : ∀ H,view H 3 lv = some (L.map zi):=fun H=>by rw [← hlv]; exact (zLM 3 _).view H
 rw [hlv] at hm hs
 clear hlv
 generalize opV Q L = ov at *
 have hbv:=bsV_view (zBY L)
 obtain ⟨bv,hbv2⟩ : ∃ bv,bsV (zBY L) = bv:=⟨_,rfl⟩
 rw [hbv2] at hbv hp
 clear hbv2
 have hlm : (L.map zi).length = L.length:=List.length_map _
 refine zc ?_; refine zI hm <| zR rfl <| zR rfl <| zI ho <| zR rfl <| zR rfl ?_; refine zI hs ?_; refine zBn (fun x : Nat × AV=>[(9,zJ x.1),(3,lv),(8,x.2),(4,zJ n),(6,zJ n),(7,.bool true),(0,.lst q k (b.map zP))]) (fun x H'=>Old H H' ∧ x.1 ≤ L.length ∧ Owns H H' x.2 1 ((zBY (L.take x.1)).map zP)) (fun x=>L.length - x.1) (0,.lst (some true) 0 []) rfl ⟨Old.refl H,by simp,.inl ⟨rfl,by simp [zBY]⟩⟩ (fun x H1 hi=>?_)
 obtain ⟨i,bo⟩:=x
 obtain ⟨hO,hi,ho2⟩:=hi
 dsimp only at hi ho2 ⊢
 by_cases hlt : i < L.length
 ·obtain ⟨g,hg⟩ : ∃ g,L[i]? = some g:=⟨_,List.getElem?_eq_getElem hlt⟩
  have hgm : (L.map zi)[i]? = some (zi g):=by rw [List.getElem?_map,hg]; rfl
  have hgo:=hok g (List.mem_of_getElem? hg)
  have hme:=hE g hgo
  have hlt2:=zKt (L.take (i + 1)) fun g hg=>hok g (List.mem_of_mem_take hg)
  have hll : (L.take (i + 1)).length ≤ 200:=by rw [List.length_take]; omega
  rw [zHW L i g hg,List.length_append] at hlt2
  refine zCa (hv H1) <| zT tT ?_; refine zF4 i (zi g) (hv H1) rfl hgm (fun p hp=>?_)
  refine zAd (zi g) hp rfl <| zI (hme _) ?_; refine zAs (H0:=H) (ys:=(zKE g).map zP) ho2 hO (bsV_view (zKE g) _) (by decide) (by simp only [List.length_map]; omega) (by simp [zKE,zKs]) (fun v' H' ho' hO' _ hfr=>?_)
  refine zL (r:=i + 1) rfl tO ?_; refine zAT (i + 1,v') rfl ⟨hO',by simp only; omega, ?_⟩ (by simp only; omega)
  rw [← List.map_append,← zHW L i g hg] at ho'
  exact ho'
 ·have he : L.take i = L:=List.take_of_length_le tO
  rw [he] at ho2
  have hp1:=hp H1
  have hb1:=hB _ _ (zBY L) H1 (hbv H1) ho2.view tO
  refine zCa (hv H1) <| zO tF <| zI hp1 <| zR rfl <| zR rfl <| zI hb1 ?_; refine zH <| zH <| zT tT <| zR rfl ?_; refine zH <| zH <| zH ?_
  exact zBC rfl rfl rfl rfl hO
end
end Go.AM
set_option maxRecDepth 20000
namespace Go.AM
section
variable {C : CSpec} {GT : Nat → Option AV}
end
end Go.AM
set_option maxRecDepth 100000
namespace Go.Proofs.YthpjgjdeogodjaaGreatDoor
open Go.AM
theorem len_of1 {n m N : Nat} (h : n * m < N) (hm : m = 1) : n ≤ N:=by subst hm; omega
section
variable {m : Int} {ev : Value} (hev : ∃ te pe,ev = .iface te pe)
theorem g_bsum16 (v : AV) (l : List UInt8) (H : Heap) (hv : view H 1 v = some (l.map zP)) (hl : l.length ≤ 1000) : GQ m ev zDj [v] H (.int .u16 (sumN 1 l : Nat)) H:=zN mixed k_book_sum (bksum_ev v l H hv hl)
theorem g_bentry (f : Fil) (hf : okF f) (H : Heap) : GQ m ev zEu [zi f] H (bsV (zKE f)) H:=zN mixed k_book_entry (bentry_ev g_bsum16 f hf H)
theorem g_mentryB (f : Fil) (hf : okB f) (H : Heap) : GQ m ev zBy [zi f] H (bsV (zKE f)) H:=zN mixed zLg (mentry_ev f hf H)
include hev in
theorem g_may (f : Fil) (H : Heap) : GQ m ev zDk [zx f.col f.row,.str f.text] H (eV (mayN f)) H:=zN mixed k_sheet_May (may_ev g_acheck (g_text hev) f H)
theorem g_sbytes (v w : AV) (l : List UInt8) (H : Heap) (hv : view H 1 v = some (l.map zP)) (hw : view H 1 w = some (l.map zP)) (hl : l.length ≤ 1000000) : GQ m ev zDN [v,w] H (.bool true) H:=zN mixed zLh (sbytes_ev v w l H hv hw hl)
include hev in
theorem g_write (lv : AV) (l : List Fil) (H : Heap) (hv : view H 3 lv = some (l.map zi)) : GQ m ev zDu [lv] H (.tup [wriV l,eV (zEe l)]) H:=zN mixed k_book_Write (write_ev (g_check hev) g_bentry lv l H hv)
theorem g_sheets (v w : AV) (l : List Fil) (H : Heap) (hv : view H 3 v = some (l.map zi)) (hw : view H 3 w = some (l.map zi)) (hl : l.length ≤ 1000000) : GQ m ev zC0 [v,w] H (.bool true) H:=
 zN mixed zKT (ssheets_ev v w l H hv hw hl)
theorem g_withc (f : Fil) (c r : Int) (H : Heap) : GQ m ev zA6 [zi f,zx c r] H (zK (cmpC f.col f.row c r)) H:=zN mixed zLk (withc_ev g_acomp f c r H)
theorem g_bsearch (lv : AV) (l : List Fil) (c r : Int) (H : Heap) (found : Bool) (hl : l.length ≤ 1000) (hs : Srtd l) (hv : view H 3 lv = some (l.map zi)) (hf : found = (match l[zIQ l c r]? with | some f=>isC c r f | none=>false)) :
  GQ m ev zn [lv,zx c r,.fn zA6 [] []] H (.tup [zJ (zIQ l c r),.bool found]) H:=
 zN mixed zA0 (bsearch_ev g_withc lv l hl hs c r H hv found hf)
theorem g_kwith (q : Bool) (l : List Fil) (c r : Int) (t : Bs) (H : Heap) (hq : q = true → l = []) (hl : l.length ≤ 1000) (hs : Srtd l) : GQ m ev zEt [opV q l,zx c r,.str t] H (opV (q && decide (t = [])) (zCD l c r t)) H:=by
 rw [← withV_op q l hq c r t]
 refine zN mixed k_sheet_With (kwith_ev (fun lv l c r H found a b c d=>g_bsearch lv l _ _ H found a b c d) (fun k H=>good_clone0 k H) (fun k l H h1 h2=>good_clone k l H h1 h2) (fun b i l H h1 h2 h3=>good_delete b i l H h1 h2 h3) (fun b b' i l f H h1 h2 h3 h4 h5=>good_insert b b' i l f H h1 h2 h3 h4 h5) (fun b' f H h=>good_insert0 b' f H h) q _ l ?_ hq hl hs c r t H)
 cases q with
 | true=>exact .inr (hq rfl)
 | false=>exact .inl rfl
theorem g_rwith (l : List Fil) (c r : Int) (t : Bs) (H : Heap) (hl : l.length ≤ 1000) (hs : Srtd l) : GQ m ev zDo [zIN 3 (l.map zi),zx c r,.str t] H (zIN 3 ((zCD l c r t).map zi)) H:=
 zN mixed k_sccref2_With (rwith_ev (q_ahead refK2) _ l hl hs c r t H ((zLM 3 _).view H)) (hn:=by cases l <;> rfl)
include hev in
theorem g_kopen (q : Option Bool) (k : Nat) (b : Bs) (H : Heap) (hk : k = 1 ∨ b = []) (hb : b.length ≤ 140737488355328) : GQ m ev zDi [.lst q k (b.map zP)] H (.tup [opV (zCi b).2.2 (zCi b).1,zJ (zCi b).2.1]) H:=
 zN mixed k_book_Open (bopen_ev g_bsum16 (g_may hev) g_kwith q k b hk hb H)
theorem g_mopen (q : Option Bool) (k : Nat) (b : Bs) (H : Heap) (hk : k = 1 ∨ b = []) (hb : b.length ≤ 140737488355328) : GQ m ev zDn [.lst q k (b.map zP)] H (.tup [zIN 3 ((zCi b).1.map zi),zJ (zCi b).2.1]) H:=
 zN mixed k_sccref3_Open (mopen_ev g_mentryB (q_in refK2) g_rtext g_rwith q k b hk hb H)
include hev in
theorem g_pack (q : Option Bool) (k : Nat) (b : Bs) (H : Heap) (hk : k = 1 ∨ b = []) (hb : b.length ≤ 140737488355328) : GQ m ev zF5 [.lst q k (b.map zP)] H (.tup [bsV (zBY (zCi b).1),.nili]) H:=
 zN mixed k_book_Pack (pack_ev (g_kopen hev) (g_write hev) q k b hk hb H)
include hev in
theorem g_bookOpens (q : Option Bool) (b : Bs) (H : Heap) (hb : (b.map zP).length ≤ 140737488355328) : GQ m ev zEN [.lst q 1 (b.map zP)] H (.bool true) H:=
 zN mixed zID (bopens_ev g_mopen (g_kopen hev) (g_pack hev) g_sheets (fun f hf H=>g_mentryB f (okB_of hf) H) g_sbytes q 1 b (.inl rfl) (by rwa [List.length_map] at hb) H)
end
end Go.Proofs.YthpjgjdeogodjaaGreatDoor
