/- Several texts of mine in one (Owe, Ke, Rj1, Bg3, Gpr). Own work. -/
import Derived.Test.YtafclpcpdmeodaaGreatDoorGAm30Fp1
import Derived.Test.YtafclpcpdmeodaaGreatDoorGRt2Kd
import Derived.Test.YtafclpcpdmeodaaGreatDoorGArfMg1
import Derived.Test.YtafclpcpdmeodaaGreatDoorXc
import Derived.Test.YtafclpcpdmeodaaGreatDoorGRo1Ro2
import Derived.Test.YtafclpcpdmeodaaGreatDoorGSf0Rt0
import Derived.Test.YtafclpcpdmeodaaGreatDoorGRf5Rf3
import Derived.Test.YtafclpcpdmeodaaGreatDoorGGqAm32
import Derived.Test.YtafclpcpdmeodaaGreatDoorGOn0Pr3
import Derived.Test.YtafclpcpdmeodaaGreatDoorGBu6Bu3
import Derived.Test.YtafclpcpdmeodaaGreatDoorGRq4On5
set_option linter.all false
set_option maxRecDepth 20000
namespace Go.AM
def zMi (H0 H:Heap) (v:AV) (k:Nat) (xs:List AV):Prop:=
  (v=.lst (some true) 0 []/\xs=[])\/∃ b,v=.sl (some true) b k 0 xs.length/\H0.length<=b/\H[b]?=some (.row k xs)
theorem zMi.nil (H0 H:Heap) (k:Nat):zMi H0 H (.lst (some true) 0 []) k []:=.inl ⟨rfl,rfl⟩
theorem zMi.toOwns {H0 H:Heap} {v:AV} {k:Nat} {xs:List AV} (h:zMi H0 H v k xs) (hx:xs≠[]):Owns H0 H v k xs:=by
  rcases h with ⟨_,h⟩|⟨b,h1,h2,h3⟩
  · exact absurd h hx
  · exact .inr ⟨b,h1,h2,h3,hx⟩
theorem zMi.keep {H0 H H':Heap} {v:AV} {k:Nat} {xs:List AV} (h:zMi H0 H v k xs) (hk:∀ b x,v.blk=some b->H[b]?=some x->H'[b]?=some x):zMi H0 H' v k xs:=by
  rcases h with h|⟨b,rfl,h1,h2⟩
  · exact .inl h
  · exact .inr ⟨b,rfl,h1,hk b _ rfl h2⟩
theorem zMi.push {H0 H:Heap} {v:AV} {k:Nat} {xs:List AV} (h:zMi H0 H v k xs) (x:ABlk):zMi H0 (H++[x]) v k xs:=h.keep fun _ _ _ hx=>zF hx
theorem zKF {H0 H:Heap} {v y:AV} {k bytes:Nat} {xs ys:List AV} {K:AV->Heap->Prop} (ho:zMi H0 H v k xs) (hH:Old H0 H) (hy:view H k y=some ys) (hm:(xs.length+ys.length)*bytes<=140737488355328) (hl:xs.length+ys.length<=9223372036854775807)
    (q:∀ v' H',zMi H0 H' v' k (xs++ys)->Old H0 H'->v'.blk=some H.length->(∀ c x,v.blk≠some c->H[c]?=some x->H'[c]?=some x)->K v' H'):actP (.append k bytes) [v,y] H K:=by
  rcases ho with ⟨rfl,rfl⟩|⟨b,rfl,h1,h2⟩
  · simp only [zQV,zQ7] at hl hm
    refine sAct (v:=.sl (some true) H.length k 0 ys.length) (H':=H++[.row k ys]) ?_ ?_
    · simp only [astep,hy]
      rw [zQQ ⟨by omega,by omega⟩]
    · exact q _ _ (.inr ⟨_,rfl,hH.1,zB⟩) (hH.push _) rfl fun _ _ _ hx=>zF hx
  · refine sAct (v:=.sl (some true) H.length k 0 (xs.length+ys.length)) (H':=H.set b .dead++[.row k (xs++ys)]) ?_ ?_
    · simp only [astep,hy,h2]
      rw [zQQ ⟨trivial,trivial,by omega,by omega,by omega⟩];simp
    · refine q _ _ (.inr ⟨_,by rw [zQR],hH.1, ?_⟩) ((hH.set h1 _).push _) rfl fun c x hc hx=>?_
      · have:(H.set b .dead).length=H.length:=zQZ
        rw [<-this];exact zB
      · exact zF (zC (fun e=>hc (by rw [e];rfl)) hx)
theorem own_take {H0 H:Heap} {v:AV} {w:Nat} {xs:List AV} (h:Owns H0 H v w xs) {k:Nat} (hk:k<=xs.length):∃ v',zB5 (some w) v none (some (.int .i64 (k:Int)))=some v'/\v'.blk=v.blk/\∀ H',(∀ b x,v.blk=some b->H[b]?=some x->H'[b]?=some x)->view H' w v'=some (xs.take k):=by
  rcases h with ⟨rfl,rfl⟩|⟨b,rfl,h1,h2,h3⟩
  · have:k=0:=by simpa using hk
    subst this;refine ⟨.lst (some true) 0 [],by simp [zB5,zDb,aHi,aLo,cutQL],rfl,fun H' _=>by simp [view]⟩
  · refine ⟨.sl (cutQ (some true) 0 k) b w 0 k, ?_,rfl,fun H' hH'=>?_⟩
    · have e:zDb xs.length none (some (.int .i64 (k:Int)))=some (0,k):=by
        simp only [zDb,aHi,aLo];rw [zQQ ⟨by omega,by omega⟩];simp
      simp only [zB5,zQz,e,zQg,zQ7,zSr]
    · have:=hH' b _ rfl h2
      simp only [view,zQz,this];rw [zQQ ⟨trivial,by omega⟩];simp
theorem own_drop {H0 H:Heap} {v:AV} {w:Nat} {xs:List AV} (h:Owns H0 H v w xs) {k:Nat} (hk:k<=xs.length):∃ v',zB5 (some w) v (some (.int .i64 (k:Int))) none=some v'/\v'.blk=v.blk/\∀ H',(∀ b x,v.blk=some b->H[b]?=some x->H'[b]?=some x)->view H' w v'=some (xs.drop k):=by
  rcases h with ⟨rfl,rfl⟩|⟨b,rfl,h1,h2,h3⟩
  · have:k=0:=by simpa using hk
    subst this;refine ⟨.lst (some true) 0 [],by simp [zB5,zDb,aHi,aLo,cutQL],rfl,fun H' _=>by simp [view]⟩
  · refine ⟨.sl (cutQ (some true) k xs.length) b w k (xs.length-k), ?_,rfl,fun H' hH'=>?_⟩
    · have e:zDb xs.length (some (.int .i64 (k:Int))) none=some (k,xs.length):=by
        simp only [zDb,aHi,aLo];rw [zQQ ⟨by omega,by omega⟩];simp
      simp only [zB5,zQz,e,zQg,zQ7]
    · have:=hH' b _ rfl h2
      simp only [view,zQz,this];rw [zQQ ⟨trivial,by omega⟩];rw [zQ6 (by rw [zQp];omega)]
theorem nil_blk (b:Nat):AV.blk (.lst (some true) 0 [])≠some b:=by simp [AV.blk]
end Go.AM
set_option maxRecDepth 20000
namespace Go.AM
section
variable {C:CSpec} {GT:Nat->Option AV}
theorem rsorted0_ev (H:Heap):EFun C GT zFe [.lst (some true) 0 []] H (.lst (some true) 0 []) H:=by
  refine zI ?_;refine zBB (fun i:Nat=>[(4,zK i),(3,.lst (some true) 0 []),(0,.lst (some true) 0 [])]) (fun i H'=>H'=H/\i=0) (fun i=>0) 0 rfl ⟨rfl,rfl⟩ (fun i H1 hi=>?_);obtain ⟨hH,hi⟩:=hi;subst hH hi;dsimp only;refine sLenL ?_;refine zG ?_;exact sRr
theorem tw_get {p:Fil->Bool} {o:List Fil} {k:Nat} {g:Fil} (hg:o[k]?=some g) (hk:k<=(o.takeWhile p).length):(p g=true->k+1<=(o.takeWhile p).length)/\(p g=false->(o.takeWhile p).length=k):=by
  induction o generalizing k with
  |nil=>simp at hg
  | cons x o ih=>
    by_cases hx:p x=true
    · rw [List.takeWhile_cons_of_pos hx,zQO] at hk ⊢
      cases k with
      | zero=>
        simp at hg;subst hg;exact ⟨fun _=>by omega,fun h=>by rw [hx] at h;cases h⟩
      | succ k=>
        have:=ih (k:=k) (by simpa using hg) tO;exact ⟨fun h=>by have:=this.1 h;omega,fun h=>by have:=this.2 h;omega⟩
    · rw [List.takeWhile_cons_of_neg hx] at hk ⊢
      simp at hk;subst hk;simp at hg;subst hg;exact ⟨fun h=>absurd h hx,fun _=>rfl⟩
theorem insF_at {f:Fil} {o:List Fil} {k:Nat} (h:(o.takeWhile (fun g=>decide (ltF g f))).length=k):insF f o=o.take k++f::o.drop k:=by
  have e:=zS2 (p:=fun g=>decide (ltF g f)) (l:=o);unfold insF;subst h;generalize o.takeWhile (fun g=>decide (ltF g f))=a at *;generalize o.dropWhile (fun g=>decide (ltF g f))=b at *;rw [<-e,List.take_left,List.drop_left]
theorem lessC_ltF (a b:Fil):zE2 a b=decide (ltF a b):=by
  rw [zSp,zRp];exact zQA a b
set_option maxHeartbeats 8000000 in
theorem rsorted_ev (hA:∀ (a b:Fil) H,C zBu [zCs a.col a.row,zCs b.col b.row] H (.bool (zE2 a b)) H) (b0:Nat) (xs:List Fil) (H:Heap) (hx:xs.length<=200) (hb0:H[b0]?=some (.row 3 (xs.map zl))) :
    EFun C GT zFe [.sl (some true) b0 3 0 xs.length] H (lstF 3 ((zJJ xs).map zl)) H:=by
  have hb0l:=(zg hb0).1;obtain ⟨n,hn⟩:∃ n,xs.length=n:=⟨_,rfl⟩;rw [hn];refine zI ?_;refine zBB (fun z:Nat×AV=>[(4,zK z.1),(3,z.2),(0,.sl (some true) b0 3 0 n)]) (fun z H'=>Old H H'/\z.1<=n/\Owns H H' z.2 3 ((zJJ (xs.take z.1)).map zl)) (fun z=>n-z.1) (0,.lst (some true) 0 []) rfl ⟨Old.refl H,by simp,.inl ⟨rfl,by simp [zJJ]⟩⟩ (fun z H1 hi=>?_);obtain ⟨i,out⟩:=z;obtain ⟨hO,hi,ho⟩:=hi;dsimp only at hi ho ⊢;have hb1:=zPB hO hb0;by_cases hlt:i<n
  · obtain ⟨f,hf⟩:∃ f,xs[i]?=some f:=⟨_,zQS tO⟩
    have hfm:(xs.map zl)[i]?=some (zl f):=by rw [zQa,hf];rfl
    obtain ⟨o,hoe⟩:∃ o,zJJ (xs.take i)=o:=⟨_,rfl⟩;have hol:o.length=i:=by rw [<-hoe,(zJx _).length_eq,zQk];omega
    have htk:zJJ (xs.take (i+1))=insF f o:=by rw [List.take_succ,hf,<-hoe];unfold zJJ;rw [zTD];rfl
    rw [hoe] at ho;have hov:=ho.view;have hom:(o.map zl).length=o.length:=zQW _;refine zHb ?_;refine zp tT ?_;refine zBB (fun k:Nat=>[(5,zK k),(0,.sl (some true) b0 3 0 n),(4,zK i),(3,out)]) (fun k H'=>H'=H1/\k<=o.length/\k<=(o.takeWhile (fun g=>decide (ltF g f))).length) (fun k=>o.length-k) 0 rfl ⟨rfl,by omega,by omega⟩ (fun k H2 hk=>?_);obtain ⟨hH,hk,hkt⟩:=hk;subst hH;dsimp only;by_cases hkl:k<o.length
    · obtain ⟨g,hg⟩:∃ g,o[k]?=some g:=⟨_,zQS hkl⟩
      have hgm:(o.map zl)[k]?=some (zl g):=by rw [zQa,hg];rfl
      have htw:=tw_get hg hkt;have ha:=fun H=>hA g f H;rw [lessC_ltF] at ha;obtain ⟨bb,rfl,q1,q2,q3⟩:∃ b,out=.sl (some true) b 3 0 (o.map zl).length/\H.length<=b/\H2[b]?=some (.row 3 (o.map zl))/\o.map zl≠[]:=by
        rcases ho with ⟨_,h⟩|h
        · have:o=[]:=by simpa using h
          rw [this] at hkl;simp at hkl
        · exact h
      clear hA;cases hc:decide (ltF g f) with
      | true=>
        rw [hc] at ha;refine zHb ?_;refine zp tT ?_;refine sAt tO ?_;refine zBV k (zl g) (zCs g.col g.row) (by simp) q2 hgm rfl ?_;refine sAt tO ?_;refine zBV i (zl f) (zCs f.col f.row) (by simp) hb1 hfm rfl ?_;refine zM (ha _) ?_;refine zD ?_;refine zD ?_;refine zS (r:=k+1) rfl tO ?_;refine zAP (k+1) rfl ⟨rfl,by omega,htw.1 hc⟩ tO
      | false=>
        have hins:=insF_at (htw.2 hc);rw [hc] at ha;refine zHb ?_;refine zp tT ?_;refine sAt tO ?_;refine zBV k (zl g) (zCs g.col g.row) (by simp) q2 hgm rfl ?_;refine sAt tO ?_;refine zBV i (zl f) (zCs f.col f.row) (by simp) hb1 hfm rfl ?_;refine zM (ha _) ?_;refine zD ?_;refine zG ?_;obtain ⟨s1,a1,b1,w1⟩:=own_take ho (k:=k) (by rw [zQW];omega);obtain ⟨s2,a2,b2,w2⟩:=own_drop ho (k:=k) (by rw [zQW];omega);refine zy a1 ?_;refine zKF (H0:=H) (zMi.nil _ _ _) hO (w1 _ fun _ _ _ h=>h) ?_ ?_ (fun v1 H3 ho3 hO3 hb3 hf3=>?_)
        · simp only [zQV,zQk,zQW];omega
        · simp only [zQV,zQk,zQW];omega
        rw [zRC] at ho3;have hown3:Owns H H3 (.sl (some true) bb 3 0 (o.map zl).length) 3 (o.map zl):=ho.keep fun b x hb hx=>hf3 b x (nil_blk b) hx;have hlt3:∀ b,AV.blk (.sl (some true) bb 3 0 (o.map zl).length)=some b->b<H2.length:=fun b hb=>(ho.lt hb).2;have hb3':=zPB hO3 hb0;refine sAt tO ?_;refine zBV i (zl f) (zl f) (by simp) hb3' hfm rfl ?_;refine zAW (vs':=[zl f]) rfl rfl ?_;refine zKF (H0:=H) (ho3.push _) (hO3.push _) zAo ?_ ?_ (fun v2 H4 ho4 hO4 hb4 hf4=>?_)
        · simp only [zQk,zQW,zQO,zQV];omega
        · simp only [zQk,zQW,zQO,zQV];omega
        have hne3:∀ b,AV.blk (.sl (some true) bb 3 0 (o.map zl).length)=some b->v1.blk≠some b:=fun b hb e=>by
          rw [hb3] at e;simp only [zQT] at e;have:=hlt3 b hb;omega
        refine zy a2 ?_;refine zKF (H0:=H) ho4 hO4 (w2 _ fun b x hb hx=>hf4 b x (hne3 b hb) (zF (hf3 b x (nil_blk b) hx))) ?_ ?_ (fun v3 H5 ho5 hO5 hb5 hf5=>?_)
        · simp only [zQR,zQp,zQk,zQW,zQO,zQV];omega
        · simp only [zQR,zQp,zQk,zQW,zQO,zQV];omega
        refine zS (r:=i+1) rfl tO ?_;refine zAP (i+1,v3) rfl ⟨hO5,by simp only;omega, ?_⟩ (by simp only;omega);have e5:(o.map zl).take k++[zl f]++(o.map zl).drop k=(insF f o).map zl:=by
          rw [hins];simp only [zQ5,zTA,List.map_drop,zQe,zQu,zRP]
        simp only;rw [htk,<-e5];exact ho5.toOwns (by simp)
    · have hke:k=o.length:=by omega
      have htl:(o.takeWhile (fun g=>decide (ltF g f))).length=k:=by
        have:=(List.takeWhile_sublist (fun g=>decide (ltF g f)) (l:=o)).length_le;omega
      have hins:=insF_at htl;clear hA;refine sLenN o.length hov hom ?_;refine zk tF ?_;refine zG ?_;refine zG ?_;obtain ⟨s1,a1,b1,w1⟩:=own_take ho (k:=k) (by rw [zQW];omega);obtain ⟨s2,a2,b2,w2⟩:=own_drop ho (k:=k) (by rw [zQW];omega);refine zy a1 ?_;refine zKF (H0:=H) (zMi.nil _ _ _) hO (w1 _ fun _ _ _ h=>h) ?_ ?_ (fun v1 H3 ho3 hO3 hb3 hf3=>?_)
      · simp only [zQV,zQk,zQW];omega
      · simp only [zQV,zQk,zQW];omega
      rw [zRC] at ho3;have hown3:Owns H H3 out 3 (o.map zl):=ho.keep fun b x hb hx=>hf3 b x (nil_blk b) hx;have hlt3:∀ b,AV.blk out=some b->b<H2.length:=fun b hb=>(ho.lt hb).2;have hb3':=zPB hO3 hb0;refine sAt tO ?_;refine zBV i (zl f) (zl f) (by simp) hb3' hfm rfl ?_;refine zAW (vs':=[zl f]) rfl rfl ?_;refine zKF (H0:=H) (ho3.push _) (hO3.push _) zAo ?_ ?_ (fun v2 H4 ho4 hO4 hb4 hf4=>?_)
      · simp only [zQk,zQW,zQO,zQV];omega
      · simp only [zQk,zQW,zQO,zQV];omega
      have hne3:∀ b,AV.blk out=some b->v1.blk≠some b:=fun b hb e=>by
        rw [hb3] at e;simp only [zQT] at e;have:=hlt3 b hb;omega
      refine zy a2 ?_;refine zKF (H0:=H) ho4 hO4 (w2 _ fun b x hb hx=>hf4 b x (hne3 b hb) (zF (hf3 b x (nil_blk b) hx))) ?_ ?_ (fun v3 H5 ho5 hO5 hb5 hf5=>?_)
      · simp only [zQR,zQp,zQk,zQW,zQO,zQV];omega
      · simp only [zQR,zQp,zQk,zQW,zQO,zQV];omega
      refine zS (r:=i+1) rfl tO ?_;refine zAP (i+1,v3) rfl ⟨hO5,by simp only;omega, ?_⟩ (by simp only;omega);have e5:(o.map zl).take k++[zl f]++(o.map zl).drop k=(insF f o).map zl:=by
        rw [hins];simp only [zQ5,zTA,List.map_drop,zQe,zQu,zRP]
      simp only;rw [htk,<-e5];exact ho5.toOwns (by simp)
  · have he:xs.take i=xs:=zQ6 tO
    rw [he] at ho;obtain ⟨H4,hf4,hO4,_⟩:=ho.frz hO;refine zHb ?_;refine zk tF ?_;exact sRetF rfl rfl hf4 (lstF_bel _ _ _) hO4
end
end Go.AM
set_option maxRecDepth 20000
namespace Go.AM
section
variable {C:CSpec} {GT:Nat->Option AV}
theorem sRet2G {F:AF} {a b:Nat} {H H1:Heap} {fr:Fr} {v1 v2:AV} (hF:F.results=[.tmp a,.tmp b]) (hk:F.keep=false) (h1:zLQ fr a=v1) (h2:zLQ fr b=v2) (hf:zEE H.length (.tup [v1,v2]) H1=some (.tup [v1,v2],H1)) (hb:(AV.tup [v1,v2]).bel H.length=true) (ho:Old H H1):retP F H fr H1 (.tup [v1,v2]) H:=by
  refine zAq hk ?_ hf hb ho;rw [zFA] at h1 h2;simp only [hF,zBa,zKq,h1,h2,zQg];rfl
variable {k0:Int} {row:Bool} {at_ many cols rows:Int} {bx:Bx}
set_option maxHeartbeats 4000000 in
theorem rrew_ev (c:Chg) (t:Bs) (ht:zBq t=0) (hP:∀ n,zAi t=some n->∀ H,C zBD [.str t] H (.tup [ndV n,zJ 0,zJ 0]) H)
    (hN:∀ n,zAi t=some n->∀ H,C zBY [(ccV k0 row at_ many cols rows bx),ndV n] H (ndV (onN c n)) H)
    (hS:∀ n,zAi t=some n->∀ H,C zCN [ndV n,ndV (onN c n)] H (.bool (eqN n (onN c n))) H) (hPr:∀ n,zAi t=some n->∀ H,C zEi [ndV (onN c n)] H (.tup [.str (zDZ (onN c n)),zK (zB7 (onN c n))]) H) (H:Heap) :
    EFun C GT zER [.str t,(ccV k0 row at_ many cols rows bx)] H (.tup [.str (rewP c t).2,zK (rewP c t).1]) H:=by
  by_cases h:t.head?=some 61
  · cases hq:zAi t with
    | none=>
      unfold zBq at ht;by_cases h2:200<t.length
      · rw [zQQ h2] at ht;cases ht
      · rw [zQN h2,zQQ h,hq] at ht;cases ht
    | some n=>
      have hp:=hP n hq;have hs:=hS n hq;have hn:=hN n hq;have hpr:=hPr n hq;have h0:t[0]?=some 61:=by rw [<-List.head?_eq_getElem?];exact h
      have hne:(t==([]:Bs))=false:=tN (fun e=>by rw [e] at h;cases h);clear hP hS hN hPr;rw [rewP_some hq];cases he:eqN n (onN c n) with
      | true=>
        rw [he] at hs;refine zI<|zBr (x:=(ccV k0 row at_ many cols rows bx)) rfl<|zk hne<|zCB (i:=0) rfl h0<|sX ?_
        refine sSA (ndV n) ?_;refine sX ?_;refine sSA (ndV (onN c n)) ?_;refine sX ?_;exact sRv
      | false=>
        rw [he] at hs;show EFun C GT zER [.str t,(ccV k0 row at_ many cols rows bx)] H (.tup [.str (zDZ (onN c n)),zK (zB7 (onN c n))]) H;by_cases hl:(txt (onN c n)).length<=199
        · have e4:zB7 (onN c n)=0:=by unfold zB7;rw [zQQ hl]
          rw [e4] at hpr ⊢;refine zI<|zBr (x:=(ccV k0 row at_ many cols rows bx)) rfl<|zk hne<|zCB (i:=0) rfl h0<|sX ?_
          refine sSA (ndV n) ?_;refine sX ?_;refine sSA (ndV (onN c n)) ?_;refine sX ?_;exact sRv
        · have e4:zB7 (onN c n)=4:=by unfold zB7;rw [zQN hl]
          have et:zDZ (onN c n)=[]:=by unfold zDZ;rw [zQN hl]
          rw [e4,et] at hpr ⊢;refine zI<|zBr (x:=(ccV k0 row at_ many cols rows bx)) rfl<|zk hne<|zCB (i:=0) rfl h0<|sX ?_
          refine sSA (ndV n) ?_;refine sX ?_;refine sSA (ndV (onN c n)) ?_;refine sX ?_;exact sRv
  · rw [rewP_none (zNQ h)]
    refine zI<|sX ?_
    cases t with
    | nil => refine zD ?_
             refine sX ?_;exact sRv
    | cons a r=>
      have e1:((a.toNat:Int) != 61)=true:=zQ8.2 (fun e=>h (by
        have:a=61:=by rw [<-UInt8.toNat_inj];show a.toNat=61;omega
        rw [this];rfl))
      refine sX ?_;refine zCB (i:=0) rfl rfl<|sX ?_
      exact sRv
abbrev RwH (C:CSpec) (cv:AV) (c:Chg) (t:Bs):Prop:=∀ H,C zCw [.str t,cv] H (.tup [.str (rewP c t).2,zK (rewP c t).1]) H
def insTailC:AC:=zGo.rest.first.body.behind 3
set_option maxHeartbeats 4000000 in
theorem ins_tail {K:Post} {H0 H:Heap} (hI:InH C) (g:Fil) (e2:Nat) (t2:Bs) (hrw:∀ H,C zCw [.str g.text,ccV 2 row at_ many 0 0 ⟨0,0,0,0⟩] H (.tup [.str t2,zK e2]) H) (b i:Nat) (lv out:AV) (xs:List AV) (hb:H[b]?=some (.box (zl g).cells)) (hO:Old H0 H) (hbl:H0.length<=b) (ho:Owns H0 H out 3 xs) (hx:xs.length<=200)
    (hret:∀ e fr' H',(okC g.col g.row=false/\e=4\/okC g.col g.row=true/\e2≠0/\e=e2)->zLQ fr' 8=.lst (some true) 0 []->zLQ fr' 9=zK e->Old H0 H'->K .ret fr' H')
    (hnext:∀ fr' H' out',okC g.col g.row=true->e2=0->zT fr' [12,3,2,1,0,13]=[(12,out'),(3,zJ many),(2,zJ at_),(1,.bool row),(0,lv),(13,zK i)]->Old H0 H'->Owns H0 H' out' 3 (xs++[zl ⟨g.col,g.row,t2⟩])->K .normal fr' H') :
    EW C GT insTailC K [(3,zJ many),(2,zJ at_),(1,.bool row),(0,lv),(13,zK i),(14,.ref b 0 0 0),(12,out)] H:=by
  have hi:=hI g.col g.row;clear hI;cases hok:okC g.col g.row with
  | false=>
    rw [hok] at hi;refine sX ?_;exact hret 4 _ _ (.inl ⟨hok,rfl⟩) rfl rfl hO
  | true=>
    rw [hok] at hi;have hf:zEf [.int .i64 0,.bool false,.int .i64 0,.int .i64 0,.int .i64 0,.int .i64 0,.int .i64 0,.int .i64 0,.int .i64 0,.int .i64 0] [(0,1),(1,1),(2,1),(3,1)] [.int .i64 2,.bool row,zJ at_,zJ many]=some (ccV 2 row at_ many 0 0 ⟨0,0,0,0⟩).cells:=by simp [zEf,splice,AV.cells,AV.one,ccV,zJ]
    by_cases he:e2=0
    · subst he
      have hb2:(H.set b (.box (zl ⟨g.col,g.row,t2⟩).cells))[b]?=some (.box (zl ⟨g.col,g.row,t2⟩).cells):=zV hb;have ho2:Owns H0 (H.set b (.box (zl ⟨g.col,g.row,t2⟩).cells)) out 3 xs:=ho.set (ho.ne_box hb) _;refine sX ?_;refine sS (AV.str t2) (zl ⟨g.col,g.row,t2⟩).cells ?_;refine sX ?_;refine zAW (vs':=[zl { col:=g.col,row:=g.row,text:=t2 }]) rfl rfl ?_;refine zBt (H0:=H0) (ys:=[zl ⟨g.col,g.row,t2⟩]) (ho2.push _) ((hO.set hbl _).push _) zAo (by decide) (by simp only [zRZ];omega) (by simp) (fun v' H' ho' hO' _ hfr=>?_);exact hnext _ _ v' hok rfl rfl hO' ho'
    · have e1:((e2:Int) != 0)=true:=zQ8.2 tO
      refine sX ?_;exact hret e2 _ _ (.inr ⟨hok,he,rfl⟩) rfl rfl hO
end
end Go.AM
set_option maxRecDepth 20000
namespace Go.AM
theorem wval_drop {ws:List Nat} {i:Nat} (h:i<ws.length):wval (ws.drop i)=ws[i]+4294967296*wval (ws.drop (i+1)):=by
  rw [<-List.getElem_cons_drop h,wval]
theorem or32' (a b:Nat) (ha:a<4294967296) (hb:b<4294967296):zIn .or .u64 ((b*4294967296:Nat):Int) (a:Int)=some (.int .u64 ((b*4294967296+a:Nat):Int)):=by
  have h:=or32 a b ha hb;simp only [zIn] at h ⊢;have e:(BitVec.ofInt IntKind.u64.bits ((b*4294967296:Nat):Int) ||| BitVec.ofInt IntKind.u64.bits (a:Int))=(BitVec.ofInt IntKind.u64.bits (a:Int) ||| BitVec.ofInt IntKind.u64.bits ((b*4294967296:Nat):Int)):=BitVec.or_comm _ _;rw [e,h]
  congr 2
  omega
theorem pad_set (qs:List Nat) (i q:Nat):((List.replicate (i+1) 0++qs).map zBT).set i (zBT q)=(List.replicate i 0++q::qs).map zBT:=by
  rw [<-List.map_set]
  congr 1
  rw [List.replicate_succ',zQu,zRv _ _ (by simp)];simp
theorem pad_get2 (qs:List Nat) (i:Nat):((List.replicate (i+1) 0++qs).map zBT)[i]?=some (zBT 0):=by
  rw [zQa,zQc (by simp),zSv];simp
def rowU (n:Nat) (f:Nat->UInt8):List AV:=rowF n fun k=>zo (f k)
theorem rowU_set {n i:Nat} {f:Nat->UInt8} {v:UInt8}:(rowU n f).set i (zo v)=rowU n (upd f i v):=by
  unfold rowU;rw [rowF_set];congr 1;funext j;unfold upd;split <;> rfl
theorem zOl {n i:Nat} {f:Nat->UInt8} (h:i<n):(rowU n f)[i]?=some (zo (f i)):=rowF_get h
theorem rowU_of (xs:List UInt8):xs.map zo=rowU xs.length fun k=>xs.getD k 0:=by
  apply zSL;intro i;by_cases h:i<xs.length
  · rw [zOl h,zQa,zQS h,zRT,zQS h];rfl
  · rw [zQ9 (by simp;omega),zQ9 (by unfold rowU;rw [rowF_len];omega)]
def turn (n i:Nat) (f:Nat->UInt8):Nat->UInt8:=fun k=>if k<i\/n-i<=k then f (n-1-k) else f k
theorem turn_zero (n:Nat) (f:Nat->UInt8):rowU n (turn n 0 f)=rowU n f:=by
  unfold rowU;refine zJ4 fun k hk=>?_;unfold turn;rw [zQN tO]
theorem turn_succ {n i:Nat} {f:Nat->UInt8} (h:i<n-1-i):rowU n (upd (upd (turn n i f) i (turn n i f (n-1-i))) (n-1-i) (turn n i f i))=rowU n (turn n (i+1) f):=by
  unfold rowU;refine zJ4 fun k hk=>?_
  congr 1
  have e1:turn n i f (n-1-i)=f (n-1-i):=by unfold turn;rw [zQN tO]
  have e2:turn n i f i=f i:=by unfold turn;rw [zQN tO]
  rw [e1,e2];unfold upd turn;by_cases h1:k=n-1-i
  · rw [zQQ h1,zQQ tO];congr 1;omega
  · rw [zQN h1]
    by_cases h2:k=i
    · rw [zQQ h2,zQQ tO];congr 1;omega
    · rw [zQN h2]
      by_cases h3:k<i\/n-i<=k
      · rw [zQQ h3,zQQ tO]
      · rw [zQN h3,zQN tO]
theorem turn_end {i:Nat} {xs:List UInt8} (h:xs.length-1-i<=i) (hi:i<=xs.length):rowU xs.length (turn xs.length i fun k=>xs.getD k 0)=xs.reverse.map zo:=by
  rw [rowU_of xs.reverse,zR7];unfold rowU;refine zJ4 fun k hk=>?_
  congr 1
  have e:xs.reverse.getD k 0=xs.getD (xs.length-1-k) 0:=by
    rw [zRT,zRT,List.getElem?_reverse hk]
  show _=xs.reverse.getD k 0;rw [e];unfold turn;split
  · rfl
  · congr 1;omega
section
variable {C:CSpec} {GT:Nat->Option AV}
theorem twin_ev (av:AV) (m:Nat) (H:Heap) (ha:Mag av m) (hm:m≠0) (hl:(wds m).length<=100000):EFun C GT zGJ [av] H (.lst (some false) 1 ((wds m).map zBT)) H:=by
  have h0:(wds m).map zBT≠[]:=by rw [zDC hm];simp
  refine zI ?_;refine zBt (H0:=H) (Owns.nil _ _ _) (Old.refl _) (ha.view H) tO (by simp;omega) h0 (fun v' H' ho' hO' hb hf=>?_);rw [zRC] at ho';obtain ⟨H2,hf2,hO2,_⟩:=ho'.frz hO';have e:lstF 1 ((wds m).map zBT)=.lst (some false) 1 ((wds m).map zBT):=by rw [zDC hm];rfl
  rw [e] at hf2;exact sRetF rfl rfl hf2 rfl hO2
structure SSl where
  k:Nat
  r:Nat
  qs:List Nat
theorem small_ev (hT:∀ b m ws H,ws.length=m->H[b]?=some (.row 1 (ws.map zBT))->Small ws->m<=1000000->C zAE [.sl (some false) b 1 0 m] H (.sl (some false) b 1 0 (wds (wval ws)).length) H)
    (av:AV) (a d n:Nat) (H:Heap) (ha:Mag av a) (hn:(wds a).length=n) (hl:n<=100000) (hd0:0<d) (hd:d<4294967296):EFun C GT zFo [av,zBT d] H (.tup [zFL (a/d),zBT (a%d)]) H:=by
  have hal:((wds a).map zBT).length=n:=by rw [zQW,hn]
  refine zI ?_;refine zBC n ha hal ?_;refine sMake (n:=n) rfl (Int.le_refl _) ⟨by omega,by omega⟩ rfl ?_;refine zBC n ha hal ?_;refine sW64 ⟨by omega,by omega⟩ ?_;refine zBB (fun s:SSl=>[(8,zJ ((s.k:Int)-1)),(1,zBT d),(6,.sl (some false) H.length 1 0 n),(0,av),(7,u64V s.r)])
    (fun s H'=>Old H H'/\s.k<=n/\s.qs.length=n-s.k/\Small s.qs/\s.r<d/\H'[H.length]?=some (.row 1 ((List.replicate s.k 0++s.qs).map zBT))/\wval ((wds a).drop s.k)=d*wval s.qs+s.r) (fun s=>s.k) ⟨n,0,[]⟩ rfl
    ⟨(Old.refl _).push _,zQU _,by simp,(fun w hw=>by cases hw),hd0,by rw [zRk,zSt];exact zB,by show wval ((wds a).drop n)=d*wval []+0;rw [List.drop_of_length_le tO];rfl⟩ (fun ⟨k,r,qs⟩ H1 ⟨hO,hk,hq,hsm,hr,hrow,hval⟩=>?_)
  simp only at hk hq hsm hr hrow hval;dsimp only;refine zEQ (fun h=>?_) (fun h=>?_)
  · have h:1<=k:=by have:=zQ2 h;omega
    obtain ⟨i,rfl⟩:∃ i,k=i+1:=⟨k-1,by omega⟩;have hi:i<(wds a).length:=by omega
    have hax:=zKp hi;have hdr:=wval_drop hi;have hsx:=zB0 a _ (zRV hi);generalize (wds a)[i]=w at *;have hq1:(r*4294967296+w)/d<4294967296:=by
      rw [Nat.div_lt_iff_lt_mul hd0];have:(r+1)*4294967296<=d*4294967296:=zRB _ hr;rw [zRj 4294967296 d];omega
    have hqt:(((r*4294967296+w:Nat)):Int).tdiv (d:Int)=(((r*4294967296+w)/d:Nat):Int):=(Int.ofNat_tdiv _ _).symm;have hrt:(((r*4294967296+w:Nat)):Int).tmod (d:Int)=(((r*4294967296+w)%d:Nat):Int):=(Int.ofNat_tmod _ _).symm;have hrd:(r*4294967296+w)%d<d:=Nat.mod_lt _ hd0;have e:=Nat.div_add_mod (r*4294967296+w) d;have hne:(d:Int)≠0:=by omega
    obtain ⟨q,hqd⟩:∃ q,(r*4294967296+w)/d=q:=⟨_,rfl⟩;obtain ⟨rm,hrm⟩:∃ rm,(r*4294967296+w)%d=rm:=⟨_,rfl⟩;rw [hqd] at hq1 hqt e;rw [hrm] at hrt hrd e;have hget:=pad_get2 qs i;have hset:=pad_set qs i q;refine zy (shl32 r tO) ?_;refine zE6 i (zBT w) ha tO hax ?_;refine zA4 (zBT w) rfl ?_;refine zEA (r:=w) rfl tO ?_;refine zy (or32' w r hsx tO) ?_;refine zEA (r:=d) rfl tO ?_;refine zBA hne ?_;refine sWu64 q (by rw [hqt];omega) ?_;refine zNK q tO ?_;refine sAt ⟨by omega,by omega⟩ ?_;refine zKb i (zBT q) tO hrow hget rfl (by decide) rfl (fun cs h=>by cases h) ?_;refine zEA (r:=d) rfl tO ?_;refine zBA hne ?_;refine zFR (r:=(rm:Int)) hrt ?_;refine sW64 ⟨by omega,by omega⟩ ?_;refine zAP (SSl.mk i rm (q::qs)) ?_ ⟨hO.set (zQU _) _,by simp only;omega,by simp only [zQO];omega, ?_,hrd,by simp only;rw [hset];exact zV hrow, ?_⟩ (by simp only;omega)
    · have:((i+1:Nat):Int)-1-1=(i:Int)-1:=by omega
      simp only [<-this];rfl
    · intro x hx
      rcases zRQ.1 hx with rfl|hx
      · exact hq1
      · exact hsm x hx
    · simp only [wval]
      rw [hdr,hval];rw [zSM,zSM,<-Nat.mul_assoc d 4294967296,zRj d 4294967296,zR9];omega
  · have h:k=0:=by have:=zRA h;omega
    subst h;rw [zSN,zE0] at hval;rw [zSl,zRC] at hrow;have hv:wval qs=a/d:=by rw [hval,Nat.mul_add_div hd0,Nat.div_eq_of_lt hr];rfl
    have hm:a%d=r:=by rw [hval,Nat.mul_add_mod,zSf hr]
    have ht:=hT H.length n qs H1 tO hrow hsm tO;rw [hv] at ht;rw [hm];have hfz:=zP7 (H0:=H) (H:=H1) (b:=H.length) (n:=a/d) (zQU _) hrow hsm hv;refine zM ht ?_;refine zNK r tO ?_;exact sRetF (v0:=.tup [.sl (some false) H.length 1 0 (wds (a/d)).length,zBT r]) rfl rfl (by simp only [zEE,zLP] at hfz ⊢;rw [hfz];rfl) rfl (hO.set (zQU _) _)
structure STx where
  m:Nat
  mv:AV
  v:AV
  out:List UInt8
theorem btext_ev (hTw:∀ av m H,Mag av m->m≠0->(wds m).length<=100000->C zCy [av] H (.lst (some false) 1 ((wds m).map zBT)) H)
    (hSm:∀ av a d H,Mag av a->(wds a).length<=100000->0<d->d<4294967296->C zCX [av,zBT d] H (.tup [zFL (a/d),zBT (a%d)]) H)
    (b:Nat) (v:Int) (H:Heap) (hb:H[b]?=some (.box (zF5 v))) (hv:v.natAbs<10000000000000000000000) (hl:(wds v.natAbs).length<=100):EFun C GT zCl [.ref b 0 0 0,zJ 10] H (.str (digR v)) H:=by
  have hb2:H[b]?=some (.box [.bool (decide (v<0)),zFL v.natAbs]):=hb;clear hb
  have hdl : (decL v.natAbs).length ≤ 22 := decL_len 22 _ (by have:(10:Nat)^22=10000000000000000000000:=by decide
                                                              omega)
  refine zI ?_;refine zy rfl ?_;refine zG ?_;refine zA (zFL v.natAbs) hb2 rfl ?_;refine zBC (wds v.natAbs).length (zGR _) (by simp) ?_;by_cases h0:v=0
  · subst h0
    refine zD ?_;exact sRr
  have hz:(wds v.natAbs).length≠0:=by rw [zDC tO];simp
  refine zEQ (fun h=>absurd (eq_of_beq h) tO) (fun _=>?_);have htw:=hTw (zFL v.natAbs) v.natAbs H (zGR _) tO tO;have hdig:digR v=(signed v).reverse:=by unfold digR;rw [zQN h0]
  rw [hdig];refine zA (zFL v.natAbs) hb2 rfl ?_;refine zM (htw) ?_;refine zBB (fun s:STx=>[(5,s.v),(1,zJ 10),(6,s.mv),(0,.ref b 0 0 0)]) (fun s H'=>Old H H'/\Owns H H' s.v 1 (s.out.map zo)/\Mag s.mv s.m/\s.out++decL s.m=decL v.natAbs/\s.m<=v.natAbs/\(s.m≠0\/s.out≠[])) (fun s=>s.m) ⟨v.natAbs,_,.lst (some true) 0 [],[]⟩ rfl
    ⟨Old.refl _,Owns.nil _ _ _,⟨_,_,rfl,.inl rfl⟩,rfl,zQU _,.inl (by show v.natAbs≠0;omega)⟩ (fun ⟨m,mv,ov,out⟩ H1 ⟨hO,hown,hmg,hdg,hmle,hne⟩=>?_)
  simp only at hown hmg hdg hmle hne;dsimp only;have hml:(wds m).length<=100:=zRb (zNj hmle) hl;refine zBC (wds m).length hmg (by simp) ?_;refine zEQ (fun h=>?_) (fun h=>?_)
  · have h0:m≠0:=fun e=>by subst e;exact absurd h (by simp [zEz])
    have hsm:=hSm mv m 10 H1 hmg tO tO tO;rw [zIl h0] at hdg;have hol:out.length<=22:=by
      have:=zQb List.length hdg;rw [zQR] at this;omega
    have hmod:m%10<10:=Nat.mod_lt _ tO;have hu:(UInt8.ofNat (48+m%10)).toNat=48+m%10:=by rw [UInt8.toNat_ofNat'];omega
    refine zNK 10 tO ?_;refine zM hsm ?_;refine zy rfl ?_;refine zy rfl ?_;refine zEQ (fun _=>?_) (fun h=>absurd (zRA h) tO);refine zNK (48+m%10) tO ?_;refine zFR (r:=((UInt8.ofNat (48+m%10)).toNat:Int)) (by rw [hu,IntKind.wrap_u8];omega) ?_;refine zAW (vs':=[zo (UInt8.ofNat (48+m%10))]) rfl rfl ?_;refine zBt (H0:=H) (hown.push _) (hO.push _) zAo tO (by simp;omega) (by simp) (fun v' H' ho' hO' hblk hfr=>?_);exact zAP (STx.mk (m/10) (zFL (m/10)) v' (out++[UInt8.ofNat (48+m%10)])) rfl ⟨hO',by simp only [zQ5];exact ho',zGR _,by simp only [zQu];exact hdg,by simp only;omega,.inr (by simp)⟩ (by simp only;omega)
  · have hm0:m=0:=by
      by_cases e:m=0
      · exact e
      · exact absurd h (by rw [zDC e];simp)
    subst hm0;rw [zJy,zRk] at hdg;have hoe:out≠[]:=hne.resolve_left (by simp);have hol:out.length<=22:=by rw [hdg];exact hdl
    have fin:∀ (ov:AV) (out:List UInt8) (H1:Heap),Old H H1->Owns H H1 ov 1 (out.map zo)->out≠[]->out.length<=23->EW C GT (zEb.behind 6) (finF zCl H (.str out.reverse) H) [(5,ov)] H1:=by
      intro ov out H1 hO hown hne hlen;obtain ⟨c,rfl,hcl,hrow⟩:∃ c,ov=.sl (some true) c 1 0 out.length/\H.length<=c/\H1[c]?=some (.row 1 (out.map zo)):=by
        rcases hown with ⟨_,h⟩|⟨c,h1,h2,h3,_⟩
        · exact absurd (by simpa using h) hne
        · exact ⟨c,by rw [h1,zQW],h2,h3⟩
      obtain ⟨n,hn⟩:∃ n,out.length=n:=⟨_,rfl⟩;have hn0:0<n:=by rw [<-hn];exact zSQ.2 hne
      rw [rowU_of,hn,<-turn_zero] at hrow;rw [hn];refine zHb ?_;refine zS (r:=n-1) tO tO ?_;refine zBB (fun i:Nat=>[(9,zJ ((n:Int)-1-i)),(8,zK i),(5,.sl (some true) c 1 0 n)]) (fun i H'=>Old H H'/\i<=n/\i<=n-i/\H'[c]?=some (.row 1 (rowU n (turn n i fun k=>out.getD k 0)))) (fun i=>n-i) 0 ?_ ⟨hO,zRG _,by omega,hrow⟩ (fun i H2 ⟨hO2,hi,hi2,hrow2⟩=>?_)
      · have:((n-1:Nat):Int)=(n:Int)-1-(0:Nat):=by omega
        simp only [<-this];rfl
      dsimp only;refine zEQ (fun h=>?_) (fun h=>?_)
      · have h:i<n-1-i:=by have:=zQ2 h;omega
        have g1:=zOl (n:=n) (i:=i) (f:=turn n i fun k=>out.getD k 0) tO;have g2:=zOl (n:=n) (i:=n-1-i) (f:=turn n i fun k=>out.getD k 0) tO;have ts:=turn_succ (f:=fun k=>out.getD k 0) h;generalize hf:turn n i (fun k=>out.getD k 0)=f at *;have g3:=zOl (n:=n) (i:=n-1-i) (f:=upd f i (f (n-1-i))) tO;have r2:(H2.set c (.row 1 ((rowU n f).set i (zo (f (n-1-i))))))[c]?=some (.row 1 (rowU n (upd f i (f (n-1-i))))):=by rw [rowU_set];exact zV hrow2
        refine sAt ⟨by omega,by omega⟩ ?_;refine zBV i (zo (f i)) (zo (f i)) tO hrow2 g1 rfl ?_;refine sAt ⟨by omega,by omega⟩ ?_;refine zBV (n-1-i) (zo (f (n-1-i))) (zo (f (n-1-i))) tO hrow2 g2 rfl ?_;refine sAt ⟨by omega,by omega⟩ ?_;refine zKb i (zo (f (n-1-i))) tO hrow2 g1 rfl (by decide) rfl (fun cs h=>by cases h) ?_;refine sAt ⟨by omega,by omega⟩ ?_;refine zKb (n-1-i) (zo (f i)) tO r2 g3 rfl (by decide) rfl (fun cs h=>by cases h) ?_;refine zS (r:=i+1) rfl tO ?_;refine sW64 ⟨by omega,by omega⟩ ?_;refine zAP (i+1) ?_ ⟨(hO2.set hcl _).set hcl _,by omega,by omega, ?_⟩ tO
        · have:(n:Int)-1-(i:Int)-1=(n:Int)-1-((i+1:Nat):Int):=by omega
          simp only [<-this];rfl
        · rw [<-ts,<-rowU_set (f:=upd f i (f (n-1-i)))]
          exact zV r2
      · have h:n-1-i<=i:=by have:=zRA h;omega
        have e:=turn_end (i:=i) (xs:=out) tO tO;rw [hn] at e;rw [e] at hrow2;have ho:Owns H H2 (.sl (some true) c 1 0 n) 1 (out.reverse.map zo):=.inr ⟨c,by rw [zQW,zR7,hn],hcl,hrow2,by simp [hne]⟩;refine zHd ho ?_;exact zAq rfl rfl rfl rfl hO2
    by_cases hn:v<0
    · have e:signed v=out++[45]:=by unfold signed;rw [zQQ hn,hdg]
      rw [e];rw [zQj hn] at hb2;have hb3:=zPB hO hb2;refine zA (AV.bool true) hb3 rfl ?_;refine zD ?_;refine zAW (vs':=[zo 45]) rfl rfl ?_;refine zBt (H0:=H) (hown.push _) (hO.push _) zAo tO (by simp;omega) (by simp) (fun v' H' ho' hO' hblk hfr=>?_);refine sTail rfl (fin v' (out++[45]) H' hO' (by rw [zQ5];exact ho') (by simp) (by simp;omega)) ?_;rfl
    · have e:signed v=out:=by unfold signed;rw [zQN hn,hdg]
      rw [e];rw [zQs hn] at hb2;have hb3:=zPB hO hb2;refine zA (.bool false) hb3 rfl ?_;refine zG ?_;refine sTail rfl (fin ov out H1 hO hown hoe tO) ?_;rfl
theorem string3_ev (hT:∀ b v H,H[b]?=some (.box (zF5 v))->v.natAbs<10000000000000000000000->(wds v.natAbs).length<=100->C zA5 [.ref b 0 0 0,zJ 10] H (.str (digR v)) H)
    (b:Nat) (v:Int) (H:Heap) (hb:H[b]?=some (.box (zF5 v))) (hv:v.natAbs<10000000000000000000000) (hl:(wds v.natAbs).length<=100):EFun C GT zDw [.ref b 0 0 0] H (.str (digR v)) H:=by
  have h:=hT b v H hb hv hl;refine zI ?_;refine zM (h) ?_;exact sRr
theorem digits3_ev (hNew:∀ v H,zEC v->C zAQ [zJ v] H (.ref H.length 0 0 0) (H++[.box (zF5 v)]))
    (hS:∀ b v H,H[b]?=some (.box (zF5 v))->v.natAbs<10000000000000000000000->(wds v.natAbs).length<=100->C zB8 [.ref b 0 0 0] H (.str (digR v)) H)
    (v:Int) (H:Heap) (hv:zEC v):EFun C GT zIw [zJ v] H (.str (digR v)) H:=by
  have e2:(4294967296:Nat)^2=18446744073709551616:=by decide
  have la:(wds v.natAbs).length<=2:=wds_fit (by rw [e2];unfold zEC at hv;omega);have h:=hS H.length v (H++[.box (zF5 v)]) zB (by unfold zEC at hv;omega) tO;refine zI ?_;refine zCM (hNew v _ hv) (fun h=>by cases h) ?_;refine zM (h) ?_;exact zAq rfl rfl rfl rfl ((Old.refl _).push _)
end
end Go.AM
set_option maxRecDepth 100000
namespace Go.AM
section
variable {C:CSpec} {GT:Nat->Option AV}
theorem rtru_ev (b:Bool) (H:Heap):EFun C GT zLy [.bool b] H (v3 3 (if b=true then 1 else 0)) H:=by
  cases b
  · refine zI ?_
    refine zG ?_;refine zy (v:=zV5) rfl ?_;refine zL (v:=AV.agg zV5) (AV.cells (AV.agg zV5)) zB rfl rfl rfl rfl ?_;exact zAV (o:=0) rfl rfl (zH hP) rfl rfl rfl (((Old.refl _).push _).set (by first|assumption|exact zQU _|simp|omega) _)
  · refine zI ?_
    refine zD ?_;refine zy (v:=zV7) rfl ?_;refine zL (v:=AV.agg zV7) (AV.cells (AV.agg zV7)) zB rfl rfl rfl rfl ?_;exact zAV (o:=0) rfl rfl (zH hP) rfl rfl rfl (((Old.refl _).push _).set (by first|assumption|exact zQU _|simp|omega) _)
end
end Go.AM
namespace Go.Proofs.YtafclpcpdmeodaaGreatDoor
open Go.AM
open Go.AM Go.RowKit
theorem parse_head {t:Bs} {n:Nd} (h:zAi t=some n):t.head?=some 61:=by
  by_cases h6:t.head?=some 61
  · exact h6
  · rw [zNQ h6] at h;cases h
theorem zQM {t:Bs} {n:Nd} (h:zAi t=some n):t.length<=200:=by
  unfold zAi at h;split at h
  · rename_i h0;exact h0.1
  · cases h
section
variable {m:Int} {ev:Value} (hev:∃ te pe,ev=.iface te pe)
theorem zFO {t:Bs} {n:Nd} (hp:zAi t=some n):Wf false n/\need n<=30/\(txt n).length<=199:=by
  obtain ⟨h1,h2,h3⟩:=parse_is hp;have hl:=zQM hp;exact ⟨h1,h2,by omega⟩
theorem of_on {t:Bs} {n:Nd} (hp:zAi t=some n) {c:Chg} (hc:c.ok):Wf false (onN c n)/\need (onN c n)<=30/\(txt (onN c n)).length<=1000/\cnt (onN c n)<=200:=by
  obtain ⟨h1,h2,h3⟩:=zFO hp;have h:=on_ok hc h1;exact ⟨h.wf,by rw [h.need];exact h2,by have:=h.len;omega,by rw [h.cnt];have:=h.le;omega⟩
theorem cnt_parse {t:Bs} {n:Nd} (hp:zAi t=some n):cnt n<=200:=by
  obtain ⟨h1,h2,h3⟩:=zFO hp;have h:=(on_ok (insC_ok true 1 0) h1).le;omega
theorem g_ckB:CkB (GQ m ev):=fun b a v H h1 h2 h3=>check_good b a v H h1 h2 h3
theorem g_wb:WbH (GQ m ev):=fun H0 b u c H hB hO hl=>by
  obtain ⟨v,H',⟨rfl,hT⟩,hg⟩:=zIc mixed (show zt Tryz.prog zj a_wbyte=true from zFY) (wbyte_ev g_ckB H0 b u c H hB hO hl);exact ⟨H',hg,hT⟩
theorem g_wt:WtH (GQ m ev):=fun H0 b u t H hB hO hl=>by
  obtain ⟨v,H',⟨rfl,hT⟩,hg⟩:=zIc mixed (show zt Tryz.prog za a_wtext=true from zE8) (wtext_ev g_ckB H0 b u t H hB hO hl);exact ⟨H',hg,hT⟩
theorem g_show:ShowH (GQ m ev) where
  num m H:=zE mixed k_value_Num (pnum_ev m H)
  snum k h H:=zE mixed zJn (show_num itoa_good k h H)
  rep t h H:=replaceQ_good t h H
  is x H:=p_is parK x H
  stru x H:=zE mixed zJn (show_tru x H)
  wrong k H:=p_wrong parK k H
  sbad k h H:=zE mixed zJn (show_bad rfl k h H)
  ref r h H:=zE mixed k_addr_RefName (refName_ev itoa_good g_aok r h H)
  tight n h H:=zE mixed zPv (ptight_ev n h H)
  sign k h H:=zE mixed zOR (signOf_ev k h H)
theorem g_write {x:Bool} {n:Nd} (h:Wf x n) (hl:(txt n).length<=1000000):WrH (GQ m ev) n:=
  write_all (GT:=gtQ m ev) g_show g_wt g_wb (fun n h H0 b u H hB hO hb hl=>by
    obtain ⟨v,H',⟨rfl,hT⟩,hg⟩:=zIc mixed (show zt Tryz.prog zCe zGS=true from zPs) (h H0 b u H hB hO hb hl);exact ⟨H',hg,hT⟩) (fun n h x H0 b u H hB hO hb hl=>by
    obtain ⟨v,H',⟨rfl,hT⟩,hg⟩:=zIc mixed (show zt Tryz.prog zBb zNM=true from zMH) (h x H0 b u H hB hO hb hl);exact ⟨H',hg,hT⟩) h hl
theorem g_count {x:Bool} {n:Nd} (h:Wf x n) (hl:(txt n).length<=1000):CtH (GQ m ev) n:=
  count_all (GT:=gtQ m ev) (fun n h c l H hc h1 h2=>(zAm mixed zPr (h c l H hc h1 h2)).1 _ _ rfl) h hl
theorem g_formc:FcH (GQ m ev):=fun n k c H hc=>zE mixed zND (formc1_ev n k c H hc)
theorem g_form {x:Bool} {n:Nd} (h:Wf x n) (hl:(txt n).length<=1000):FmH (GQ m ev) x n:=
  form_all (GT:=gtQ m ev) (fun x n h H=>zE mixed k_formula_form (h H)) g_formc (fun c r h H=>by have:=g_acheck (GT:=gtQ m ev) c r H;rwa [h,zQQ rfl] at this) (fun t ht H=>p_called parK t H ht) h hl
include hev in
theorem g_print {n:Nd} (hw:Wf false n) (hd:need n<=30) (hc:cnt n<=200) (hl:(txt n).length<=1000) (H:Heap):GQ m ev zCb [ndV n] H (.tup [.str (zDZ n),eV (zB7 n)]) H:=
  zE mixed zPo (print_ev n hw hd hc tO (g_count hw hl) (g_form hw hl) g_wb (g_write hw tO) (fun H0 b u H h1 h2 h3=>text1_good H0 b u H h1 h2 h3) (fun H0 b u H h1=>text2_good H0 b u H h1) (fun H=>p_parse parK2 (parG hev) _ H) H)
include hev in
theorem g_fcheck {t:Bs} {n:Nd} (hp:zAi t=some n):NkH (GQ m ev) n:=fun H=>by
  obtain ⟨h1,h2,h3⟩:=zFO hp;exact zE mixed zPk (fcheck_ev n h3 (fun H=>g_print hev h1 h2 (cnt_parse hp) tO H) H)
theorem g_same {x:Bool} {n:Nd} (h:Wf x n) (hl:(txt n).length<=1000) (k:Nd) (H:Heap):GQ m ev zAf [ndV n,ndV k] H (.bool (eqN n k)) H:=
  same2_all (C:=GQ m ev) (fun n m b h H=>zE mixed k_rows_same (same2_ev n m b h H)) (fun xv yv ks ls h1 h2 h3 h4 H=>zE mixed zBS (equal2_ev xv yv ks ls h1 h2 h3 h4 H) (hn:=by obtain ⟨q,k,rfl,_⟩:=h1;obtain ⟨q',k',rfl,_⟩:=h2;rfl)) h hl k H
theorem g_cn:CnH (GQ m ev):=fun H=>zE mixed (show zt Tryz.prog zu zOk=true from zBy) (nclone0_ev H)
theorem g_ck:CkH (GQ m ev):=fun n H hne hl=>by
  obtain ⟨a,b,c,d,f,ks⟩:=n;cases ks with
  |nil=>exact absurd rfl hne
  | cons k0 ks=>
    have h:=zE mixed (show zt Tryz.prog zu zOk=true from zBy) (nclone_ev (C:=GQ m ev) (GT:=gtQ m ev) 12 (k0::ks) H (.inl rfl) hl);rw [show zGj (Nd.mk a b c d f (k0::ks))=.lst (some false) 12 ((k0::ks).map ndV) from zQb (AV.lst (some false) 12) (zJ6 (k0::ks))];exact h
theorem g_each:EcH (GQ m ev):=fun fr cr H=>zE mixed (show zt Tryz.prog zIG a_each=true from k_refs_each) (each_ev fr cr H)
theorem g_each1:E1H (GQ m ev):=fun fr nb cr l g hR hin a b ha hb=>by
  obtain ⟨a',b',h1,h2⟩:=each1_ev (GT:=gtQ m ev) fr nb cr l g hR a b ha hb;exact ⟨a',b',fun H hh=>zE mixed k_refs_each_c1 (h1 H hh (hh _ hin)),h2⟩
theorem g_on {t:Bs} {n:Nd} (hp:zAi t=some n) {c:Chg}:OnH (GQ m ev) c n:=fun fr fb cr cb l H hR hB hh=>by
  obtain ⟨h1,h2,h3⟩:=zFO hp;exact on_all (GT:=gtQ m ev) fr fb cr cb l hR hB g_cn g_ck (fun n h H hh=>zE mixed zNA (h H hh)) h1 tO H hh
include hev in
theorem g_rew (f:Nat) (cr:List AV) (l:List (Nat×ABlk)) (c:Chg) (hc:c.ok) (t:Bs) (ht:zBq t=0) (hN:∀ n,zAi t=some n->∀ H,Holds l H->GQ m ev f (ndV n::cr) H (.tup [ndV (onN c n),.nili]) H) (H:Heap) (hh:Holds l H) :
    GQ m ev zDG [.str t,.fn f [] cr] H (.tup [.str (rewP c t).2,eV (rewP c t).1]) H:=
  zE mixed zOG (rew2_ev (p_const parK2) (p_parse parK2 (parG hev)) f cr l c t ht hN (fun n hp H=>g_same (zFO hp).1 (by have:=(zFO hp).2.2;omega) _ H) (fun n hp H=>by
    obtain ⟨h1,h2,h3,h4⟩:=of_on hp hc;exact g_print hev h1 h2 h4 h3 H) H hh)
theorem g_twin (av:AV) (m':Nat) (H:Heap) (ha:Mag av m') (hm:m'≠0) (hl:(wds m').length<=100000):GQ m ev zCy [av] H (.lst (some false) 1 ((wds m').map zBT)) H:=zE mixed zLA (twin_ev av m' H ha hm hl)
theorem g_bsmall (av:AV) (a d:Nat) (H:Heap) (ha:Mag av a) (hl:(wds a).length<=100000) (hd0:0<d) (hd:d<4294967296):GQ m ev zCX [av,zBT d] H (.tup [zFL (a/d),zBT (a%d)]) H:=
  zE mixed zKU (small_ev g_trim av a d _ H ha rfl hl hd0 hd)
theorem g_bigText (b:Nat) (v:Int) (H:Heap) (hb:H[b]?=some (.box (zF5 v))) (hv:v.natAbs<10000000000000000000000) (hl:(wds v.natAbs).length<=100):GQ m ev zA5 [.ref b 0 0 0,zJ 10] H (.str (digR v)) H:=
  zE mixed zHs (btext_ev g_twin g_bsmall b v H hb hv hl)
theorem g_rdig:DgH (GQ m ev):=fun n hn H=>by
  have hT:∀ b v H,H[b]?=some (.box (zF5 v))->v.natAbs<10000000000000000000000->(wds v.natAbs).length<=100->GQ m ev zA5 [.ref b 0 0 0,zJ 10] H (.str (digR v)) H:=fun b v H h1 h2 h3=>g_bigText b v H h1 h2 h3;have h:=zE mixed zOO (digits3_ev (C:=GQ m ev) (GT:=gtQ m ev) (fun v H hv=>g_newInt v H hv) (fun b v H h1 h2 h3=>zE mixed zGf (string3_ev hT b v H h1 h2 h3)) (n:Int) H ⟨by omega,by omega⟩)
  rwa [digR_T] at h
theorem g_rsh:RshH (GQ m ev) where
  dig:=g_rdig
  tru x H:=zE mixed k_sccref1_Tru (rtru_ev x H)
  stru x H:=zE mixed zKj (rshow_tru x H)
  bad k H:=q_bad refK k H
  sbad k h H:=zE mixed zKj (rshow_bad (q_wrongs refK) k h H)
  ref r h H:=by
    obtain ⟨c,w,fc,fr⟩:=r;obtain ⟨h1,h2,h3,h4⟩:=h;simp only at h1 h2 h3 h4;obtain ⟨c,rfl⟩:∃ k:Nat,c=(k:Int):=⟨c.toNat,by omega⟩;obtain ⟨w,rfl⟩:∃ k:Nat,w=(k:Int):=⟨w.toNat,by omega⟩;cases fc <;> cases fr
    · exact zE mixed zDt (zKX g_rdig c w tO tO H)
    · exact zE mixed zDt (zLN g_rdig c w tO tO H)
    · exact zE mixed zDt (zLM g_rdig c w tO tO H)
    · exact zE mixed zDt (zMd g_rdig c w tO tO H)
  inn s b h H:=zE mixed k_sccref1_in (rinw_ev s b h H)
  tightn n h H:=zE mixed zPq (rtightn_ev (fun op H h=>q_tight refK op H h) n h H)
  tight op H h:=q_tight refK op H h
  sign k h H:=zE mixed zMD (signText_ev k h H)
theorem g_rin:InH (GQ m ev):=fun c r H=>q_in refK2 c r H
theorem g_rprint {n:Nd} (hw:Wf false n) (hd:need n<=30) (hc:cnt n<=200) (hl:(txt n).length<=1000) (H:Heap):GQ m ev zEi [ndV n] H (.tup [.str (zDZ n),zK (zB7 n)]) H:=
  zE mixed zPj (rprint_ev n hw hd hc tO
    (kids_all (P:=RcH (GQ m ev)) (fun n hk h l H h1 h2=>zE mixed zPm (rcount_ev n h hk l H h1 h2)) hw hl)
    (rform_all (GT:=gtQ m ev) (fun x n h H=>zE mixed zOJ (h H)) g_rin (fun t ht H=>q_called refK t H ht) hw hl)
    (rtext_all (GT:=gtQ m ev) g_rsh (fun n h H=>zE mixed k_sccref1_Text (h H)) hw tO) (fun hp H=>(q_parse refK2 bigG _ (zQM hp) rfl).1 n hp H) H)
theorem g_rsame {x:Bool} {n:Nd} (h:Wf x n) (hl:(txt n).length<=1000) (k:Nd) (H:Heap):GQ m ev zCN [ndV n,ndV k] H (.bool (eqN n k)) H:=
  kids_all (P:=fun n=>∀ k H,GQ m ev zCN [ndV n,ndV k] H (.bool (eqN n k)) H) (fun n hk h k H=>zE mixed k_sccref1_Same (rsame_ev n k hk h H)) h hl k H
theorem g_rrew {k0:Int} {row:Bool} {at_ many cols rows:Int} {bx:Bx} (c:Chg) (hc:c.ok) (hR:RRef (GQ m ev) (ccV k0 row at_ many cols rows bx) c.ref) (hB:RBox (GQ m ev) (ccV k0 row at_ many cols rows bx) c.box) (t:Bs) (ht:zBq t=0):RwH (GQ m ev) (ccV k0 row at_ many cols rows bx) c t:=fun H=>
  zE mixed zK7 (rrew_ev c t ht (fun n hp H=>(q_parse refK2 bigG t (zQM hp) (parse_head hp)).1 n hp H) (fun n hp H=>ron_all (GT:=gtQ m ev) hR hB (fun n h H=>zE mixed zPi (h H)) (zFO hp).1 (by have:=(zFO hp).2.2;omega) H)
    (fun n hp H=>g_rsame (zFO hp).1 (by have:=(zFO hp).2.2;omega) _ H) (fun n hp H=>by
    obtain ⟨h1,h2,h3,h4⟩:=of_on hp hc;exact g_rprint h1 h2 h4 h3 H) H)
end
end Go.Proofs.YtafclpcpdmeodaaGreatDoor
