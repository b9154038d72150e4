/- Several texts of mine in one (De3, De5, De6, Chf, De4). Own work. -/
import Derived.Test.YtkeblfepjkdleaaGreatDoorGGprDe2
import Derived.Test.YtkeblfepjkdleaaGreatDoorAc
import Derived.Test.YtkeblfepjkdleaaGreatDoorGAm30Fp1
import Derived.Test.YtkeblfepjkdleaaGreatDoorGRq4On6
import Derived.Test.YtkeblfepjkdleaaGreatDoorGCh1Bg3
set_option maxHeartbeats 8000000
set_option maxRecDepth 20000
set_option linter.all false
namespace Go.AM
section
variable {C:CSpec} {GT:zG_}
theorem zk4 {H:Heap} {a b c d e:Nat} {x y z u v:ABlk} (h1:H[a]?=some x) (h2:H[b]?=some y) (h3:H[c]?=some z) (h4:H[d]?=some u) (h5:H[e]?=some v):Holds [(a,x),(b,y),(c,z),(d,u),(e,v)] H:=fun p hp=>by
  rcases zmC.1 hp with rfl|hp
  · exact h1
  rcases zmC.1 hp with rfl|hp
  · exact h2
  exact zg2 h3 h4 h5 p hp
theorem zjA (f:Nat) (cs:List AV):zD6 [.nilf,.nilf] [(0,1)] [.fn f [] cs]=some [.fn f [] cs,.nilf]:=by simp [zD6,splice,AV.cells,AV.one]
theorem zk5 {n m:Nd} {H H1:Heap} {n4 n5 n6 n7 n8 n11 n12:Nat} {row:Bool} {at_ many:Int} (key:∀ n1 n2 n3 n4 n5 H,H[n1]?=some (.box [.bool row])->H[n2]?=some (.box [zH at_])->H[n3]?=some (.box [zH many])->H[n4]?=some (.box [.fn z6 [] [bR n2,bR n3]])->H[n5]?=some (.box [.fn zu [] [bR n2,bR n3]]) ->
      C zAS [cgV zAe zAq [bR n1,bR n4,bR n5] [bR n1,bR n4,bR n2,bR n3,bR n5],ndV n] H (ndV m) H)
    (hO:Old H H1) (l8:H.length<=n8) (h4:H1[n4]?=some (.box (ndV n).cells)) (h5:H1[n5]?=some (.box [.bool row])) (h6:H1[n6]?=some (.box [zH at_])) (h7:H1[n7]?=some (.box [zH many])) (h8:H1[n8]?=some (.box (zN 0 0 []))) (h11:H1[n11]?=some (.box [(.fn z6 [] [bR n6,bR n7])])) (h12:H1[n12]?=some (.box [(.fn zu [] [bR n6,bR n7])])) :
    EW C GT (zKv.behind 5) (zaO zHQ H (.tup [ndV m,.nili]) H) [(8,bR n8),(4,bR n4),(5,bR n5),(11,bR n11),(6,bR n6),(7,bR n7),(12,bR n12)] H1:=by
  have l4:=(zl_ h4);have l5:=(zl_ h5);have l6:=(zl_ h6);have l7:=(zl_ h7);have l8':=(zl_ h8);have l11:=(zl_ h11);have l12:=(zl_ h12);have hl:=hO.1;refine zx (zjA _ _)<|zL (v:=AV.agg [(.fn zAe [] [bR n5,bR n11,bR n12]),.nilf]) [(.fn zAe [] [bR n5,bR n11,bR n12]),.nilf] zB rfl rfl rfl rfl<|zL (v:=(.fn zAq [] [bR n5,bR n11,bR n6,bR n7,bR n12])) [(.fn zAe [] [bR n5,bR n11,bR n12]),(.fn zAq [] [bR n5,bR n11,bR n6,bR n7,bR n12])] (zU zB) rfl rfl rfl rfl<|zA (cgV zAe zAq [bR n5,bR n11,bR n12] [bR n5,bR n11,bR n6,bR n7,bR n12]) hP rfl<|zA (ndV n) hP rfl<|zM (key _ _ _ _ _ _ hP hP hP hP hP) ?_
  refine zL (v:=ndV m) (ndV m).cells hP rfl rfl rfl rfl ?_;exact zr (o:=0) rfl rfl (zI hP) rfl rfl rfl rfl (by repeat' (first|exact hO|refine Old.set ?_ tC _|apply Old.push))
theorem zZe (hSp:∀ row a m H,C zFI [.bool row,zH a,zH m] H (.bool (zNm row a m)) H) (n:Nd) (row:Bool) (at_ many:Int) (hs:zNm row at_ many=true) (hOn:OnH C (zMz row at_ many) n) (hN:NkH C n)
    (hM:∀ n1 n2 n3 n4 n5 l,(n1,.box [.bool row])∈l->(n2,.box [zH at_])∈l->(n3,.box [zH many])∈l->(n4,.box [.fn z6 [] [bR n2,bR n3]])∈l->(n5,.box [.fn zu [] [bR n2,bR n3]])∈l ->
      zkq C zAe [bR n1,bR n4,bR n5] l (zMz row at_ many).ref/\zkr C zAq [bR n1,bR n4,bR n2,bR n3,bR n5] l (zMz row at_ many).box) (H:Heap) :
    EFun C GT zHQ [ndV n,.bool row,zH at_,zH many] H (.tup [ndV (onN (zMz row at_ many) n),.nili]) H:=by
  have hsp:=hSp row at_ many;rw [hs] at hsp;clear hSp;have key:∀ n1 n2 n3 n4 n5 H,H[n1]?=some (.box [.bool row])->H[n2]?=some (.box [zH at_])->H[n3]?=some (.box [zH many])->H[n4]?=some (.box [.fn z6 [] [bR n2,bR n3]])->H[n5]?=some (.box [.fn zu [] [bR n2,bR n3]]) ->
      C zAS [cgV zAe zAq [bR n1,bR n4,bR n5] [bR n1,bR n4,bR n2,bR n3,bR n5],ndV n] H (ndV (onN (zMz row at_ many) n)) H:=fun n1 n2 n3 n4 n5 H h1 h2 h3 h4 h5=>by
    obtain ⟨hr,hb⟩:=hM n1 n2 n3 n4 n5 [(n1,.box [.bool row]),(n2,.box [zH at_]),(n3,.box [zH many]),(n4,.box [.fn z6 [] [bR n2,bR n3]]),(n5,.box [.fn zu [] [bR n2,bR n3]])] (.head _) (.tail _ (.head _)) (.tail _ (.tail _ (.head _))) (.tail _ (.tail _ (.tail _ (.head _)))) (.tail _ (.tail _ (.tail _ (.tail _ (.head _)))));exact hOn _ _ _ _ _ H hr hb (zk4 h1 h2 h3 h4 h5)
  clear hM hOn;refine zJ<|sX ?_
  refine sSA (.fn z6 [] [bR (((H++[ABlk.box (ndV n).cells])++[ABlk.box (AV.bool row).cells])).length,bR ((((H++[ABlk.box (ndV n).cells])++[ABlk.box (AV.bool row).cells])++[ABlk.box (zH at_).cells])).length]) ?_;refine sSA (.fn zu [] [bR (((H++[ABlk.box (ndV n).cells])++[ABlk.box (AV.bool row).cells])).length,bR ((((H++[ABlk.box (ndV n).cells])++[ABlk.box (AV.bool row).cells])++[ABlk.box (zH at_).cells])).length]) ?_;exact zFM rfl (zk5 key hO (by simp <;> omega) hP hP hP hP hP hP hP) rfl
end
def zGf (at_ many low high:Int):Int:=if at_<=low/\low<at_+many then (if at_+many<=high then at_+many else 0) else low
def zJb (at_ many low high:Int):Int:=if at_<=high/\high<at_+many then (if low<at_ then at_-1 else 0) else high
section
variable {C:CSpec} {GT:zG_} {k0:Int} {row:Bool} {at_ many cols rows:Int} {bx:Bx}
theorem zjB (hs:zGE row at_ many) (low high:Int) (h:1<=low/\low<=high/\high<=99) (H:Heap) :
    EFun C GT zHx [ccV k0 row at_ many cols rows bx,zH low,zH high] H (.tup [zH (zGf at_ many low high),zH (zJb at_ many low high),.bool (decide (zGf at_ many low high>0))]) H:=by
  have hsp:=zLf hs;have w:IntKind.i64.wrap (at_+many)=at_+many:=by rw [IntKind.wrap_i64];omega
  have hnb:(H++[ABlk.box (ccV k0 row at_ many cols rows bx).cells])[H.length]?=some (.box (ccV k0 row at_ many cols rows bx).cells):=zB;refine zJ<|sX ?_
  refine zBG (fun z:Int×Int×Int=>[(11,zH z.1),(9,zH z.2.1),(3,bR H.length),(10,zH z.2.2),(2,zH high)]) (fun z H'=>H'=H++[ABlk.box (ccV k0 row at_ many cols rows bx).cells]/\low<=z.1/\z.1<=high+1/\(z.1=low/\z.2.1=0/\z.2.2=0\/low<z.1/\z.2.1=zGf at_ many low (z.1-1)/\z.2.2=zJb at_ many low (z.1-1))) (fun z=>(high+1-z.1).toNat) (low,0,0) rfl ⟨rfl,by simp only;omega,by simp only;omega,.inl ⟨rfl,rfl,rfl⟩⟩ (fun z H1 hi=>?_);obtain ⟨i,a,b⟩:=z;obtain ⟨rfl,h1,h2,h3⟩:=hi;simp only at h1 h2 h3 ⊢;by_cases hle:i<=high
  · have hw1:IntKind.i64.wrap (i+1)=i+1:=by rw [IntKind.wrap_i64];omega
    by_cases hg:at_<=i/\i<at_+many
    · have e1:a=zGf at_ many low (i+1-1)/\b=zJb at_ many low (i+1-1):=by
        rw [znM];unfold zGf zJb at *;rcases h3 with ⟨rfl,rfl,rfl⟩|⟨h4,rfl,rfl⟩
        · constructor <;> (repeat' split) <;> omega
        · constructor <;> (repeat' split) <;> omega
      refine sX ?_;refine zDh w<|sX ?_
      refine zDh hw1 ?_;exact zAR (i+1,a,b) rfl ⟨rfl,by simp only;omega,by simp only;omega,.inr ⟨by simp only;omega,e1.1,e1.2⟩⟩ (by simp only;omega)
    · have e2:zJb at_ many low (i+1-1)=i:=by rw [znM];exact zlD hg
      by_cases hz:a=0
      · have e1:i=zGf at_ many low (i+1-1):=by
          rw [znM];subst hz;unfold zGf zJb at *;rcases h3 with ⟨rfl,_,_⟩|⟨h4,h5,h6⟩
          · (repeat' split) <;> omega
          · (repeat' split at h5) <;> (repeat' split) <;> omega
        subst hz;by_cases g1:at_<=i
        · refine sX ?_
          refine zDh w<|sX ?_
          refine zDh hw1 ?_;exact zAR (i+1,i,i) rfl ⟨rfl,by simp only;omega,by simp only;omega,.inr ⟨by simp only;omega,e1,e2.symm⟩⟩ (by simp only;omega)
        · refine sX ?_
          refine zDh hw1 ?_;exact zAR (i+1,i,i) rfl ⟨rfl,by simp only;omega,by simp only;omega,.inr ⟨by simp only;omega,e1,e2.symm⟩⟩ (by simp only;omega)
      · have e1:a=zGf at_ many low (i+1-1):=by
          rw [znM];unfold zGf zJb at *;rcases h3 with ⟨rfl,h5,_⟩|⟨h4,h5,h6⟩
          · exact absurd h5 hz
          · (repeat' split at h5) <;> (repeat' split) <;> omega
        by_cases g1:at_<=i
        · refine sX ?_
          refine zDh w<|sX ?_
          refine zDh hw1 ?_;exact zAR (i+1,a,i) rfl ⟨rfl,by simp only;omega,by simp only;omega,.inr ⟨by simp only;omega,e1,e2.symm⟩⟩ (by simp only;omega)
        · refine sX ?_
          refine zDh hw1 ?_;exact zAR (i+1,a,i) rfl ⟨rfl,by simp only;omega,by simp only;omega,.inr ⟨by simp only;omega,e1,e2.symm⟩⟩ (by simp only;omega)
  · have hi:i=high+1:=by omega
    have e1:a=zGf at_ many low high/\b=zJb at_ many low high:=by
      rcases h3 with ⟨h4,_,_⟩|⟨h4,h5,h6⟩
      · omega
      · rw [hi,znM] at h5 h6;exact ⟨h5,h6⟩
    obtain ⟨rfl,rfl⟩:=e1;refine sX ?_;exact sRv
theorem zgU (r:RefP) (h:okR r) (hs:zGE row at_ many) (H:Heap) :
    EFun C GT zI9 [ccV 3 row at_ many cols rows bx,rV r] H (.tup [rV (zWg row at_ many r),.bool (zVC row at_ many r).isSome]) H:=by
  have hk:=zNq (row:=row) h;have hsp:=zLf hs;have w1:IntKind.i64.wrap (at_+many)=at_+many:=by rw [IntKind.wrap_i64];omega
  have w2:IntKind.i64.wrap (zAK row r-many)=zAK row r-many:=by rw [IntKind.wrap_i64];omega
  have hc:zAK row r=zAK row r:=rfl;refine zJ<|zCR (x:=ccV 3 row at_ many cols rows bx) rfl<|zCR (x:=rV r) rfl ?_
  by_cases g1:at_<=zAK row r
  · by_cases g2:zAK row r<at_+many
    · have e:gone at_ many (zAK row r)=true:=zlY ⟨g1,g2⟩
      have e1:zWg row at_ many r=r:=zlF e;have e2:(zVC row at_ many r).isSome=false:=by unfold zVC;rw [e];rfl
      rw [e1,e2];cases row with
      | true => refine zA (.int .i64 3) (zD (zD zB)) rfl ?_
                refine zi tF<|zi tF<|zn tT<|zA (.int .i64 r.col) (zD zB) rfl<|zA (.bool true) (zD (zD zB)) rfl<|zE<|zA (zH (zAK true r)) hP rfl<|zA (zH at_) hP rfl<|zn tT<|zA (zH at_) hP rfl<|zA (zH many) hP rfl<|zDh w1<|sX ?_
                refine sSA (rV r) ?_;exact zr (o:=0) rfl rfl (zI (zU zB)) rfl rfl rfl rfl hO
      | false => refine zA (.int .i64 3) (zD (zD zB)) rfl ?_
                 refine zi tF<|zi tF<|zn tT<|zA (zH (zAK false r)) hP rfl<|zA (.bool false) (zD (zD zB)) rfl<|zG<|zA (zH at_) hP rfl<|zn tT<|zA (zH at_) hP rfl<|zA (zH many) hP rfl<|zDh w1<|sX ?_
                 refine sSA (rV r) ?_;exact zr (o:=0) rfl rfl (zI (zU zB)) rfl rfl rfl rfl hO
    · have e:gone at_ many (zAK row r)=false:=zlf fun h=>g2 h.2
      have e1:zWg row at_ many r=zDq row r (zAK row r-many):=by unfold zWg;rw [e,zlD zD_,show back at_ many (zAK row r)=zAK row r-many from zlF tO]
      have e2:(zVC row at_ many r).isSome=true:=by unfold zVC;rw [e];rfl
      rw [e1,e2];cases row with
      | true => refine zA (.int .i64 3) (zD (zD zB)) rfl ?_
                refine zi tF<|zi tF<|zn tT<|zA (.int .i64 r.col) (zD zB) rfl<|zA (.bool true) (zD (zD zB)) rfl<|zE<|zA (zH (zAK true r)) hP rfl<|zA (zH at_) hP rfl<|zn tT<|zA (zH at_) hP rfl<|zA (zH many) hP rfl<|zDh w1<|sX ?_
                refine zDh w2<|sX ?_
                refine sS (zH (zAK true r-many)) (rV (zDq true r (zAK true r-many))).cells ?_;refine sX ?_;refine sSA (rV (zDq true r (zAK true r-many))) ?_;exact zr (o:=0) rfl rfl (zI (zU (zC tA zB))) rfl rfl rfl rfl hO
      | false => refine zA (.int .i64 3) (zD (zD zB)) rfl ?_
                 refine zi tF<|zi tF<|zn tT<|zA (zH (zAK false r)) hP rfl<|zA (.bool false) (zD (zD zB)) rfl<|zG<|zA (zH at_) hP rfl<|zn tT<|zA (zH at_) hP rfl<|zA (zH many) hP rfl<|zDh w1<|sX ?_
                 refine zDh w2<|sX ?_
                 refine sS (zH (zAK false r-many)) (rV (zDq false r (zAK false r-many))).cells ?_;refine sX ?_;refine sSA (rV (zDq false r (zAK false r-many))) ?_;exact zr (o:=0) rfl rfl (zI (zU (zC tA zB))) rfl rfl rfl rfl hO
  · have e:gone at_ many (zAK row r)=false:=zlf fun h=>g1 h.1
    have e1:zWg row at_ many r=zDq row r (zAK row r):=by unfold zWg;rw [e,zlD zD_,show back at_ many (zAK row r)=zAK row r from zlD tO]
    have e2:(zVC row at_ many r).isSome=true:=by unfold zVC;rw [e];rfl
    rw [e1,e2];cases row with
    | true => refine zA (.int .i64 3) (zD (zD zB)) rfl ?_
              refine zi tF<|zi tF<|zn tT<|zA (.int .i64 r.col) (zD zB) rfl<|zA (.bool true) (zD (zD zB)) rfl<|zE<|zA (zH (zAK true r)) hP rfl<|zA (zH at_) hP rfl<|zi tF<|zG<|zG<|zA (zH at_) hP rfl<|zi tF<|zA (.bool true) (zD (zD zB)) rfl<|zE<|zL (v:=zH (zAK true r)) (rV (zDq true r (zAK true r))).cells hP rfl rfl rfl rfl<|sX ?_
              refine zL (v:=rV (zDq true r (zAK true r))) (AV.cells (rV (zDq true r (zAK true r)))) (zC tA zB) rfl rfl rfl rfl ?_;exact zr (o:=0) rfl rfl (zI (zU (zC tA zB))) rfl rfl rfl rfl ((((((Old.refl _).push _).push _).push _).set tA _).set tA _)
    | false => refine zA (.int .i64 3) (zD (zD zB)) rfl ?_
               refine zi tF<|zi tF<|zn tT<|zA (zH (zAK false r)) hP rfl<|zA (.bool false) (zD (zD zB)) rfl<|zG<|zA (zH at_) hP rfl<|zi tF<|zG<|zG<|zA (zH at_) hP rfl<|zi tF<|zA (.bool false) (zD (zD zB)) rfl<|zG<|zL (v:=zH (zAK false r)) (rV (zDq false r (zAK false r))).cells hP rfl rfl rfl rfl<|sX ?_
               refine zL (v:=rV (zDq false r (zAK false r))) (AV.cells (rV (zDq false r (zAK false r)))) (zC tA zB) rfl rfl rfl rfl ?_;exact zr (o:=0) rfl rfl (zI (zU (zC tA zB))) rfl rfl rfl rfl ((((((Old.refl _).push _).push _).push _).set tA _).set tA _)
end
theorem zMx {at_ many k:Int}:gone at_ many k=true↔at_<=k/\k<at_+many:=zmb
theorem zVM {at_ many x y:Int} (h1:gone at_ many x=true) (h2:gone at_ many y=true):zGf at_ many x y=0:=by
  rw [zMx] at h1 h2;unfold zGf;rw [zlF h1,zlD tO]
theorem zVN {at_ many x y:Int} (hx:1<=x) (hxy:x<=y) (hm:0<=many) (hg:¬ (gone at_ many x=true/\gone at_ many y=true)) :
    (x<=zGf at_ many x y/\zGf at_ many x y<=y)/\(x<=zJb at_ many x y/\zJb at_ many x y<=y)/\gone at_ many (zGf at_ many x y)=false/\gone at_ many (zJb at_ many x y)=false /\
    back at_ many (zGf at_ many x y)=zTT at_ many x/\back at_ many (zJb at_ many x y)=zHf at_ many y:=by
  have e:∀ k,gone at_ many k=false↔¬ (at_<=k/\k<at_+many):=fun k=>by rw [<-zMx];cases gone at_ many k <;> simp
  unfold zTT zHf;rw [e,e];rw [zMx,zMx] at hg;simp only [zMx];unfold back zGf zJb;refine ⟨⟨?_, ?_⟩,⟨?_, ?_⟩, ?_, ?_, ?_, ?_⟩ <;> (repeat' split) <;> omega
section
variable {C:CSpec} {GT:zG_} {row:Bool} {at_ many cols rows:Int} {bx:Bx}
theorem zXt {row:Bool} {x y k:Int} (hx:okK row x) (hy:okK row y) (h:x<=k/\k<=y):okK row k:=⟨Int.le_trans hx.1 h.1,Int.le_trans h.2 hy.2⟩
abbrev LfH (C:CSpec) (cv:AV) (at_ many:Int):Prop:=∀ low high H,1<=low/\low<=high/\high<=99->C zFJ [cv,zH low,zH high] H (.tup [zH (zGf at_ many low high),zH (zJb at_ many low high),.bool (decide (zGf at_ many low high>0))]) H
abbrev RdH (C:CSpec) (cv:AV) (row:Bool) (at_ many:Int):Prop:=∀ r,okR r->∀ H,C zAL [cv,rV r] H (.tup [rV (zWg row at_ many r),.bool (zVC row at_ many r).isSome]) H
theorem zgV {cv:AV} (hR:RdH C cv row at_ many) {a:RefP} (ha:okR a) {V W:Int} (hV:okK row V) (hg:gone at_ many V=false) (hb:back at_ many V=W) (H:Heap):C zAL [cv,rV (zDq row a V)] H (.tup [rV (zDq row a W),.bool true]) H:=by
  have h:=hR _ (zNn ha hV) H;unfold zWg zVC at h;rw [zKI,hg,zlD zD_,zlD zD_,zQh,hb] at h;exact h
def AC.thn:AC->AC
  |.cond _ a _=>a
  |c=>c
def zjC:AC:=zJA.rest.first.rest.body.rest.thn
variable {K:Post} {H0 H:Heap} {n3 n4 n5 n6 n7:Nat} {a b:RefP}
theorem zjD {a2 b2:RefP} (hK:∀ fr H',retP zDN H0 fr H' (.tup [rV a2,rV b2,.bool true]) H0->K .ret fr H') (hO:Old H0 H) (l3:H0.length<=n3) (d3:n3<n4) (d4:n4<n5) (d5:n5<n6) (d6:n6<n7)
    (h3:H[n3]?=some (.box (ccV 3 row at_ many cols rows bx).cells)) (h4:H[n4]?=some (.box (rV a).cells)) (h5:H[n5]?=some (.box (rV b).cells)) (h6:H[n6]?=some (.box zP)) (h7:H[n7]?=some (.box zP))
    (rA:∀ H,C zAL [ccV 3 row at_ many cols rows bx,rV a] H (.tup [rV a2,.bool true]) H) (rB:∀ H,C zAL [ccV 3 row at_ many cols rows bx,rV b] H (.tup [rV b2,.bool true]) H) :
    EW C GT (zjC.behind 9) K [(6,bR n6),(7,bR n7),(5,bR n5),(4,bR n4),(3,bR n3)] H:=by
  have g4:=(zl_ h4);have g5:=(zl_ h5);have g6:=(zl_ h6);have g7:=(zl_ h7);refine sX ?_;refine sS (rV a2) (rV a2).cells ?_;refine sX ?_;refine sS (rV b2) (rV b2).cells ?_;refine sX ?_;refine zHN ?_ ?_
  · refine sX ?_
    refine sS (rV a2) (rV a2).cells ?_;refine sS (rV b2) (rV b2).cells ?_;exact hK _ _ (zK7 (o:=0) (o':=0) rfl rfl (zI hP) rfl (zI hP) rfl rfl rfl rfl (by repeat' (first|exact hO|refine Old.set ?_ (by first|exact zlK _|omega) _)))
  · refine sS (rV a2) (rV a2).cells ?_
    refine sX ?_;refine sS (rV b2) (rV b2).cells ?_;exact hK _ _ (zK7 (o:=0) (o':=0) rfl rfl (zI hP) rfl (zI hP) rfl rfl rfl rfl (by repeat' (first|exact hO|refine Old.set ?_ (by first|exact zlK _|omega) _)))
theorem zg4 {a2 b2:RefP} {V W:Int} (hK:∀ fr H',retP zDN H0 fr H' (.tup [rV a2,rV b2,.bool true]) H0->K .ret fr H') (hO:Old H0 H) (l3:H0.length<=n3) (d3:n3<n4) (d4:n4<n5) (d5:n5<n6) (d6:n6<n7)
    (h3:H[n3]?=some (.box (ccV 3 row at_ many cols rows bx).cells)) (h4:H[n4]?=some (.box (rV a).cells)) (h5:H[n5]?=some (.box (rV b).cells)) (h6:H[n6]?=some (.box zP)) (h7:H[n7]?=some (.box zP))
    (rA:∀ H,C zAL [ccV 3 row at_ many cols rows bx,rV (zDq row a V)] H (.tup [rV a2,.bool true]) H) (rB:∀ H,C zAL [ccV 3 row at_ many cols rows bx,rV (zDq row b W)] H (.tup [rV b2,.bool true]) H) :
    EW C GT (zjC.behind 8) K [(6,bR n6),(7,bR n7),(5,bR n5),(4,bR n4),(3,bR n3),(14,zH W),(13,zH V)] H:=by
  have g4:=(zl_ h4);have g5:=(zl_ h5);have key:=zjD (GT:=GT) (K:=K) (H:=(H.set n4 (.box (rV (zDq row a V)).cells)).set n5 (.box (rV (zDq row b W)).cells)) (n3:=n3) hK ((hO.set (b:=n4) tO _).set (b:=n5) tO _) l3 d3 d4 d5 d6 (zC tO (zC tO h3)) (zC tO (zU h4)) (zU (zC tO h5)) (zC tO (zC tO h6)) (zC tO (zC tO h7)) rA rB;clear rA rB hK;cases row with
  | true=>
    refine sX ?_;refine sS (zH V) (rV (zDq true a V)).cells ?_;refine sS (zH W) (rV (zDq true b W)).cells ?_;refine zFM rfl key ?_;rfl
  | false=>
    refine sX ?_;refine sS (zH V) (rV (zDq false a V)).cells ?_;refine sS (zH W) (rV (zDq false b W)).cells ?_;refine zFM rfl key ?_;rfl
theorem zjE (hL:LfH C (ccV 3 row at_ many cols rows bx) at_ many) (hR:RdH C (ccV 3 row at_ many cols rows bx) row at_ many) (hs:zGE row at_ many) (ha:okR a) (hb:okR b)
    (hK:∀ fr H',retP zDN H0 fr H' (.tup [rV ((zGe row at_ many a b).getD (a,b)).1,rV ((zGe row at_ many a b).getD (a,b)).2,.bool (zGe row at_ many a b).isSome]) H0->K .ret fr H') (hO:Old H0 H) (l3:H0.length<=n3) (d3:n3<n4) (d4:n4<n5) (d5:n5<n6) (d6:n6<n7)
    (h3:H[n3]?=some (.box (ccV 3 row at_ many cols rows bx).cells)) (h4:H[n4]?=some (.box (rV a).cells)) (h5:H[n5]?=some (.box (rV b).cells)) (h6:H[n6]?=some (.box zP)) (h7:H[n7]?=some (.box zP)) :
    EW C GT (zjC.behind 3) K [(6,bR n6),(7,bR n7),(5,bR n5),(4,bR n4),(3,bR n3),(10,zH (zAK row b)),(9,zH (zAK row a))] H:=by
  have hka:=zNq (row:=row) ha;have hkb:=zNq (row:=row) hb;have g6:=(zl_ h6);have g7:=(zl_ h7);by_cases hlt:zAK row b<zAK row a
  · have hl:=fun H=>hL (zAK row b) (zAK row a) H tO
    clear hL;by_cases hg:gone at_ many (zAK row b)=true/\gone at_ many (zAK row a)=true
    · have e:zGe row at_ many a b=none:=by unfold zGe;exact zlF ⟨hg.2,hg.1⟩
      rw [zVM hg.1 hg.2] at hl;rw [e] at hK;clear hR hg e;generalize zJb at_ many (zAK row b) (zAK row a)=L at hl;refine sX ?_;refine zHN ?_ ?_
      · refine sX ?_
        refine sS (rV a) (rV a).cells ?_;refine sS (rV b) (rV b).cells ?_;exact hK _ _ (zK7 (o:=0) (o':=0) rfl rfl (zI hP) rfl (zI hP) rfl rfl rfl rfl (by repeat' (first|exact hO|refine Old.set ?_ (by first|exact zlK _|omega) _)))
      · refine sS (rV a) (rV a).cells ?_
        refine sX ?_;refine sS (rV b) (rV b).cells ?_;exact hK _ _ (zK7 (o:=0) (o':=0) rfl rfl (zI hP) rfl (zI hP) rfl rfl rfl rfl (by repeat' (first|exact hO|refine Old.set ?_ (by first|exact zlK _|omega) _)))
    · obtain ⟨f1,f2,f3,f4,f5,f6⟩:=zVN tO tO hs.2.2.1 hg
      have e0:decide (zGf at_ many (zAK row b) (zAK row a)>0)=true:=tT;have e:zGe row at_ many a b=some (zDq row a (zHf at_ many (zAK row a)),zDq row b (zTT at_ many (zAK row b))):=by unfold zGe;rw [zlD fun h=>hg ⟨h.2,h.1⟩,zlF hlt]
      have hF:=zXt (zFB hb) (zFB ha) f1;have hLl:=zXt (zFB hb) (zFB ha) f2;rw [e] at hK;rw [e0] at hl;have key:=zg4 (GT:=GT) (K:=K) hK hO l3 d3 d4 d5 d6 h3 h4 h5 h6 h7 (zgV hR ha hLl f4 f6) (zgV hR hb hF f3 f5);clear hR hg e e0 f1 f2 f3 f4 f5 f6 hF hLl hK;generalize zGf at_ many (zAK row b) (zAK row a)=F at hl key;generalize zJb at_ many (zAK row b) (zAK row a)=L at hl key;refine zn tT<|zA (ccV 3 row at_ many cols rows bx) hP rfl<|zM (hl _)<|zx rfl<|zx rfl<|zx rfl<|zG<|zn tT ?_
      exact zFM rfl key rfl
  · have hl:=fun H=>hL (zAK row a) (zAK row b) H tO
    clear hL;by_cases hg:gone at_ many (zAK row a)=true/\gone at_ many (zAK row b)=true
    · have e:zGe row at_ many a b=none:=by unfold zGe;exact zlF hg
      rw [zVM hg.1 hg.2] at hl;rw [e] at hK;clear hR hg e;generalize zJb at_ many (zAK row a) (zAK row b)=L at hl;refine sX ?_;refine zHN ?_ ?_
      · refine sX ?_
        refine sS (rV a) (rV a).cells ?_;refine sS (rV b) (rV b).cells ?_;exact hK _ _ (zK7 (o:=0) (o':=0) rfl rfl (zI hP) rfl (zI hP) rfl rfl rfl rfl (by repeat' (first|exact hO|refine Old.set ?_ (by first|exact zlK _|omega) _)))
      · refine sS (rV a) (rV a).cells ?_
        refine sX ?_;refine sS (rV b) (rV b).cells ?_;exact hK _ _ (zK7 (o:=0) (o':=0) rfl rfl (zI hP) rfl (zI hP) rfl rfl rfl rfl (by repeat' (first|exact hO|refine Old.set ?_ (by first|exact zlK _|omega) _)))
    · obtain ⟨f1,f2,f3,f4,f5,f6⟩:=zVN tO tO hs.2.2.1 hg
      have e0:decide (zGf at_ many (zAK row a) (zAK row b)>0)=true:=tT;have e:zGe row at_ many a b=some (zDq row a (zTT at_ many (zAK row a)),zDq row b (zHf at_ many (zAK row b))):=by unfold zGe;rw [zlD hg,zlD hlt]
      have hF:=zXt (zFB ha) (zFB hb) f1;have hLl:=zXt (zFB ha) (zFB hb) f2;rw [e] at hK;rw [e0] at hl;have key:=zg4 (GT:=GT) (K:=K) hK hO l3 d3 d4 d5 d6 h3 h4 h5 h6 h7 (zgV hR ha hF f3 f5) (zgV hR hb hLl f4 f6);clear hR hg e e0 f1 f2 f3 f4 f5 f6 hF hLl hK;generalize zGf at_ many (zAK row a) (zAK row b)=F at hl key;generalize zJb at_ many (zAK row a) (zAK row b)=L at hl key;refine zi tF<|zA (ccV 3 row at_ many cols rows bx) hP rfl<|zM (hl _)<|zx rfl<|zx rfl<|zx rfl<|zG<|zi tF<|zFM rfl key ?_
      rfl
theorem zgW (hL:LfH C (ccV 3 row at_ many cols rows bx) at_ many) (hR:RdH C (ccV 3 row at_ many cols rows bx) row at_ many) (hs:zGE row at_ many) (ha:okR a) (hb:okR b) (H:Heap) :
    EFun C GT zDN [ccV 3 row at_ many cols rows bx,rV a,rV b] H (.tup [rV ((zGe row at_ many a b).getD (a,b)).1,rV ((zGe row at_ many a b).getD (a,b)).2,.bool (zGe row at_ many a b).isSome]) H:=by
  have key:=fun (K:Post) hK=>zjE (GT:=GT) (K:=K) (H0:=H) (H:=((((((H++[ABlk.box (ccV 3 row at_ many cols rows bx).cells])++[ABlk.box (rV a).cells])++[ABlk.box (rV b).cells])++[ABlk.box zP])++[ABlk.box zP]))) (n3:=H.length) (n4:=(H++[ABlk.box (ccV 3 row at_ many cols rows bx).cells]).length) (n5:=((H++[ABlk.box (ccV 3 row at_ many cols rows bx).cells])++[ABlk.box (rV a).cells]).length) (n6:=(((H++[ABlk.box (ccV 3 row at_ many cols rows bx).cells])++[ABlk.box (rV a).cells])++[ABlk.box (rV b).cells]).length) (n7:=((((H++[ABlk.box (ccV 3 row at_ many cols rows bx).cells])++[ABlk.box (rV a).cells])++[ABlk.box (rV b).cells])++[ABlk.box zP]).length) hL hR hs ha hb hK ((((((Old.refl H).push _).push _).push _).push _).push _) (zlK _) zS_ zS_ zS_ zS_ hP hP hP hP hP;clear hL hR;refine zJ<|sX ?_
  cases row with
  | true=>
    refine sX ?_;exact zFM rfl (key _ fun _ _ h=>h) rfl
  | false=>
    refine sX ?_;refine zFM rfl (key _ fun _ _ h=>h) ?_;rfl
end
section
variable {C:CSpec} {GT:zG_}
abbrev RAl (C:CSpec):Prop:=∀ (b:Nat) (row:Bool) (cs:List AV) H,H[b]?=some (.box cs)->C zG1 [.ref b 0 0 0,.bool row] H (.ref b 0 0 (zWZ row)) H
theorem zdX {cf:Fil->Nat×Bool×Fil} {rw_:Bs->Nat×Bs} (l:List Fil) (k n:Nat) (H:Heap):zEM n (.tup [zQf cf rw_ l,eV k]) H=some (.tup [zQf cf rw_ l,eV k],H)/\(AV.tup [zQf cf rw_ l,eV k]).bel n=true:=by
  have h2:(∀ H,zEM n (eV k) H=some (eV k,H))/\(eV k).bel n=true:=by
    unfold eV;split <;> exact ⟨fun _=>rfl,rfl⟩
  have h1:zEM n (zQf cf rw_ l) H=some (zQf cf rw_ l,H)/\(zQf cf rw_ l).bel n=true:=by
    unfold zQf;split
    · generalize (zJa (zNp cf rw_ l)).map zl=xs
      cases xs <;> exact ⟨rfl,rfl⟩
    · exact ⟨rfl,rfl⟩
  exact ⟨zU4 h1.1 h2.1,by simp only [AV.bel,AV.belL,h1.2,h2.2,Bool.and_self]⟩
end
def kF (row:Bool) (f:Fil):Int:=if row then f.row else f.col
def zTd (row:Bool) (f:Fil) (x:Int):Fil:=if row then ⟨f.col,x,f.text⟩ else ⟨x,f.row,f.text⟩
def zGx (row:Bool) (at_ many:Int) (f:Fil):Nat×Bool×Fil:=if gone at_ many (kF row f)=true then (0,false,f) else (0,true,zTd row f (back at_ many (kF row f)))
theorem pF (row:Bool) (f:Fil):part (zl f).cells (zWZ row) 1 false=some (zH (kF row f)):=by cases row <;> rfl
theorem sF (row:Bool) (f:Fil) (x:Int):splice (zl f).cells (zWZ row) (zH x).cells=(zl (zTd row f x)).cells:=by cases row <;> rfl
theorem bF (row:Bool) (f:Fil):Nat.ble (zWZ row+1) (zl f).cells.length=true:=by cases row <;> rfl
theorem zdY (row:Bool) (f:Fil):zTd row f (kF row f)=f:=by cases row <;> rfl
theorem zk6 {row:Bool} {f:Fil} (h:okC f.col f.row=true):1<=kF row f/\kF row f<=99:=by
  unfold okC at h;simp only [zlG,zlV] at h;unfold kF;split <;> omega
section
variable {C:CSpec} {GT:zG_}
theorem zWh (hAl:RAl C) (f:Fil) (h:okC f.col f.row=true) (row:Bool) (at_ many:Int) (hs:zGE row at_ many) (b n1 n2 n3:Nat) (H:Heap) (hb:H[b]?=some (.box (zl f).cells))
    (h1:H[n1]?=some (.box [.bool row])) (h2:H[n2]?=some (.box [zH at_])) (h3:H[n3]?=some (.box [zH many])) (d1:n1<b) (d2:n2<b) (d3:n3<b) :
    EFun C GT zI6 [bR b,bR n1,bR n2,bR n3] H (.tup [.bool (zGx row at_ many f).2.1,eV (zGx row at_ many f).1]) (H.set b (.box (zl (zGx row at_ many f).2.2).cells)):=by
  have hrefl:H.set b (.box (zl f).cells)=H:=zMf hb;have hk:=zk6 (row:=row) h;have hsp:=zLf hs;have w1:IntKind.i64.wrap (at_+many)=at_+many:=by rw [IntKind.wrap_i64];omega
  have w2:IntKind.i64.wrap (kF row f-many)=kF row f-many:=by rw [IntKind.wrap_i64];omega
  have ha:=hAl b row _ H hb;clear hAl;refine zJ ?_;by_cases g1:at_<=kF row f
  · by_cases g2:kF row f<at_+many
    · have e:zGx row at_ many f=(0,false,f):=zlF (zlY ⟨g1,g2⟩)
      rw [e];simp only;rw [hrefl];refine sX ?_;refine zA (zH (kF row f)) hb (pF row f)<|sX ?_
      refine zA (zH (kF row f)) hb (pF row f)<|sX ?_
      refine zDh w1<|sX ?_
      exact sRv
    · have eb:back at_ many (kF row f)=kF row f-many:=zlF tO
      have e:zGx row at_ many f=(0,true,zTd row f (kF row f-many)):=by unfold zGx;rw [zlD fun h=>g2 (zlr h).2,eb]
      rw [e];refine sX ?_;refine zA (zH (kF row f)) hb (pF row f)<|sX ?_
      refine zA (zH (kF row f)) hb (pF row f)<|sX ?_
      refine zDh w1<|sX ?_
      refine zA (zH (kF row f)) hb (pF row f)<|sX ?_
      refine zA (zH (kF row f)) hb (pF row f)<|sX ?_
      refine zDh w2<|zL (v:=zH (kF row f-many)) (zl (zTd row f (kF row f-many))).cells hb rfl rfl (bF row f) (sF row f _) ?_
      exact zTA rfl rfl rfl rfl rfl rfl
  · have eb:back at_ many (kF row f)=kF row f:=zlD tO
    have e:zGx row at_ many f=(0,true,f):=by unfold zGx;rw [zlD fun h=>g1 (zlr h).1,eb,zdY]
    rw [e];simp only;rw [hrefl];refine sX ?_;refine zA (zH (kF row f)) hb (pF row f)<|sX ?_
    refine zA (zH (kF row f)) hb (pF row f)<|sX ?_
    exact zAv rfl rfl rfl rfl hO
theorem zWi (n:Nd) (row:Bool) (at_ many:Int) (hI:∀ H,C zFS [ndV n,.bool row,zH at_,zH many] H (.tup [ndV (onN (zMz row at_ many) n),.nili]) H) (n1 n2 n3:Nat) (H:Heap)
    (h1:H[n1]?=some (.box [.bool row])) (h2:H[n2]?=some (.box [zH at_])) (h3:H[n3]?=some (.box [zH many])) :
    EFun C GT zI7 [ndV n,bR n1,bR n2,bR n3] H (.tup [ndV (onN (zMz row at_ many) n),.nili]) H:=by
  have l1:=(zl_ h1);have l2:=(zl_ h2);have l3:=(zl_ h3);refine zJ<|sX ?_
  refine sSA (ndV (onN (zMz row at_ many) n)) ?_;exact zr (o:=0) rfl rfl (zI (zU zB)) rfl rfl rfl rfl hO
def zGg (l:List Fil) (row:Bool) (at_ many:Int):Nat:=if zCA l≠0 then zCA l else if zNm row at_ many=true then zO7 (zGx row at_ many) (zQl (zMz row at_ many)) l else 1
def zGh (l:List Fil) (row:Bool) (at_ many:Int):AV:=if zGg l row at_ many=0 then zQi 3 ((zJa (zNp (zGx row at_ many) (zQl (zMz row at_ many)) l)).map zl) else .lst (some true) 0 []
theorem zdZ (hG:∀ lv l H,view H 3 lv=some (l.map zl)->C zF5 [lv] H (eV (zCA l)) H) (hSp:∀ row a m H,C zFI [.bool row,zH a,zH m] H (.bool (zNm row a m)) H)
    (lv:AV) (l:List Fil) (hlv:zDe lv 3 (l.map zl)) (row:Bool) (at_ many:Int)
    (hCh:zCA l=0->zNm row at_ many=true->∀ n1 n2 n3 H,H[n1]?=some (.box [.bool row])->H[n2]?=some (.box [zH at_])->H[n3]?=some (.box [zH many]) ->
      C zIW [lv,.fn zEP [] [bR n1,bR n2,bR n3],.fn zDJ [] [bR n1,bR n2,bR n3]] H (.tup [zQf (zGx row at_ many) (zQl (zMz row at_ many)) l,eV (zO7 (zGx row at_ many) (zQl (zMz row at_ many)) l)]) H) (H:Heap) :
    EFun C GT zL4 [lv,.bool row,zH at_,zH many] H (.tup [zGh l row at_ many,eV (zGg l row at_ many)]) H:=by
  have hg:=hG lv l (((H++[ABlk.box (AV.bool row).cells])++[ABlk.box (zH at_).cells])++[ABlk.box (zH many).cells]) (hlv.view _);have hsp:=hSp row at_ many;clear hG hSp;refine zJ<|zCR (x:=.bool row) rfl<|zCR (x:=zH at_) rfl<|zCR (x:=zH many) rfl ?_
  by_cases hck:zCA l=0
  · cases hsb:zNm row at_ many with
    | true=>
      have hc:=hCh hck hsb;rw [hsb] at hsp;rw [hck] at hg;have en:zGg l row at_ many=zO7 (zGx row at_ many) (zQl (zMz row at_ many)) l:=by unfold zGg;rw [zlD (fun h=>h hck),zlF hsb]
      have ev:zGh l row at_ many=zQf (zGx row at_ many) (zQl (zMz row at_ many)) l:=by unfold zGh zQf;rw [en]
      rw [en,ev];clear hCh;refine zM hg<|zx rfl<|zG<|zA (.bool row) (zD (zD zB)) rfl<|zA (zH at_) (zD zB) rfl<|zA (zH many) zB rfl<|zM (hsp _)<|zG<|zM (hc _ _ _ _ hP hP hP)<|zx rfl<|zx rfl ?_
      exact zAv rfl rfl (zdX _ _ _ _).1 (zdX _ _ _ H).2 hO
    | false=>
      rw [hsb] at hsp;rw [hck] at hg;have en:zGg l row at_ many=1:=by unfold zGg;rw [zlD (fun h=>h hck),hsb,zlD zD_]
      have ev:zGh l row at_ many=.lst (some true) 0 []:=by unfold zGh;rw [en];rfl
      rw [en,ev];clear hCh;refine zM hg<|zx rfl<|zG<|zA (.bool row) (zD (zD zB)) rfl<|zA (zH at_) (zD zB) rfl<|zA (zH many) zB rfl<|zM (hsp _)<|zE ?_
      exact zAv rfl rfl rfl rfl ((((Old.refl _).push _).push _).push _)
  · have en:zGg l row at_ many=zCA l:=by unfold zGg;rw [zlF hck]
    have ev:zGh l row at_ many=.lst (some true) 0 []:=by unfold zGh;rw [en,zlD hck]
    have eq:eV (zCA l)=zJG (zCA l):=zlD hck;rw [en,ev,eq];rw [eq] at hg;clear hCh;refine sX ?_;exact sRv
end
end Go.AM
