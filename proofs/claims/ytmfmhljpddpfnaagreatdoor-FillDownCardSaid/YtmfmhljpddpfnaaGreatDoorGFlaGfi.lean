/- Texts of mine in one. Own work. -/
import Derived.Test.YtmfmhljpddpfnaaGreatDoorGAm23Am35
import Derived.Test.YtmfmhljpddpfnaaGreatDoorGMw4aFl9
import Derived.Test.YtmfmhljpddpfnaaGreatDoorGRfdGq
import Derived.Test.YtmfmhljpddpfnaaGreatDoorGBe0Itd
import Derived.Test.YtmfmhljpddpfnaaGreatDoorGGprWt3
import Derived.Test.YtmfmhljpddpfnaaGreatDoorGWtcMg4
set_option maxHeartbeats 16000000
set_option maxRecDepth 100000
set_option linter.all false
namespace Go.AM
theorem zlf {b:Bx} (h:b.ok=true) {r:Int} (h1:b.r0<=r) (h2:r<=b.r1):zL1 (zly b) b.c0 r=true:=by
 have hb:=zO2 h;unfold zL1;rw [(zlV h).1,(zHI b.c0 r).2 tO];unfold zly;simp only [zmN,zTo,zoY];omega
section
variable {C:CSpec} {GT:zG_}
theorem zlh (hG:RckH C) (hB:∀ b H,C zEg [bxV b] H (.bool b.ok) H) (hPu:PuH C) (lv:AV) (l:List Fil) (hl:ShV lv l) (b:Bx) (H:Heap):zDv C GT zlN [lv,bxV b] H (PutQ (zlM b l) H):=by
 have hg:=fun H=>hG lv l H (hl.view H);have hb0:=hB b;unfold zlM;by_cases h0:zDj l=0
 case neg=>
  rw [zoQ h0];have hne:=zgQ h0;clear hG hPu hB hb0;show EW _ _ _ _ _ _;refine zAV (x:=bxV b) rfl<|sW ?_
  exact zGx (v1:=.lst (some true) 0 []) (v2:=zL (zDj l)) rfl rfl rfl rfl rfl rfl hO ⟨rfl,.lst (some true) 0 [],rfl,zTY⟩
 rw [zWl (fun h=>h h0)];have hgd:=zWQ h0;rw [h0] at hg;cases hok:b.ok with
 |false=>
  rw [hok] at hb0;clear hG hPu hB;show EW _ _ _ _ _ _;refine zAV (x:=bxV b) rfl<|sW ?_
  exact zGx (v1:=.lst (some true) 0 []) (v2:=zL 1) rfl rfl rfl rfl rfl rfl hO ⟨rfl,.lst (some true) 0 [],rfl,zTY⟩
 |true=>
  rw [hok] at hb0;rw [zWl zS_];have hbk:=zO2 hok;have hmy:=fun r (h1:b.r0<=r) (h2:r<=b.r1)=>zlf hok h1 h2;obtain ⟨fo,f26⟩:=zlV hok;have hl200:=hgd.len;have htx:∀ f∈l,zBV f.text=0:=fun f hf=>zWY (hgd.each f hf).1;have hsr:=hgd.srt;obtain ⟨n,hn⟩:∃ n,(b.r1-b.r0).toNat=n:=⟨_,rfl⟩;have hrl:(zlQ b).length=n:=by unfold zlQ;rw [zoU,znV,hn]
  have hrg:∀ i,i<n->(zlQ b)[i]?=some (b.r0+1+(i:Int)):=fun i h=>by unfold zlQ;rw [zoX,zmb tO];rfl
  have hn98:n<=98:=by omega
  obtain ⟨rs,hrs⟩:∃ rs,zlQ b=rs:=⟨_,rfl⟩;rw [hrs] at hrl hrg ⊢;obtain ⟨R,hR⟩:∃ R,zlS b l rs l=R:=⟨_,rfl⟩;rw [hR];clear hG hB;show EW _ _ _ _ _ _;refine zAV (x:=bxV b) rfl ?_;have w0:IntKind.i64.wrap (b.r0+1)=b.r0+1+((0:Nat):Int):=by rw [IntKind.wrap_i64];omega
  refine sW ?_;refine sS (bxV (zly b)) (AV.cells (bxV (zly b))) ?_;refine sW ?_;refine zCl w0 ?_;obtain ⟨b7,hb7⟩:∃ b7,(H++[ABlk.box (bxV b).cells]).length=b7:=⟨_,rfl⟩;obtain ⟨Hs,hHs⟩:∃ Hs,List.set (H++[ABlk.box (bxV b).cells]++[ABlk.box zV9]) (H++[ABlk.box (bxV b).cells]).length (ABlk.box (bxV (zly b)).cells)=Hs:=⟨_,rfl⟩;have hOs:Old H Hs:=hHs ▸ ((Old.refl H).push _).pushSet _ _;have g3:Hs[H.length]?=some (.box (bxV b).cells):=hHs ▸ zFB ((Old.refl _).pushSet _ _) zB;have g7:Hs[b7]?=some (.box (bxV (zly b)).cells):=hHs ▸ hb7 ▸ zS zB;rw [hHs,hb7];clear hHs hb7;refine zAr (fun x:Nat×AV×List Fil=>[(10,zK (b.r0+1+(x.1:Int))),(3,.ref H.length 0 0 0),(8,.ref b7 0 0 0),(0,lv),(9,x.2.1)]) (fun x H'=>Old Hs H'/\x.1<=n/\ShV x.2.1 x.2.2/\Srtd x.2.2/\x.2.2.length<=200+x.1*26/\zlS b l (rs.drop x.1) x.2.2=R) (fun x=>n-x.1) (0,lv,l) rfl ⟨Old.refl _,by simp,hl,hsr,by simp only;omega,hR⟩ (fun x H1 hi=>?_);obtain ⟨i,w,m⟩:=x;obtain ⟨hO,hi,hw,hm2,hml,hput⟩:=hi;dsimp only at hi hw hm2 hml hput ⊢;have k3:H1[H.length]?=some (.box (bxV b).cells):=zFB hO g3;have k7:H1[b7]?=some (.box (bxV (zly b)).cells):=zFB hO g7;have hOH:Old H H1:=hOs.trans hO;obtain ⟨hb1,hf1⟩:=zO3 hw H.length;have hwm:(m.map zf).length=m.length:=zoU _;by_cases hlt:i<n
  case neg=>
   have e:i=n:=by omega
   subst e;rw [<-hrl,znd] at hput;rw [show zlS b l [] m=(0,m) from rfl] at hput;rw [<-hput];unfold zcj;rw [zWl (fun h=>h rfl)];by_cases h2:200<m.length
   ·rw [zoQ h2];clear hPu;refine sW ?_;refine zAk m.length hw.of hwm<|sW ?_
    exact zGx (v1:=.lst (some true) 0 []) (v2:=zL 4) rfl rfl rfl rfl rfl rfl hOH ⟨rfl,.lst (some true) 0 [],rfl,zTY⟩
   ·rw [zWl h2];clear hPu;refine sW ?_;refine zAk m.length hw.of hwm<|sW ?_
    exact zGx (v1:=w) (v2:=zL 0) rfl rfl rfl rfl (zJZ (hf1 _) fun _=>rfl) (by simp only [AV.bel,AV.belL,hb1,zoK,zL]) hOH ⟨rfl,w,rfl,hw⟩
  have hri:=hrg i hlt;have hdr:rs.drop i=(b.r0+1+(i:Int))::rs.drop (i+1):=by rw [zmF tO,(zg hri).2]
  rw [hdr,zlT] at hput;obtain ⟨w2,hw2,hc⟩:=hPu w lv m l (zly b) b.c0 (b.r0+1+(i:Int)) H1 hw hl hsr tO htx hm2 (hmy _ tO tO) tO;have hgr:=zlZ (b:=zly b) (c:=b.c0) (r:=b.r0+1+(i:Int)) (s:=l) (l:=m) f26;have hsr2:=zla (b:=zly b) (c:=b.c0) (r:=b.r0+1+(i:Int)) (s:=l) hm2;obtain ⟨X,hX⟩:∃ X,zYU (zly b) b.c0 (b.r0+1+(i:Int)) l m=X:=⟨_,rfl⟩;rw [hX] at hw2 hc hput hgr hsr2;clear hX hPu hdr hri hmy;have w1:IntKind.i64.wrap (b.r0+1+(i:Int)+1)=b.r0+1+((i+1:Nat):Int):=by rw [IntKind.wrap_i64];omega
  by_cases hx:X.1=0
  case neg=>
   rw [zoQ hx] at hput;have hne:=zgQ hx;rw [<-hput];unfold zcj;rw [zoQ hx];refine sW ?_;exact zGx (v1:=.lst (some true) 0 []) (v2:=zL X.1) rfl rfl rfl rfl rfl rfl hOH ⟨rfl,.lst (some true) 0 [],rfl,zTY⟩
  rw [zWl (fun h=>h hx)] at hput;rw [hx] at hc;refine sW ?_;refine zCl w1 ?_;exact zAJ (i+1,w2,X.2) rfl ⟨hO,by simp only;omega,hw2,hsr2,by simp only;omega,hput⟩ (by simp only;omega)
theorem zlg (b:Bx) (l:List Fil):(zlM b l).2.length<=1000000:=by
 unfold zlM zcj;split
 ·simp
 ·split
  ·simp
  ·split
   ·simp
   ·split
    ·simp
    ·omega
theorem zli (hR:∀ lv (l:List Fil) b H,ShV lv l->∃ w,ShV w (zlM b l).2/\C zlI [lv,bxV b] H (.tup [w,zL (zlM b l).1]) H) (hC:∀ lv (l:List Fil) b H,ShV lv l->∃ w,ShV w (zlM b l).2/\C zlL [lv,bxV b] H (.tup [w,eV (zlM b l).1]) H)
  (hM:MaH C) (lv:AV) (l:List Fil) (hl:ShV lv l) (b:Bx) (H:Heap):EFun C GT zlK [lv,bxV b] H (.bool true) H:=by
 obtain ⟨w,hw,h1⟩:=hR lv l b (H++[ABlk.box (bxV b).cells]) hl;obtain ⟨u,hu,h2⟩:=hC lv l b (H++[ABlk.box (bxV b).cells]) hl;have h3:=fun H=>hM u w (zlM b l).2 (zlM b l).1 H (hu.view H) (hw.view H) (zlg b l);clear hR hC hM;refine zH<|zAV (x:=bxV b) rfl<|sW ?_
 exact sRv
end
end Go.AM
namespace Go.Proofs.YtmfmhljpddpfnaaGreatDoor
open Go.AM
open Go.AM Go.RowKit
theorem zfv {x:AV} (h:Fits (.sl true zbB) x):∃ l:List Fil,∃ q,x=.lst (some q) 3 (l.map zf)/\(q=true->l=[]):=by
 obtain ⟨q,xs,e,hq,_⟩:=zkc h;obtain ⟨l,q',e',_⟩:=zbC h;rw [e] at e';simp only [AV.lst.injEq,zoS] at e';obtain ⟨rfl,_,rfl⟩:=e';exact ⟨l,q,e,fun h=>znM.1 (hq h)⟩
theorem zk8 {x:AV} (h:Fits (.sl true zbB) x):∃ l:List Fil,ShV x l:=by
 obtain ⟨l,q,rfl,hq⟩:=zfv h;exact ⟨l,q,3,rfl,.inl rfl,hq⟩
theorem zLy {v:AV} {l:List Fil} {vs:List AV} (h:ShV v l):zIt (v::vs)=true:=by
 obtain ⟨q,k,rfl,_⟩:=h;rfl
theorem zcm {b:Bx} {c r:Int} (h:zL1 b c r=true):b.ok=true/\okC c r=true/\(-26<=c-b.c0/\c-b.c0<=26)/\(-99<=r-b.r0/\r-b.r0<=99):=by
 unfold zL1 at h;rw [zTo,zTo] at h;have hb:=zO2 h.1;have ho:=(zHI c r).1 h.2.1;exact ⟨h.1,h.2.1,by omega,by omega⟩
section
variable {m:Int} {ev:Value} (hev:∃ te pe,ev=.iface te pe)
theorem zfw (v w:AV) (l:List Fil) (H:Heap) (hv:view H 3 v=some (l.map zf)) (hw:view H 3 w=some (l.map zf)) (hl:l.length<=1000000):GQ m ev zEE [v,w] H (.bool true) H:=
 zF mixed (kA 14) (zX2 v w l H hv hw hl)
theorem zk9:MaH (GQ m ev):=fun v w l n H hv hw hl=>
 zF mixed (kA 4) (zhx (fun n H=>zka n H) zfw v w l n H hv hw hl) (hn:=by unfold eV;by_cases h:n=0 <;> simp only [h,zoz,zot] <;> exact Go.AM.zHU (by assumption))
theorem zii (f:Fil) (c r:Int) (H:Heap):GQ m ev zBZ [zf f,ze c r] H (zK (zQJ f.col f.row c r)) H:=zF mixed (kA 41) (zff za8 f c r H)
theorem zcn (lv:AV) (l:List Fil) (c r:Int) (H:Heap) (found:Bool) (hl:l.length<=3000) (hs:Srtd l) (hv:view H 3 lv=some (l.map zf)) (hf:found=(match l[zK1 l c r]? with|some f=>isC c r f|none=>false)) :
  GQ m ev zk [lv,ze c r,.fn zBZ [] []] H (.tup [zL (zK1 l c r),.bool found]) H:=
 zF mixed (kA 40) (zYO zii lv l hl hs c r H hv found hf)
theorem zij (q:Bool) (k:Nat) (l:List Fil) (c r:Int) (t:Bs) (H:Heap) (hk:k=3\/l=[]) (hq:q=true->l=[]) (hl:l.length<=3000) (hs:Srtd l):GQ m ev zGd [.lst (some q) k (l.map zf),ze c r,.str t] H (opV (q&&decide (t=[])) (zEc l c r t)) H:=by
 rw [<-zfj q l hq c r t];exact zF mixed (kA 20) (zfh (fun lv l c r H found a b c d=>zcn lv l _ _ H found a b c d) (fun k H=>zU3 k H) (fun k l H h1 h2=>zYP k l H h1 h2) (fun b i l H h1 h2 h3=>zU4 b i l H h1 h2 h3) (fun b b' i l f H h1 h2 h3 h4 h5=>zU5 b b' i l f H h1 h2 h3 h4 h5) (fun b' f H h=>zTT b' f H h) q k l hk hq hl hs c r t H)
theorem g_wiH:WiH (GQ m ev):=fun v l c r t H hv hl hs=>by
 obtain ⟨q,k,rfl,hk,hq⟩:=hv;refine ⟨_,zk6 _ _ fun h=>?_,zij q k l c r t H hk hq hl hs⟩;simp only [zTo,zoY] at h;obtain ⟨h1,rfl⟩:=h;rw [hq h1];rfl
theorem zlA:RwiH (GQ m ev):=fun lv l c r t H hv hl hs=>zF mixed (kA 27) (zca (za2 za5) lv l hl hs c r t H hv)
theorem zco (b:Bx) (H:Heap):GQ m ev zFR [bxV b] H (.bool b.ok) H:=zF mixed (kA 16) (zfk (fun c r H=>zef c r H) b H)
theorem zfx (b:Bx) (H:Heap):GQ m ev zEg [bxV b] H (.bool b.ok) H:=zF mixed (kA 15) (zcc zfb b H)
theorem zcp (b:Bx) (c r:Int) (H:Heap):GQ m ev zFI [bxV b,ze c r] H (zgP b c r) H:=
 zF mixed (kA 18) (zYT (fun b h H=>zF mixed (kA 39) (zfl b h (zco b) H)) (fun b h H=>zF mixed (kA 39) (zfm b h (zco b) H)) (fun c r H=>zRU c r H) b c r H _ (fun h=>by unfold zgP;rw [zoQ h]) (fun h=>by unfold zgP;rw [zWl (by rw [h];simp)]))
theorem g_far (n:Int) (h:-1000<=n/\n<=1000) (H:Heap):GQ m ev zJg [zK n] H (.bool false) H:=zF mixed (kA 73) (zk5 n h H)
theorem zfy {dc dr:Int} (hc:-26<=dc/\dc<=26) (hr:-99<=dr/\dr<=99) (bc br:Nat) (l:List (Nat×ABlk)) (h1:(bc,.box [zK dc])∈l) (h2:(br,.box [zK dr])∈l):zgK (GQ m ev) zEi [bR bc,bR br] l (zL0 dc dr).ref:=fun r hk=>
 ⟨(inR (zLu dc dr r)).getD noRef,fun H hh=>zF mixed (kA 52) (zcf (fun r h cols rows h1 h2 H=>zF mixed (kA 49) (zfp (fun c r H=>zef c r H) g_far r h cols rows h1 h2 H)) r hk dc dr tO tO bc br H (hh _ h1) (hh _ h2)),fun x h=>by
  have h:inR (zLu dc dr r)=some x:=h;rw [h];rfl⟩
include hev in
theorem zik {t:Bs} {n:Nd} (hp:zAj t=some n) {dc dr:Int} (hc:-26<=dc/\dc<=26) (hr:-99<=dr/\dr<=99) (H:Heap):GQ m ev zGf [ndV n,zK dc,zK dr] H (.tup [ndV (onN (zL0 dc dr) n),.nili]) H:=
 zF mixed (kA 32) (zfq zk0 ziW n dc dr (g_on hp) (zfZ hev hp) (fun bc br l h1 h2=>zfy hc hr bc br l h1 h2) H)
include hev in
theorem g_cpR (b:Bx) (c r:Int) (hm:zL1 b c r=true):CpR (GQ m ev) b c r:=fun t ht b7 b6 H h7 h6=>by
 obtain ⟨hb,ho,hc,hr⟩:=zcm hm;exact g_rew hev zEG [bR b7,bR b6] [(b7,.box [zK c,zK r]),(b6,.box (bxV b).cells)] (zL0 (c-b.c0) (r-b.r0)) (zbj _ _) t ht (fun n hn H hh=>zF mixed (kA 31) (zie n b c r hb ho (fun H=>zik hev hn hc hr H) b7 b6 H (hh (b7,_) zS_) (hh (b6,_) zS_))) H (zcG h7 h6)
include hev in
theorem zlB:CopH (GQ m ev):=fun v sv l s b c r H hv hsv hs hsl hst hl hll=>by
 obtain ⟨v',H',⟨rfl,w,rfl,hw⟩,h⟩:=zDe mixed (kA 11) (zci zcp (fun lv s H h1 h2 h3=>zF mixed (kA 19) (zfo lv s H h1 h2 h3)) (g_cpR hev) g_wiH v sv l s hv hsv hs hsl hst hl b c r (fun h=>hll (zcm h).1) H) (hn:=zLy hv);exact ⟨w,hw,h⟩
theorem zlu:FuO (GQ m ev):=fun v l H hv hl=>zF mixed (kA 12) (zic v l hv hl H) (hn:=by obtain ⟨q,k,rfl,_⟩:=hv;rfl)
theorem zlv:FuN (GQ m ev):=fun v l H hv hl=>zF mixed (kA 12) (zid v l hv hl H) (hn:=by obtain ⟨q,k,rfl,_⟩:=hv;rfl)
include hev in
theorem zlC (lv:AV) (l:List Fil) (b:Bx) (c r:Int) (H:Heap) (hl:ShV lv l):∃ w,ShV w (zJ4 b c r l).2/\GQ m ev zHy [lv,bxV b,ze c r] H (.tup [w,eV (zJ4 b c r l).1]) H:=by
 obtain ⟨v',H',⟨rfl,w,rfl,hw⟩,h⟩:=zDe mixed (kA 3) (zif (fun lv l H h=>zhv hev lv l H h) (zlB hev) zlu zlv lv l hl b c r H) (hn:=zLy hl);exact ⟨w,hw,h⟩
include hev in
theorem zlw (lv:AV) (l:List Fil) (b:Bx) (H:Heap) (hl:ShV lv l):∃ w,ShV w (zlM b l).2/\GQ m ev zlL [lv,bxV b] H (.tup [w,eV (zlM b l).1]) H:=by
 obtain ⟨v',H',⟨rfl,w,rfl,hw⟩,h⟩:=zDe mixed (kA 6) (zll (fun lv l H h=>zhv hev lv l H h) zco (zlB hev) zlu zlv lv l hl b H) (hn:=zLy hl);exact ⟨w,hw,h⟩
theorem zTZ {dc dr:Int} (hc:-26<=dc/\dc<=26) (hr:-99<=dr/\dr<=99):RRef (GQ m ev) (cmV dc dr) (zL0 dc dr).ref:=fun r hk=>
 ⟨(inR (zLu dc dr r)).getD noRef,fun H=>zF mixed (kA 56) (zft (fun r h cols rows h1 h2 H=>zF mixed (kA 81) (zch zfb r h cols rows h1 h2 H)) r hk false 0 0 dc dr ⟨0,0,0,0⟩ hc hr H),fun x h=>by
  have h:inR (zLu dc dr r)=some x:=h;rw [h];rfl⟩
theorem zcq {dc dr:Int} (hc:-26<=dc/\dc<=26) (hr:-99<=dr/\dr<=99):RBox (GQ m ev) (cmV dc dr) (zL0 dc dr).box:=fun a b ha hb=>by
 obtain ⟨a',b',h1,h2⟩:=zcg (C:=GQ m ev) (GT:=gtQ m ev) (k0:=1) (row:=false) (at_:=0) (many:=0) (cols:=dc) (rows:=dr) (bx:=⟨0,0,0,0⟩) _ rfl rfl (zTZ hc hr) a b ha hb;exact ⟨a',b',fun H=>zF mixed (kA 57) (h1 H),h2⟩
theorem g_rwM (b:Bx) (c r:Int) (hm:zL1 b c r=true):RwM (GQ m ev) (c-b.c0) (r-b.r0):=fun t ht H=>by
 obtain ⟨_,_,hc,hr⟩:=zcm hm;exact zkz (zL0 (c-b.c0) (r-b.r0)) (zbj _ _) (zTZ hc hr) (zcq hc hr) t ht H
theorem zlx:PuH (GQ m ev):=fun v sv l s b c r H hv hsv hs hsl hst hl hm hll=>by
 obtain ⟨v',H',⟨rfl,w,rfl,hw⟩,h⟩:=zDe mixed (kA 9) (zih (fun b h H=>zF mixed (kA 25) (zcd b h H)) (fun lv l c r H h1 h2 h3=>zF mixed (kA 26) (zig lv l H h1 h2 h3 c r)) g_rwM zlA v sv l s hv hsv hs hsl hst hl b c r hm hll H) (hn:=zLy hv);exact ⟨w,hw,h⟩
theorem zil (lv:AV) (l:List Fil) (b:Bx) (c r:Int) (H:Heap) (hl:ShV lv l):∃ w,ShV w (zJ4 b c r l).2/\GQ m ev zFH [lv,bxV b,ze c r] H (.tup [w,zL (zJ4 b c r l).1]) H:=by
 obtain ⟨v',H',⟨rfl,w,rfl,hw⟩,h⟩:=zDe mixed (kA 2) (zfu (fun lv l H h=>zeg lv l H h) (fun b c r H=>zF mixed (kA 8) (zk7 zfx zfb b c r H)) zlx lv l hl b c r H) (hn:=zLy hl);exact ⟨w,hw,h⟩
theorem zlm (lv:AV) (l:List Fil) (b:Bx) (H:Heap) (hl:ShV lv l):∃ w,ShV w (zlM b l).2/\GQ m ev zlI [lv,bxV b] H (.tup [w,zL (zlM b l).1]) H:=by
 obtain ⟨v',H',⟨rfl,w,rfl,hw⟩,h⟩:=zDe mixed (kA 5) (zlh (fun lv l H h=>zeg lv l H h) zfx zlx lv l hl b H) (hn:=zLy hl);exact ⟨w,hw,h⟩
include hev in
theorem zTa {x0:AV} (h0:Fits (.sl true zbB) x0) (a b c d u z:Int) (H:Heap):GQ m ev zFj [x0,.agg [zK a,zK b,zK c,zK d],ze u z] H (.bool true) H:=by
 obtain ⟨l,hl⟩:=zk8 h0;exact zF mixed (kA 0) (zcl zil (zlC hev) zk9 x0 l hl ⟨a,b,c,d⟩ u z H) (hn:=zLy hl)
include hev in
theorem zld {x0:AV} (h0:Fits (.sl true zbB) x0) (a b c d:Int) (H:Heap):GQ m ev zlJ [x0,.agg [zK a,zK b,zK c,zK d]] H (.bool true) H:=by
 obtain ⟨l,hl⟩:=zk8 h0;exact zF mixed (kA 1) (zli zlm (zlw hev) zk9 x0 l hl ⟨a,b,c,d⟩ H) (hn:=zLy hl)
end
end Go.Proofs.YtmfmhljpddpfnaaGreatDoor
