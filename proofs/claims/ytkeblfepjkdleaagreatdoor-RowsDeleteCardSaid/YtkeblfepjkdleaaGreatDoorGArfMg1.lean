/- Several texts of mine in one (Arf, Wt0, Gds, Mg0, Mg1). Own work. -/
import Derived.Test.YtkeblfepjkdleaaGreatDoorGRffRfi
import Derived.Test.YtkeblfepjkdleaaGreatDoorGGqAm32
set_option linter.all false
namespace Go.AM
theorem zUm {α:Type} {f:α->AV}:∀ {ys:List AV},(∀ y∈ys,∃ v,y=f v)->∃ vs:List α,ys=vs.map f
 |[],_=>⟨[],rfl⟩
 |y::ys,h=>by
  obtain ⟨v,rfl⟩:=h y zS_;obtain ⟨vs,rfl⟩:=zUm (ys:=ys) fun z hz=>h z (zmS _ hz);exact ⟨v::vs,rfl⟩
theorem zkc {ag:Bool} {es:List Sh} {x:AV} (h:Fits (.sl ag es) x):∃ q xs,x=.lst (some q) es.length xs/\(q=true->xs=[])/\xs.length<=maxLen/\(∀ y∈xs,y.cells.length=es.length/\formed ag y) /\
  ∀ y∈xs,∀ (i:Nat) (s:Sh) (c:AV),es[i]?=some s->y.cells[i]?=some c->Fits s c:=by
 cases h with
 |sl ag es q xs hl hq h1 h2=>exact ⟨q,xs,rfl,hq,hl,h1,h2⟩
theorem zkd {k:IntKind} {x:AV} (h:Fits (.int k) x):∃ n,x=.int k n/\(Lit.int k n).wf=true:=by cases h with|int k n h=>exact ⟨n,rfl,h⟩
theorem zke {x:AV} (h:Fits .str x):∃ s,x=.str s:=by cases h with|str s h=>exact ⟨s,rfl⟩
theorem ziV {x:AV} (h:Fits .bool x):∃ b,x=.bool b:=by cases h with|bool b=>exact ⟨b,rfl⟩
theorem fl_wf {n:Int} (h:(Lit.int .i64 n).wf=true):zEK n:=by
 have h:IntKind.i64.min<=n/\n<=9223372036854775807:=by simpa [Lit.wf] using h
 have e:IntKind.i64.min=-9223372036854775808:=rfl;exact ⟨by omega,h.2⟩
theorem zXc {x:AV} (h:Fits (.int .i64) x):∃ n,x=zH n/\zEK n:=by
 obtain ⟨n,rfl,hn⟩:=zkd h;exact ⟨n,rfl,fl_wf hn⟩
def zfN:List Sh:=[.int .i64,.int .i64,.str]
theorem zkf {cs:List AV} (hl:cs.length=3) (h:∀ (i:Nat) (s:Sh) (c:AV),zfN[i]?=some s->cs[i]?=some c->Fits s c):∃ f:Fil,.agg cs=zl f/\zEK f.col/\zEK f.row:=by
 match cs,hl with
 |[a,b,c],_=>
  obtain ⟨n,rfl,h1⟩:=zXc (h 0 _ a rfl rfl);obtain ⟨m,rfl,h2⟩:=zXc (h 1 _ b rfl rfl);obtain ⟨s,rfl⟩:=zke (h 2 _ c rfl rfl);exact ⟨⟨n,m,s⟩,rfl,h1,h2⟩
theorem zb7 {x:AV} (h:Fits (.sl true zfN) x):∃ l:List Fil,∃ q,x=.lst (some q) 3 (l.map zl)/\(∀ H,view H 3 x=some (l.map zl))/\∀ f∈l,zEK f.col/\zEK f.row:=by
 obtain ⟨q,xs,rfl,_,_,h1,h2⟩:=zkc h;obtain ⟨l,hl⟩:∃ vs:List {f:Fil // zEK f.col/\zEK f.row},xs=vs.map (fun f=>zl f.1):=zUm fun y hy=>by
  obtain ⟨k1,cs,rfl⟩:=h1 y hy;obtain ⟨f,e,f1,f2⟩:=zkf k1 (h2 _ hy);exact ⟨⟨f,f1,f2⟩,e⟩
 refine ⟨l.map (·.1),q,by rw [zm5,hl];rfl,fun H=>by rw [hl,zm5];rfl,fun f hf=>?_⟩;obtain ⟨g,_,rfl⟩:=zmn.1 hf;exact g.2
theorem zb8 (c1 r1 c2 r2:Int):zbs c1 r1 c2 r2<0↔r1<r2\/(r1=r2/\c1<c2):=by
 unfold zbs zWL
 repeat' split
 all_goals omega
theorem zQT (a b:Fil):zE8 a b=true↔a.row<b.row\/(a.row=b.row/\a.col<b.col):=by
 unfold zE8;rw [zmb];exact zb8 _ _ _ _
def Srtd (l:List Fil):Prop:=l.Pairwise fun a b=>a.row<b.row\/(a.row=b.row/\a.col<b.col)
theorem Srtd.nil:Srtd []:=List.Pairwise.nil
theorem zb9:∀ (l:List Fil) (prev:Option Fil),zGv prev l=0->Srtd l/\∀ p,prev=some p->∀ f∈l,p.row<f.row\/(p.row=f.row/\p.col<f.col):=by
 intro l;induction l with
 |nil=>intro prev _;exact ⟨List.Pairwise.nil,fun _ _ f hf=>absurd hf zS_⟩
 |cons f r ih=>
  intro prev h;have h0:zWM prev f=0/\zGv (some f) r=0:=by
   have e:=zNj (f::r) 0 f rfl prev;simp only [znC,zlx,znd] at e;rw [e] at h;by_cases h1:zWM prev f=0
   ·rw [zlF h1] at h;exact ⟨h1,h⟩
   ·rw [zlD h1] at h;exact absurd h h1
  obtain ⟨s,hs⟩:=ih (some f) h0.2;have hp:∀ p,prev=some p->p.row<f.row\/(p.row=f.row/\p.col<f.col):=fun p hp=>by
   subst hp;have h2:=h0.1;unfold zWM at h2;by_cases h3:okC f.col f.row=false
   ·rw [zlF h3] at h2;cases h2
   ·rw [zlD h3] at h2;cases h4:zE8 p f with
    |true=>exact (zQT p f).1 h4
    |false=>simp [h4] at h2
  refine ⟨List.Pairwise.cons (fun g hg=>hs f rfl g hg) s,fun p hpp g hg=>?_⟩;rcases zmC.1 hg with rfl|hg
  ·exact hp p hpp
  ·have h1:=hp p hpp;have h2:=hs f rfl g hg;omega
theorem zY8 {l:List Fil} (h:zCA l=0):Srtd l:=by
 unfold zCA at h;by_cases h1:200<l.length
 ·rw [zlF h1] at h;cases h
 ·rw [zlD h1] at h;exact (zb9 l none h).1
structure Goods (l:List Fil):Prop where
 srt:Srtd l
 len:l.length<=200
 each:∀ f∈l,zjT f=0/\f.text≠[]
theorem zcA:∀ (l:List Fil) (prev:Option Fil),Srtd l->(∀ f∈l,zjT f=0/\f.text≠[])->(∀ p,prev=some p->∀ f∈l,p.row<f.row\/(p.row=f.row/\p.col<f.col))->zGv prev l=0
 |[],_,_,_,_=>rfl
 |f::r,prev,hs,he,hp=>by
  have h0:zWM prev f=0:=by
   obtain ⟨h1,h2⟩:=he f (znK ..);unfold zjT at h1;unfold zWM;cases hc:okC f.col f.row with
   |false=>rw [hc] at h1;cases h1
   |true=>
    rw [hc,zlF rfl] at h1;rw [zlD zS_];cases prev with
    |none=>
     show (if f.text=[] then 3 else zBu f.text)=0;rw [zlD h2];exact h1
    |some p=>
     have hl:=(zQT p f).2 (hp p rfl f (znK ..));show (if zE8 p f=false then 5 else if f.text=[] then 3 else zBu f.text)=0;rw [hl,zlD zS_,zlD h2];exact h1
  unfold zGv;rw [zlF h0];exact zcA r (some f) (znL.1 hs).2 (fun g hg=>he g (zmS _ hg)) (fun p hpe g hg=>by cases hpe;exact (znL.1 hs).1 g hg)
theorem Goods.check {l:List Fil} (h:Goods l):zCA l=0:=by
 unfold zCA;rw [zlD (by have:=h.len;omega)];exact zcA l none h.srt h.each (fun p hp=>by cases hp)
theorem zRz:∀ (l:List Fil) (prev:Option Fil),zGv prev l=0->∀ f∈l,zjT f=0/\f.text≠[]
 |[],_,_,f,hf=>absurd hf zS_
 |g::r,prev,h,f,hf=>by
  unfold zGv at h;by_cases h0:zWM prev g=0
  ·rw [zlF h0] at h;rcases zmC.1 hf with rfl|hf
   ·unfold zWM at h0;unfold zjT;cases hc:okC f.col f.row with
    |false=>rw [hc,zlF rfl] at h0;cases h0
    |true=>
     rw [hc,zlD zS_] at h0;rw [zlF rfl];have h0:(if f.text=[] then 3 else zBu f.text)=0:=by
      cases prev with
      |none=>exact h0
      |some p=>
       have h0:(if zE8 p f=false then 5 else if f.text=[] then 3 else zBu f.text)=0:=h0;by_cases hp:zE8 p f=false
       ·rw [zlF hp] at h0;cases h0
       ·rwa [zlD hp] at h0
     by_cases he:f.text=[]
     ·rw [zlF he] at h0;cases h0
     ·rw [zlD he] at h0;exact ⟨h0,he⟩
   ·exact zRz r _ h f hf
  ·rw [zlD h0] at h;exact absurd h h0
theorem zfO {l:List Fil} (h:zCA l=0):Goods l:=by
 refine ⟨zY8 h,(zb6 h).1, ?_⟩;unfold zCA at h;by_cases h1:200<l.length
 ·rw [zlF h1] at h;cases h
 ·rw [zlD h1] at h;exact zRz l none h
theorem Goods.nil:Goods []:=⟨Srtd.nil,by simp,fun f hf=>absurd hf zS_⟩
theorem Goods.take {l:List Fil} (h:Goods l) (n:Nat):Goods (l.take n):=⟨h.srt.sublist (List.take_sublist n l),by rw [zla];have:=h.len;omega,fun f hf=>h.each f (zmr hf)⟩
def zLh (f:Fil):Int×Int:=(f.col,f.row)
end Go.AM
