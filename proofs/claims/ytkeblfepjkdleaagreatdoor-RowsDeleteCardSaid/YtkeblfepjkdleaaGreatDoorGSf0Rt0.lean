/- Several texts of mine in one (Sf0, Made, Dec, Itd, Rt0). Own work. -/
import Derived.Test.YtkeblfepjkdleaaGreatDoorSff
import Derived.Test.YtkeblfepjkdleaaGreatDoorGAm30Fp1
import Derived.Test.YtkeblfepjkdleaaGreatDoorGGqAm32
import Derived.Test.YtkeblfepjkdleaaGreatDoorGAm23Am29
import Derived.Lib.ItoaNum
set_option linter.all false
set_option maxRecDepth 100000
namespace Go.Proofs.YtkeblfepjkdleaaGreatDoor
open Go.AM Go.Shelf Go.RowKit Go.Lib Go.Sort Go.Proofs
set_option maxHeartbeats 2000000 in
theorem ziW (fv:Value) (w:World):Calls Tryz.prog 119 #[.slice none 0 0,.int .i64 0,.int .i64 0,fv] w fun e w'=>e=.returned (.tuple #[])/\w'=w:=by
 go_enter Tryz.func119,Tryz.ntmps119
 go_wp2
 refine _root_.Go.wp_loop_rounds 1 ?_;rw [rounds_succ]
 go_wp2
 go_end0
 exact ⟨rfl,rfl⟩
set_option maxHeartbeats 2000000 in
theorem ziX (lim:Int) (fv:Value) (w:World):Calls Tryz.prog 88 #[.slice none 0 0,.int .i64 0,.int .i64 0,.int .i64 lim,fv] w fun e w'=>e=.returned (.tuple #[])/\w'=w:=by
 have hi:=fun W=>ziW fv W
 go_enter Tryz.func88,Tryz.ntmps88
 go_wp2
 refine _root_.Go.wp_loop_rounds 1 ?_;rw [rounds_succ]
 go_wp2_with (go_at_call 119;refine (hi _).mono ?_;rintro e w' ⟨rfl,rfl⟩)
 (try simp only [Exit.inBlock,Exit.then]);refine bodyPost_ret (results_none rfl _ _ _) rfl ?_
 exact ⟨rfl,rfl⟩
set_option maxHeartbeats 2000000 in
theorem zfR (fv:Value) (w:World):Calls Tryz.prog 54 #[.slice none 0 0,fv] w fun e w'=>e=.returned (.tuple #[])/\w'=w:=by
 have hp:=fun lim W=>ziX lim fv W;have hl:∀ W,Calls Tryz.prog 89 #[.int .u64 0] W fun e w'=>e=.returned (.int .i64 (Lib.bitLen 0:Nat))/\w'=W:=fun W=>by
  have h:=Any.bits_Len (SlLaysF0.n15.bits (P:=Tryz.prog) (ρ:=Tryz.ownSort_ren) { Tryz.ownSort with }) 0 W tO tO;exact h
 go_enter Tryz.func54,Tryz.ntmps54
 go_wp2_with (first|(go_at_call 89;refine (hl _).mono ?_;rintro e w' ⟨rfl,rfl⟩)|(go_at_call 88;refine (hp _ _).mono ?_;rintro e w' ⟨rfl,rfl⟩))
 go_end0
 exact ⟨rfl,rfl⟩
theorem zZG {GT:Nat->Option AV} (H:Heap):Go.AM.Good Tryz.prog GT 54 [.lst (some true) 0 [],.fn 55 [] []] H (.tup []) H:=by
 refine zFW Tryz.func54 (by kernel_rfl) (by kernel_rfl) rfl fun w M I cargs hS hA=>?_;obtain ⟨v1,v2,rfl,r1,r2⟩:=zSp hA;obtain rfl:v1=.slice none 0 0:=by
  cases r1 with
  |lnil=>rfl
  |lemp _ _ _ hq=>exact absurd rfl hq
  |lst _ _ _ _ _ _ _ hq=>exact absurd rfl hq
 refine Calls.mono (zfR v2 w) ?_;rintro e' w' ⟨rfl,rfl⟩;exact ⟨_,rfl,M,I,Go.AM.Grow.refl _ _ _ _,hS,.tup [] [] rfl fun i c v h _=>by simp at h⟩
end Go.Proofs.YtkeblfepjkdleaaGreatDoor
set_option maxRecDepth 20000
namespace Go.AM
section
variable {C:CSpec} {GT:Nat->Option AV}
theorem ziY (hR:∀ n H,C zEn [eV n,zK n] H (.bool true) H) (hS:∀ v w (l:List Fil) H,view H 3 v=some (l.map zl)->view H 3 w=some (l.map zl)->l.length<=1000000->C zEQ [v,w] H (.bool true) H)
  (v w:AV) (l:List Fil) (n:Nat) (H:Heap) (hv:view H 3 v=some (l.map zl)) (hw:view H 3 w=some (l.map zl)) (hl:l.length<=1000000):EFun C GT zKt [v,eV n,w,zK n] H (.bool true) H:=by
 have hr:=hR n H;have hs:=hS v w l H hv hw hl;clear hR hS;refine zJ<|sX ?_
 exact sRv
end
end Go.AM
set_option maxRecDepth 20000
namespace Go.AM
def dcF:Nat->Nat->List UInt8
 |0,_=>[]
 |f+1,n=>if n=0 then [] else UInt8.ofNat (48+n%10)::dcF f (n/10)
def zUt (n:Nat):List UInt8:=dcF n n
theorem zXe:∀ f g n,n<=f->n<=g->dcF f n=dcF g n
 |0,0,_,_,_=>rfl
 |0,g+1,n,h,_=>by
  have:n=0:=by omega
  subst this;rfl
 |f+1,0,n,_,h=>by
  have:n=0:=by omega
  subst this;rfl
 |f+1,g+1,n,h,k=>by
  simp only [dcF];split
  ·rfl
  ·rw [zXe f g (n/10) tO tO]
theorem zKF:zUt 0=[]:=rfl
theorem zI1 {n:Nat} (h:n≠0):zUt n=UInt8.ofNat (48+n%10)::zUt (n/10):=by
 unfold zUt;obtain ⟨m,rfl⟩:∃ m,n=m+1:=⟨n-1,by omega⟩;rw [dcF,if_neg h,zXe m ((m+1)/10) _ tO (Nat.le_refl _)]
theorem zTH:∀ (k n:Nat),n<10^k->(zUt n).length<=k
 |0,n,h=>by
  have:n=0:=by simpa using h
  subst this;exact Nat.le_refl _
 |k+1,n,h=>by
  by_cases h0:n=0
  ·subst h0;simp [zKF]
  ·rw [zI1 h0,List.length_cons];have:=zTH k (n/10) (by rw [Nat.pow_succ] at h;omega);omega
def signed (v:Int):List UInt8:=if v<0 then zUt v.natAbs++[45] else zUt v.natAbs
def zZH (v:Int):List UInt8:=if v=0 then [48] else (signed v).reverse
end Go.AM
namespace Go.AM
theorem zMo:∀ n:Nat,n≠0->Lib.decDigits n=(zUt n).reverse:=by
 intro n;induction n using Nat.strongRecOn with
 |ind n ih=>
  intro h;rw [zI1 h,List.reverse_cons];by_cases h1:n<10
  ·have:n/10=0:=by omega
   rw [Lib.decDigits,dif_pos h1,this,zKF];have:n%10=n:=by omega
   rw [this];rfl
  ·rw [Lib.decDigits,dif_neg h1,ih (n/10) tO tO]
theorem ziZ (v:Int):Lib.itoa v=zZH v:=by
 unfold Lib.itoa zZH signed;by_cases h:v<0
 ·rw [if_pos h,if_neg tO,if_pos h,List.reverse_append,zMo _ tO];rfl
 ·rw [if_neg h];by_cases h0:v=0
  ·subst h0;rw [if_pos rfl];exact (Lib.decDigits_one (i:=0) tO)
  ·rw [if_neg h0,if_neg h];have:v.toNat=v.natAbs:=by omega
   rw [this,zMo _ tO]
end Go.AM
set_option maxRecDepth 20000
namespace Go.AM
def zGC (n:Nat):Bs:=if n=0 then [48] else (zUt n).reverse
def esc:Bs->Bs
 |[]=>[]
 |c::r=>if c=34 then 34::34::esc r else c::esc r
def zEA (r:RefP):Bs:=(if r.fc then [36] else [])++[UInt8.ofNat (64+r.col.toNat)]++(if r.fr then [36] else [])++zGC r.row.toNat
def opT (op:Nat):Bs:=[[],[61],[60,62],[60],[60,61],[62],[62,61],[38],[43],[45],[42],[47]].getD op []
def zf (n:Nd):Nat:=if n.kind=8 then tight n.num.toNat else 9
def brk (need:Bool) (t:Bs):Bs:=if need then 40::t++[41] else t
def zA1:List Bs->Bs
 |[]=>[]
 |[t]=>t
 |t::u::r=>t++44::zA1 (u::r)
def txtK (k num:Int) (t:Bs) (r o:RefP) (ks:List (Nat×Bs)):Bs:=
 if k=1 then zGC num.toNat
 else if k=2 then 34::esc t++[34]
 else if k=3 then (if num=1 then zGA else zDc)
 else if k=4 then wrongs.getD (num.toNat-1) []
 else if k=5 then zEA r
 else if k=6 then zEA r++58::zEA o
 else if k=7 then (match ks with
  |[a]=>45::brk (decide (a.1<9)) a.2
  |_=>[])
 else if k=8 then (match ks with
  |[a,b]=>brk (decide (a.1<tight num.toNat)) a.2++opT num.toNat++brk (decide (b.1<=tight num.toNat)) b.2
  |_=>[])
 else t++40::zA1 (ks.map (·.2))++[41]
mutual
def txt:Nd->Bs
 |.mk k num t r o ks=>txtK k num t r o (txts ks)
def txts:List Nd->List (Nat×Bs)
 |[]=>[]
 |n::r=>(zf n,txt n)::txts r
end
theorem zXf:∀ ks:List Nd,txts ks=ks.map fun n=>(zf n,txt n)
 |[]=>rfl
 |n::r=>by rw [txts,List.map_cons,zXf r]
theorem zLY (n:Int):txt (zKP n)=zGC n.toNat:=rfl
theorem zLZ (t:Bs):txt (zHd t)=34::esc t++[34]:=rfl
theorem zLa (b:Bool):txt (zFC b)=if b then zGA else zDc:=by cases b <;> rfl
theorem zQV (k:Nat):txt (zHg k)=wrongs.getD (k-1) []:=by show wrongs.getD ((k:Int).toNat-1) []=_;rw [Int.toNat_natCast]
theorem zI2 (r:RefP):txt (zB3 r)=zEA r:=rfl
theorem zQW (r o:RefP):txt (zA2 r o)=zEA r++58::zEA o:=rfl
theorem zE9 (n:Nd):txt (zDO n)=45::brk (decide (zf n<9)) (txt n):=rfl
theorem zEg (op:Nat) (a b:Nd):txt (zAr op a b)=brk (decide (zf a<tight op)) (txt a)++opT op++brk (decide (zf b<=tight op)) (txt b):=by
 show brk (decide (zf a<tight (op:Int).toNat)) (txt a)++opT (op:Int).toNat++brk (decide (zf b<=tight (op:Int).toNat)) (txt b)=_;rw [Int.toNat_natCast]
theorem zDH (t:Bs) (ks:List Nd):txt (zA0 t ks)=t++40::zA1 (ks.map txt)++[41]:=by
 show t++40::zA1 ((txts ks).map (·.2))++[41]=_;rw [zXf,List.map_map];rfl
def okR (r:RefP):Prop:=1<=r.col/\r.col<=26/\1<=r.row/\r.row<=99
inductive Wf:Bool->Nd->Prop where
 |num (x:Bool) (n:Nat) (h:n<=9223372036854775807):Wf x (zKP n)
 |txt (x:Bool) (t:Bs):Wf x (zHd t)
 |tru (x b:Bool):Wf x (zFC b)
 |bad (x:Bool) (k:Nat) (h:1<=k/\k<=6):Wf x (zHg k)
 |ref (x:Bool) (r:RefP) (h:okR r):Wf x (zB3 r)
 |box (r o:RefP) (h:okR r) (k:okR o):Wf true (zA2 r o)
 |neg (x:Bool) (n:Nd) (h:Wf false n):Wf x (zDO n)
 |two (x:Bool) (op:Nat) (a b:Nd) (h:1<=op/\op<=11) (ha:Wf false a) (hb:Wf false b):Wf x (zAr op a b)
 |call (x:Bool) (t:Bs) (ks:List Nd) (h:zA8 t=true) (hk:∀ k∈ks,Wf true k):Wf x (zA0 t ks)
def needK (k num:Int) (ks:List (Nat×Nat)):Nat:=
 if k=7 then (match ks with
  |[a]=>1+(a.2+if a.1<9 then 1 else 0)
  |_=>0)
 else if k=8 then (match ks with
  |[a,b]=>max (a.2+if a.1<tight num.toNat then 1 else 0) (b.2+if b.1<=tight num.toNat then 1 else 0)
  |_=>0)
 else if k=9 then 1+(ks.map (·.2)).foldr max 0
 else 0
mutual
def need:Nd->Nat
 |.mk k num _ _ _ ks=>needK k num (needs ks)
def needs:List Nd->List (Nat×Nat)
 |[]=>[]
 |n::r=>(zf n,need n)::needs r
end
theorem zUu:∀ ks:List Nd,needs ks=ks.map fun n=>(zf n,need n)
 |[]=>rfl
 |n::r=>by rw [needs,List.map_cons,zUu r]
theorem zO4 (n:Nd):need (zDO n)=1+(need n+if zf n<9 then 1 else 0):=rfl
theorem zO5 (op:Nat) (a b:Nd):need (zAr op a b)=max (need a+if zf a<tight op then 1 else 0) (need b+if zf b<=tight op then 1 else 0):=by
 show max (need a+if zf a<tight (op:Int).toNat then 1 else 0) (need b+if zf b<=tight (op:Int).toNat then 1 else 0)=_;rw [Int.toNat_natCast]
theorem zMp (t:Bs) (ks:List Nd):need (zA0 t ks)=1+(ks.map need).foldr max 0:=by
 show 1+((needs ks).map (·.2)).foldr max 0=_;rw [zUu,List.map_map];rfl
theorem zMq (op:Nat) (a b:Nd):zf (zAr op a b)=tight op:=by
 show (if (8:Int)=8 then tight (op:Int).toNat else 9)=_;rw [if_pos rfl,Int.toNat_natCast]
theorem zD2 (op:Nat):1<=tight op/\tight op<=4:=by unfold tight;split <;> (try split) <;> (try split) <;> omega
theorem zQX {k:Nat} (h:k<10):(UInt8.ofNat (48+k)).toNat=48+k:=by simp;omega
theorem zfS:∀ (n:Nat),∀ c∈zUt n,zHE c=true:=by
 intro n;induction n using Nat.strongRecOn with
 |ind n ih=>
  intro c hc;by_cases h:n=0
  ·subst h;cases hc
  ·rw [zI1 h] at hc;rcases List.mem_cons.1 hc with rfl|hc
   ·have:=zQX (k:=n%10) tO;unfold zHE;rw [this];simp;omega
   ·exact ih (n/10) tO c hc
theorem zZI (l:Bs) (c:UInt8):zDp (l++[c])=zDp l*10+(c.toNat-48):=by unfold zDp;rw [List.foldl_append];rfl
theorem zfT:∀ n:Nat,zDp (zUt n).reverse=n:=by
 intro n;induction n using Nat.strongRecOn with
 |ind n ih=>
  by_cases h:n=0
  ·subst h;rfl
  ·rw [zI1 h,List.reverse_cons,zZI,ih (n/10) tO,zQX tO];omega
theorem zKS (n:Nat):∀ c∈zGC n,zHE c=true:=by
 unfold zGC;split
 ·intro c hc;rw [List.mem_singleton.1 hc];rfl
 ·intro c hc;exact zfS n c (List.mem_reverse.1 hc)
theorem zfU (n:Nat):zDp (zGC n)=n:=by
 unfold zGC;split
 ·rename_i h;rw [h];rfl
 ·exact zfT n
theorem zQY:∀ n:Nat,n≠0->(zUt n).getLast?≠some 48/\(zUt n)≠[]:=by
 intro n;induction n using Nat.strongRecOn with
 |ind n ih=>
  intro h;rw [zI1 h];refine ⟨?_,by simp⟩;by_cases h1:n/10=0
  ·rw [h1,zKF];intro e;have e:UInt8.ofNat (48+n%10)=48:=Option.some.inj e;have:=zQX (k:=n%10) tO;rw [e] at this;simp at this;omega
  ·obtain ⟨h2,h3⟩:=ih (n/10) tO h1;obtain ⟨x,r,hx⟩:=List.exists_cons_of_ne_nil h3;rw [hx] at h2 ⊢;simpa using h2
theorem zQZ (n:Nat):zGC n≠[]:=by
 unfold zGC;split
 ·simp
 ·rename_i h;simpa using (zQY n h).2
theorem zcG (n:Nat) (h:(zGC n).head?=some 48):zGC n=[48]:=by
 unfold zGC at h ⊢;split
 ·rfl
 ·rename_i h0;rw [if_neg h0,List.head?_reverse] at h;exact absurd h (zQY n h0).1
theorem zR1 {n:Nat} (h:n<=9223372036854775807):zCQ (zGC n)=some (n:Int):=by
 unfold zCQ;rw [if_neg,if_pos (List.all_eq_true.2 (zKS n)),zfU,if_pos h];rintro (h1|⟨h1,h2⟩)
 ·exact zQZ n h1
 ·exact h2 (zcG n h1)
theorem zKT {c:UInt8} (h:zHE c=true):zh c=true:=by
 unfold zHE at h;unfold zh;simp only [Bool.and_eq_true,decide_eq_true_eq] at h;simp [h.1,h.2]
theorem zR2 {c:UInt8} (h:zQj c=true):zh c=true:=by
 unfold zQj at h;unfold zh;simp only [Bool.and_eq_true,decide_eq_true_eq] at h;simp [h.1,h.2]
end Go.AM
