/- Several texts of mine in one (Sf0, Made, Dec, Itd, Rt0). Own work. -/
import Derived.Test.YtafclpcpdmeodaaGreatDoorSff
import Derived.Test.YtafclpcpdmeodaaGreatDoorGAm30Fp1
import Derived.Test.YtafclpcpdmeodaaGreatDoorGGqAm32
import Derived.Test.YtafclpcpdmeodaaGreatDoorGAm23Am29
import Derived.Lib.ItoaNum
set_option linter.all false
set_option maxRecDepth 100000
namespace Go.Proofs.YtafclpcpdmeodaaGreatDoor
open Go.AM Go.Shelf Go.RowKit Go.Lib Go.Sort Go.Proofs
set_option maxHeartbeats 2000000 in
theorem ins_nil (fv:Value) (w:World):Calls Tryz.prog 118 #[.slice none 0 0,.int .i64 0,.int .i64 0,fv] w fun e w'=>e=.returned (.tuple #[])/\w'=w:=by
 go_enter Tryz.func118,Tryz.ntmps118
 go_wp2
 refine _root_.Go.wp_loop_rounds 1 ?_;rw [rounds_succ]
 go_wp2
 go_end0
 exact ⟨rfl,rfl⟩
set_option maxHeartbeats 2000000 in
theorem pdq_nil (lim:Int) (fv:Value) (w:World):Calls Tryz.prog 87 #[.slice none 0 0,.int .i64 0,.int .i64 0,.int .i64 lim,fv] w fun e w'=>e=.returned (.tuple #[])/\w'=w:=by
 have hi:=fun W=>ins_nil fv W
 go_enter Tryz.func87,Tryz.ntmps87
 go_wp2
 refine _root_.Go.wp_loop_rounds 1 ?_;rw [rounds_succ]
 go_wp2_with (go_at_call 118;refine (hi _).mono ?_;rintro e w' ⟨rfl,rfl⟩)
 (try simp only [Exit.inBlock,Exit.then]);refine bodyPost_ret (results_none rfl _ _ _) rfl ?_
 exact ⟨rfl,rfl⟩
set_option maxHeartbeats 2000000 in
theorem sort_nil (fv:Value) (w:World):Calls Tryz.prog 52 #[.slice none 0 0,fv] w fun e w'=>e=.returned (.tuple #[])/\w'=w:=by
 have hp:=fun lim W=>pdq_nil lim fv W;have hl:∀ W,Calls Tryz.prog 88 #[.int .u64 0] W fun e w'=>e=.returned (.int .i64 (Lib.bitLen 0:Nat))/\w'=W:=fun W=>by
  have h:=Any.bits_Len (SlLaysF0.n15.bits (P:=Tryz.prog) (ρ:=Tryz.ownSort_ren) { Tryz.ownSort with }) 0 W tO tO;exact h
 go_enter Tryz.func52,Tryz.ntmps52
 go_wp2_with (first|(go_at_call 88;refine (hl _).mono ?_;rintro e w' ⟨rfl,rfl⟩)|(go_at_call 87;refine (hp _ _).mono ?_;rintro e w' ⟨rfl,rfl⟩))
 go_end0
 exact ⟨rfl,rfl⟩
theorem good_sort0 {GT:Nat->Option AV} (H:Heap):Go.AM.Good Tryz.prog GT 52 [.lst (some true) 0 [],.fn 53 [] []] H (.tup []) H:=by
 refine zFM Tryz.func52 (by kernel_rfl) (by kernel_rfl) rfl fun w M I cargs hS hA=>?_;obtain ⟨v1,v2,rfl,r1,r2⟩:=relL_two hA;obtain rfl:v1=.slice none 0 0:=by
  cases r1 with
  |lnil=>rfl
  |lemp _ _ _ hq=>exact absurd rfl hq
  |lst _ _ _ _ _ _ _ hq=>exact absurd rfl hq
 refine Calls.mono (sort_nil v2 w) ?_;rintro e' w' ⟨rfl,rfl⟩;exact ⟨_,rfl,M,I,Go.AM.Grow.refl _ _ _ _,hS,.tup [] [] rfl fun i c v h _=>by simp at h⟩
end Go.Proofs.YtafclpcpdmeodaaGreatDoor
set_option maxRecDepth 20000
namespace Go.AM
section
variable {C:CSpec} {GT:Nat->Option AV}
theorem made_ev (hR:∀ n H,C zEh [eV n,zK n] H (.bool true) H) (hS:∀ v w (l:List Fil) H,view H 3 v=some (l.map zl)->view H 3 w=some (l.map zl)->l.length<=1000000->C zEI [v,w] H (.bool true) H)
  (v w:AV) (l:List Fil) (n:Nat) (H:Heap) (hv:view H 3 v=some (l.map zl)) (hw:view H 3 w=some (l.map zl)) (hl:l.length<=1000000):EFun C GT zKc [v,eV n,w,zK n] H (.bool true) H:=by
 have hr:=hR n H;have hs:=hS v w l H hv hw hl;clear hR hS;refine zI<|sX ?_
 exact sRv
end
end Go.AM
set_option maxRecDepth 20000
namespace Go.AM
def dcF:Nat->Nat->List UInt8
 |0,_=>[]
 |f+1,n=>if n=0 then [] else UInt8.ofNat (48+n%10)::dcF f (n/10)
def decL (n:Nat):List UInt8:=dcF n n
theorem dcF_fuel:∀ f g n,n<=f->n<=g->dcF f n=dcF g n
 |0,0,_,_,_=>rfl
 |0,g+1,n,h,_=>by
  have:n=0:=by omega
  subst this;rfl
 |f+1,0,n,_,h=>by
  have:n=0:=by omega
  subst this;rfl
 |f+1,g+1,n,h,k=>by
  simp only [dcF];split
  ·rfl
  ·rw [dcF_fuel f g (n/10) tO tO]
theorem zJy:decL 0=[]:=rfl
theorem zIl {n:Nat} (h:n≠0):decL n=UInt8.ofNat (48+n%10)::decL (n/10):=by
 unfold decL;obtain ⟨m,rfl⟩:∃ m,n=m+1:=⟨n-1,by omega⟩;rw [dcF,if_neg h,dcF_fuel m ((m+1)/10) _ tO (Nat.le_refl _)]
theorem decL_len:∀ (k n:Nat),n<10^k->(decL n).length<=k
 |0,n,h=>by
  have:n=0:=by simpa using h
  subst this;exact Nat.le_refl _
 |k+1,n,h=>by
  by_cases h0:n=0
  ·subst h0;simp [zJy]
  ·rw [zIl h0,List.length_cons];have:=decL_len k (n/10) (by rw [Nat.pow_succ] at h;omega);omega
def signed (v:Int):List UInt8:=if v<0 then decL v.natAbs++[45] else decL v.natAbs
def digR (v:Int):List UInt8:=if v=0 then [48] else (signed v).reverse
end Go.AM
namespace Go.AM
theorem zMX:∀ n:Nat,n≠0->Lib.decDigits n=(decL n).reverse:=by
 intro n;induction n using Nat.strongRecOn with
 |ind n ih=>
  intro h;rw [zIl h,List.reverse_cons];by_cases h1:n<10
  ·have:n/10=0:=by omega
   rw [Lib.decDigits,dif_pos h1,this,zJy];have:n%10=n:=by omega
   rw [this];rfl
  ·rw [Lib.decDigits,dif_neg h1,ih (n/10) tO tO]
theorem itoa_is (v:Int):Lib.itoa v=digR v:=by
 unfold Lib.itoa digR signed;by_cases h:v<0
 ·rw [if_pos h,if_neg tO,if_pos h,List.reverse_append,zMX _ tO];rfl
 ·rw [if_neg h];by_cases h0:v=0
  ·subst h0;rw [if_pos rfl];exact (Lib.decDigits_one (i:=0) tO)
  ·rw [if_neg h0,if_neg h];have:v.toNat=v.natAbs:=by omega
   rw [this,zMX _ tO]
end Go.AM
set_option maxRecDepth 20000
namespace Go.AM
def zF1 (n:Nat):Bs:=if n=0 then [48] else (decL n).reverse
def esc:Bs->Bs
 |[]=>[]
 |c::r=>if c=34 then 34::34::esc r else c::esc r
def zD2 (r:RefP):Bs:=(if r.fc then [36] else [])++[UInt8.ofNat (64+r.col.toNat)]++(if r.fr then [36] else [])++zF1 r.row.toNat
def opT (op:Nat):Bs:=[[],[61],[60,62],[60],[60,61],[62],[62,61],[38],[43],[45],[42],[47]].getD op []
def zf (n:Nd):Nat:=if n.kind=8 then tight n.num.toNat else 9
def brk (need:Bool) (t:Bs):Bs:=if need then 40::t++[41] else t
def zAw:List Bs->Bs
 |[]=>[]
 |[t]=>t
 |t::u::r=>t++44::zAw (u::r)
def txtK (k num:Int) (t:Bs) (r o:RefP) (ks:List (Nat×Bs)):Bs:=
 if k=1 then zF1 num.toNat
 else if k=2 then 34::esc t++[34]
 else if k=3 then (if num=1 then zFz else zDY)
 else if k=4 then wrongs.getD (num.toNat-1) []
 else if k=5 then zD2 r
 else if k=6 then zD2 r++58::zD2 o
 else if k=7 then (match ks with
  |[a]=>45::brk (decide (a.1<9)) a.2
  |_=>[])
 else if k=8 then (match ks with
  |[a,b]=>brk (decide (a.1<tight num.toNat)) a.2++opT num.toNat++brk (decide (b.1<=tight num.toNat)) b.2
  |_=>[])
 else t++40::zAw (ks.map (·.2))++[41]
mutual
def txt:Nd->Bs
 |.mk k num t r o ks=>txtK k num t r o (txts ks)
def txts:List Nd->List (Nat×Bs)
 |[]=>[]
 |n::r=>(zf n,txt n)::txts r
end
theorem txts_map:∀ ks:List Nd,txts ks=ks.map fun n=>(zf n,txt n)
 |[]=>rfl
 |n::r=>by rw [txts,List.map_cons,txts_map r]
theorem zLH (n:Int):txt (zJ7 n)=zF1 n.toNat:=rfl
theorem zLI (t:Bs):txt (zHP t)=34::esc t++[34]:=rfl
theorem zLJ (b:Bool):txt (zE5 b)=if b then zFz else zDY:=by cases b <;> rfl
theorem zQC (k:Nat):txt (zHR k)=wrongs.getD (k-1) []:=by show wrongs.getD ((k:Int).toNat-1) []=_;rw [Int.toNat_natCast]
theorem zIm (r:RefP):txt (zBz r)=zD2 r:=rfl
theorem zQD (r o:RefP):txt (zAx r o)=zD2 r++58::zD2 o:=rfl
theorem zE3 (n:Nd):txt (zDJ n)=45::brk (decide (zf n<9)) (txt n):=rfl
theorem zEY (op:Nat) (a b:Nd):txt (zAl op a b)=brk (decide (zf a<tight op)) (txt a)++opT op++brk (decide (zf b<=tight op)) (txt b):=by
 show brk (decide (zf a<tight (op:Int).toNat)) (txt a)++opT (op:Int).toNat++brk (decide (zf b<=tight (op:Int).toNat)) (txt b)=_;rw [Int.toNat_natCast]
theorem zDD (t:Bs) (ks:List Nd):txt (zAv t ks)=t++40::zAw (ks.map txt)++[41]:=by
 show t++40::zAw ((txts ks).map (·.2))++[41]=_;rw [txts_map,List.map_map];rfl
def okR (r:RefP):Prop:=1<=r.col/\r.col<=26/\1<=r.row/\r.row<=99
inductive Wf:Bool->Nd->Prop where
 |num (x:Bool) (n:Nat) (h:n<=9223372036854775807):Wf x (zJ7 n)
 |txt (x:Bool) (t:Bs):Wf x (zHP t)
 |tru (x b:Bool):Wf x (zE5 b)
 |bad (x:Bool) (k:Nat) (h:1<=k/\k<=6):Wf x (zHR k)
 |ref (x:Bool) (r:RefP) (h:okR r):Wf x (zBz r)
 |box (r o:RefP) (h:okR r) (k:okR o):Wf true (zAx r o)
 |neg (x:Bool) (n:Nd) (h:Wf false n):Wf x (zDJ n)
 |two (x:Bool) (op:Nat) (a b:Nd) (h:1<=op/\op<=11) (ha:Wf false a) (hb:Wf false b):Wf x (zAl op a b)
 |call (x:Bool) (t:Bs) (ks:List Nd) (h:zA3 t=true) (hk:∀ k∈ks,Wf true k):Wf x (zAv t ks)
def needK (k num:Int) (ks:List (Nat×Nat)):Nat:=
 if k=7 then (match ks with
  |[a]=>1+(a.2+if a.1<9 then 1 else 0)
  |_=>0)
 else if k=8 then (match ks with
  |[a,b]=>max (a.2+if a.1<tight num.toNat then 1 else 0) (b.2+if b.1<=tight num.toNat then 1 else 0)
  |_=>0)
 else if k=9 then 1+(ks.map (·.2)).foldr max 0
 else 0
mutual
def need:Nd->Nat
 |.mk k num _ _ _ ks=>needK k num (needs ks)
def needs:List Nd->List (Nat×Nat)
 |[]=>[]
 |n::r=>(zf n,need n)::needs r
end
theorem needs_map:∀ ks:List Nd,needs ks=ks.map fun n=>(zf n,need n)
 |[]=>rfl
 |n::r=>by rw [needs,List.map_cons,needs_map r]
theorem zOi (n:Nd):need (zDJ n)=1+(need n+if zf n<9 then 1 else 0):=rfl
theorem zOj (op:Nat) (a b:Nd):need (zAl op a b)=max (need a+if zf a<tight op then 1 else 0) (need b+if zf b<=tight op then 1 else 0):=by
 show max (need a+if zf a<tight (op:Int).toNat then 1 else 0) (need b+if zf b<=tight (op:Int).toNat then 1 else 0)=_;rw [Int.toNat_natCast]
theorem zMY (t:Bs) (ks:List Nd):need (zAv t ks)=1+(ks.map need).foldr max 0:=by
 show 1+((needs ks).map (·.2)).foldr max 0=_;rw [needs_map,List.map_map];rfl
theorem zMZ (op:Nat) (a b:Nd):zf (zAl op a b)=tight op:=by
 show (if (8:Int)=8 then tight (op:Int).toNat else 9)=_;rw [if_pos rfl,Int.toNat_natCast]
theorem zDv (op:Nat):1<=tight op/\tight op<=4:=by unfold tight;split <;> (try split) <;> (try split) <;> omega
theorem zQE {k:Nat} (h:k<10):(UInt8.ofNat (48+k)).toNat=48+k:=by simp;omega
theorem decL_dig:∀ (n:Nat),∀ c∈decL n,zG2 c=true:=by
 intro n;induction n using Nat.strongRecOn with
 |ind n ih=>
  intro c hc;by_cases h:n=0
  ·subst h;cases hc
  ·rw [zIl h] at hc;rcases List.mem_cons.1 hc with rfl|hc
   ·have:=zQE (k:=n%10) tO;unfold zG2;rw [this];simp;omega
   ·exact ih (n/10) tO c hc
theorem decV_snocR (l:Bs) (c:UInt8):zDk (l++[c])=zDk l*10+(c.toNat-48):=by unfold zDk;rw [List.foldl_append];rfl
theorem decV_rev:∀ n:Nat,zDk (decL n).reverse=n:=by
 intro n;induction n using Nat.strongRecOn with
 |ind n ih=>
  by_cases h:n=0
  ·subst h;rfl
  ·rw [zIl h,List.reverse_cons,decV_snocR,ih (n/10) tO,zQE tO];omega
theorem zKA (n:Nat):∀ c∈zF1 n,zG2 c=true:=by
 unfold zF1;split
 ·intro c hc;rw [List.mem_singleton.1 hc];rfl
 ·intro c hc;exact decL_dig n c (List.mem_reverse.1 hc)
theorem digT_val (n:Nat):zDk (zF1 n)=n:=by
 unfold zF1;split
 ·rename_i h;rw [h];rfl
 ·exact decV_rev n
theorem zQF:∀ n:Nat,n≠0->(decL n).getLast?≠some 48/\(decL n)≠[]:=by
 intro n;induction n using Nat.strongRecOn with
 |ind n ih=>
  intro h;rw [zIl h];refine ⟨?_,by simp⟩;by_cases h1:n/10=0
  ·rw [h1,zJy];intro e;have e:UInt8.ofNat (48+n%10)=48:=Option.some.inj e;have:=zQE (k:=n%10) tO;rw [e] at this;simp at this;omega
  ·obtain ⟨h2,h3⟩:=ih (n/10) tO h1;obtain ⟨x,r,hx⟩:=List.exists_cons_of_ne_nil h3;rw [hx] at h2 ⊢;simpa using h2
theorem zQG (n:Nat):zF1 n≠[]:=by
 unfold zF1;split
 ·simp
 ·rename_i h;simpa using (zQF n h).2
theorem digT_head (n:Nat) (h:(zF1 n).head?=some 48):zF1 n=[48]:=by
 unfold zF1 at h ⊢;split
 ·rfl
 ·rename_i h0;rw [if_neg h0,List.head?_reverse] at h;exact absurd h (zQF n h0).1
theorem whole_digT {n:Nat} (h:n<=9223372036854775807):zCL (zF1 n)=some (n:Int):=by
 unfold zCL;rw [if_neg,if_pos (List.all_eq_true.2 (zKA n)),digT_val,if_pos h];rintro (h1|⟨h1,h2⟩)
 ·exact zQG n h1
 ·exact h2 (digT_head n h1)
theorem zKB {c:UInt8} (h:zG2 c=true):zh c=true:=by
 unfold zG2 at h;unfold zh;simp only [Bool.and_eq_true,decide_eq_true_eq] at h;simp [h.1,h.2]
theorem cap_wordly {c:UInt8} (h:capB c=true):zh c=true:=by
 unfold capB at h;unfold zh;simp only [Bool.and_eq_true,decide_eq_true_eq] at h;simp [h.1,h.2]
end Go.AM
