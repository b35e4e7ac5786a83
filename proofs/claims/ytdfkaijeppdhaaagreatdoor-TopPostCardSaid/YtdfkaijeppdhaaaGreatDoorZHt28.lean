/- Part of the proof. -/
import Derived.Test.YtdfkaijeppdhaaaGreatDoorZHt27
import Derived.StillTailTactics

set_option maxRecDepth 100000
set_option maxHeartbeats 8000000

namespace Go.Proofs.YtdfkaijeppdhaaaGreatDoor.Fd
open Go.RowKit
open Lib (hid)
theorem ret_b{a b:Bool}(h:a=b):Ending.returned (.bool a)= .returned (.bool b):=by rw[h]
theorem ret_i{a b:Int}(h:a=b):Ending.returned (.int .i64 a)= .returned (.int .i64 b):=by rw[h]
def betw(a b c:Int):Bool:=decide (a<=b)&&decide (b<=c)
theorem betw_iff(a b c:Int):betw a b c=true↔a<=b/\b<=c:=by simp[betw]
theorem between_any(a b c:Int)(w:World):
  Calls Tryz.prog 299 #[.int .i64 a,.int .i64 b,.int .i64 c] w fun e w'=>e= .returned (.bool (betw a b c))/\w=w':=by
 unfold betw;by_cases h1:a<=b
 ·by_cases h2:b<=c
  ·go_enter Tryz.func299,Tryz.ntmps299;go_wp2;go_ret;exact⟨by simp[h1,h2],rfl⟩
  go_enter Tryz.func299,Tryz.ntmps299;go_wp2;go_ret;exact⟨by simp[h2],rfl⟩
 go_enter Tryz.func299,Tryz.ntmps299;go_wp2;go_ret;exact⟨by rw[decide_eq_false (show¬a<=b by omega)];rfl,rfl⟩
theorem a1X(a b c:Int)(w:World):
  Calls Tryz.prog 217 #[.int .i64 a,.int .i64 b,.int .i64 c] w fun e w'=>e= .returned (.bool (betw a b c))/\w=w':=by
 unfold betw;by_cases h1:a<=b
 ·by_cases h2:b<=c
  ·go_enter Tryz.func217,Tryz.ntmps217;go_wp2;go_ret;exact⟨by simp[h1,h2],rfl⟩
  go_enter Tryz.func217,Tryz.ntmps217;go_wp2;go_ret;exact⟨by simp[h2],rfl⟩
 go_enter Tryz.func217,Tryz.ntmps217;go_wp2;go_ret;exact⟨by rw[decide_eq_false (show¬a<=b by omega)];rfl,rfl⟩
def rn(n d:Int):Int:=n / (Int.gcd n d:Nat)
def rd(n d:Int):Int:=d / (Int.gcd n d:Nat)
def anE(n d:Int):Value:=.agg #[.int .i64 (rn n d),.int .i64 (rd n d)]
theorem gcd_step(x y:Nat):Nat.gcd y (x % y)=Nat.gcd x y:=by
 rw[Nat.gcd_comm x y,Nat.gcd_rec y x,Nat.gcd_comm]
theorem emod_cast(p q:Nat):((p:Int) % (q:Int))=((p % q:Nat):Int):=(amD p q).symm
theorem acs(k m:Nat):Ending.returned (.agg #[.int .i64 ((k:Int) / ((k.gcd m:Nat):Int)),.int .i64 ((m:Int) / ((k.gcd m:Nat):Int))])= .returned (anE k m):=rfl
theorem act(k m:Nat):Ending.returned (.agg #[.int .i64 (-((k:Int) / ((k.gcd m:Nat):Int))),.int .i64 ((m:Int) / ((k.gcd m:Nat):Int))])= .returned (anE (-(k:Int)) m):=by
 have h:(k.gcd m:Int) ∣ (k:Int):=Int.ofNat_dvd.2 (Nat.gcd_dvd_left k m);have e:Int.gcd (-(k:Int)) m=k.gcd m:=by rw[Int.neg_gcd];rfl
 unfold anE rn rd;rw[e,Int.neg_ediv_of_dvd h]
theorem ahS(k m:Nat)(w:World)(hk:k<=4000000000000000000)(hm1:1<=m)(hm2:m<=4000000000000000000):
  Calls Tryz.prog 308 #[.int .i64 k,.int .i64 m] w fun e w'=>e= .returned (anE k m)/\Below w.heap.size w w':=by
 go_enter Tryz.func308,Tryz.ntmps308;go_wp2;go_loopw [5,6] (fun x y wr=>∃p q:Nat,x= .int .i64 p/\y= .int .i64 q/\1<=p+q/\p<=4000000000000000000/\q<=4000000000000000000/\Hid (Nat.gcd p q=Nat.gcd k m)/\Below (w.heap.size+1) (w.alloc (.cells #[.int .i64 0,.int .i64 0] 199)) wr) (fun _ y _=>(intOf y).toNat)
 case atStart=>exact⟨k,m,by go_num,rfl,by omega,by omega,by omega,rfl,apC _ _⟩
 case round=>
  obtain⟨p,q,rfl,rfl,hpq,hp2,hq2,G,hbel⟩:=hrel;by_cases hq:0<q
  ·have hm:=amI p hq;have hne:((q:Int) != 0)=true:=by rw[bne_iff_ne];omega
   have hne2:((q:Int)==0)=false:=beq_eq_false_iff_ne.2 (by omega);go_wp2;go_region
   all_goals go_wp2
   all_goals go_roundw
   case rel=>exact⟨q,p % q,rfl,by rw[emod_cast],by omega,by omega,by omega,(gcd_step p q).trans G.out,hbel.drew⟩
   case measure=>rw[emod_cast];simp only[intOf];omega
  have e:q=0:=by omega
  subst e;have G':=G.out;rw[Nat.gcd_zero_right]at G';clear G;have GH:=hid G';clear G';have c0:wr.cell? ⟨w.heap.size,0,none⟩=some (.int .i64 0):=(hbel.cell (p:=⟨w.heap.size,0,none⟩) (am2 _)).trans (by simp)
  have c1:wr.cell? ⟨w.heap.size,1,none⟩=some (.int .i64 0):=(hbel.cell (p:=⟨w.heap.size,1,none⟩) (am2 _)).trans (by simp)
  have f0:wr.frozen? ⟨w.heap.size,0,none⟩=false:=(hbel.frozen (p:=⟨w.heap.size,0,none⟩) (am2 _)).trans (by simp)
  have f1:wr.frozen? ⟨w.heap.size,1,none⟩=false:=(hbel.frozen (p:=⟨w.heap.size,1,none⟩) (am2 _)).trans (by simp)
  have hne:((p:Int)==0)=false:=beq_eq_false_iff_ne.2 (by omega);have hd1:=IntWalk.tdiv_le k p (by omega) (by omega);have hd2:=IntWalk.tdiv_le m p (by omega) (by omega);go_wp2;go_region
  all_goals go_wp2
  refine bodyPost_ret (v:=.agg #[.int .i64 ((k:Int) / (p:Int)),.int .i64 ((m:Int) / (p:Int))]) (by simp[results,Tryz.results308,go_sem,c0,c1]) rfl ⟨?_,?_⟩
  ·have:=GH.out;subst this;exact acs k m
  exact((((apC _ w).alloc (aly _) _).trans (hbel.mono (ama _))).setCell (aly _) _).setCell (aly _) _ |>.drew
theorem ahT(k m:Nat)(w:World)(hk1:1<=k)(hk:k<=4000000000000000000)(hm1:1<=m)(hm2:m<=4000000000000000000):
  Calls Tryz.prog 308 #[.int .i64 (-(k:Int)),.int .i64 m] w fun e w'=>e= .returned (anE (-(k:Int)) m)/\Below w.heap.size w w':=by
 go_enter Tryz.func308,Tryz.ntmps308;go_wp2;go_loopw [5,6] (fun x y wr=>∃p q:Nat,x= .int .i64 p/\y= .int .i64 q/\1<=p+q/\p<=4000000000000000000/\q<=4000000000000000000/\Hid (Nat.gcd p q=Nat.gcd k m)/\Below (w.heap.size+1) (w.alloc (.cells #[.int .i64 0,.int .i64 0] 199)) wr) (fun _ y _=>(intOf y).toNat)
 case atStart=>exact⟨k,m,by go_num,rfl,by omega,by omega,by omega,rfl,apC _ _⟩
 case round=>
  obtain⟨p,q,rfl,rfl,hpq,hp2,hq2,G,hbel⟩:=hrel;by_cases hq:0<q
  ·have hm:=amI p hq;have hne:((q:Int) != 0)=true:=by rw[bne_iff_ne];omega
   have hne2:((q:Int)==0)=false:=beq_eq_false_iff_ne.2 (by omega);go_wp2;go_region
   all_goals go_wp2
   all_goals go_roundw
   case rel=>exact⟨q,p % q,rfl,by rw[emod_cast],by omega,by omega,by omega,(gcd_step p q).trans G.out,hbel.drew⟩
   case measure=>rw[emod_cast];simp only[intOf];omega
  have e:q=0:=by omega
  subst e;have G':=G.out;rw[Nat.gcd_zero_right]at G';clear G;have GH:=hid G';clear G';have c0:wr.cell? ⟨w.heap.size,0,none⟩=some (.int .i64 0):=(hbel.cell (p:=⟨w.heap.size,0,none⟩) (am2 _)).trans (by simp)
  have c1:wr.cell? ⟨w.heap.size,1,none⟩=some (.int .i64 0):=(hbel.cell (p:=⟨w.heap.size,1,none⟩) (am2 _)).trans (by simp)
  have f0:wr.frozen? ⟨w.heap.size,0,none⟩=false:=(hbel.frozen (p:=⟨w.heap.size,0,none⟩) (am2 _)).trans (by simp)
  have f1:wr.frozen? ⟨w.heap.size,1,none⟩=false:=(hbel.frozen (p:=⟨w.heap.size,1,none⟩) (am2 _)).trans (by simp)
  have hne:((p:Int)==0)=false:=beq_eq_false_iff_ne.2 (by omega);have hd1:=IntWalk.tdiv_le k p (by omega) (by omega);have hd2:=IntWalk.tdiv_le m p (by omega) (by omega);go_wp2;go_region
  all_goals go_wp2
  refine bodyPost_ret (v:=.agg #[.int .i64 (-((k:Int) / (p:Int))),.int .i64 ((m:Int) / (p:Int))]) (by simp[results,Tryz.results308,go_sem,c0,c1]) rfl ⟨?_,?_⟩
  ·have:=GH.out;subst this;exact act k m
  exact((((apC _ w).alloc (aly _) _).trans (hbel.mono (ama _))).setCell (aly _) _).setCell (aly _) _ |>.drew
theorem a44(n d:Int)(w:World)(hn1: -4000000000000000000<=n)(hn2:n<=4000000000000000000)(hd1:1<=d)(hd2:d<=4000000000000000000):
  Calls Tryz.prog 308 #[.int .i64 n,.int .i64 d] w fun e w'=>e= .returned (anE n d)/\Below w.heap.size w w':=by
 obtain⟨m,rfl⟩:=alT (show 0<=d by omega);by_cases h:0<=n
 ·obtain⟨k,rfl⟩:=alT h;exact ahS k m w (by omega) (by omega) (by omega)
 obtain⟨k,hk⟩:=alT (show 0<= -n by omega);obtain rfl:n= -(k:Int):=by omega
 exact ahT k m w (by omega) (by omega) (by omega) (by omega)
theorem al4(k m:Nat)(w:World)(hk:k<=4000000000000000000)(hm2:m<=4000000000000000000):
  Calls Tryz.prog 243 #[.int .i64 k,.int .i64 m] w fun e w'=>e= .returned (.int .i64 (k.gcd m:Nat))/\Below w.heap.size w w':=by
 go_enter Tryz.func243,Tryz.ntmps243;go_wp2;go_loopw [0,1] (fun x y wr=>∃p q:Nat,x= .int .i64 p/\y= .int .i64 q/\p<=4000000000000000000/\q<=4000000000000000000/\Hid (Nat.gcd p q=Nat.gcd k m)/\Below w.heap.size w wr) (fun _ y _=>(intOf y).toNat)
 case atStart=>exact⟨k,m,by go_num,rfl,by omega,by omega,rfl,apC _ _⟩
 case round=>
  obtain⟨p,q,rfl,rfl,hp2,hq2,G,hbel⟩:=hrel;by_cases hq:0<q
  ·have hm:=amI p hq;have hne:((q:Int) != 0)=true:=by rw[bne_iff_ne];omega
   have hne2:((q:Int)==0)=false:=beq_eq_false_iff_ne.2 (by omega);go_wp2;go_region
   all_goals go_wp2
   all_goals go_roundw
   case rel=>exact⟨q,p % q,rfl,by rw[emod_cast],by omega,by omega,(gcd_step p q).trans G.out,hbel.drew⟩
   case measure=>rw[emod_cast];simp only[intOf];omega
  have e:q=0:=by omega
  subst e;have G':=G.out;rw[Nat.gcd_zero_right]at G';clear G;have GH:=hid G';clear G';go_wp2;go_ret;exact⟨ret_i (by rw[GH.out]),hbel⟩
theorem al5(k m:Nat)(w:World)(hk1:1<=k)(hk:k<=4000000000000000000)(hm2:m<=4000000000000000000):
  Calls Tryz.prog 243 #[.int .i64 (-(k:Int)),.int .i64 m] w fun e w'=>e= .returned (.int .i64 (k.gcd m:Nat))/\Below w.heap.size w w':=by
 go_enter Tryz.func243,Tryz.ntmps243;go_wp2;go_loopw [0,1] (fun x y wr=>∃p q:Nat,x= .int .i64 p/\y= .int .i64 q/\p<=4000000000000000000/\q<=4000000000000000000/\Hid (Nat.gcd p q=Nat.gcd k m)/\Below w.heap.size w wr) (fun _ y _=>(intOf y).toNat)
 case atStart=>exact⟨k,m,by go_num,rfl,by omega,by omega,rfl,apC _ _⟩
 case round=>
  obtain⟨p,q,rfl,rfl,hp2,hq2,G,hbel⟩:=hrel;by_cases hq:0<q
  ·have hm:=amI p hq;have hne:((q:Int) != 0)=true:=by rw[bne_iff_ne];omega
   have hne2:((q:Int)==0)=false:=beq_eq_false_iff_ne.2 (by omega);go_wp2;go_region
   all_goals go_wp2
   all_goals go_roundw
   case rel=>exact⟨q,p % q,rfl,by rw[emod_cast],by omega,by omega,(gcd_step p q).trans G.out,hbel.drew⟩
   case measure=>rw[emod_cast];simp only[intOf];omega
  have e:q=0:=by omega
  subst e;have G':=G.out;rw[Nat.gcd_zero_right]at G';clear G;have GH:=hid G';clear G';go_wp2;go_ret;exact⟨ret_i (by rw[GH.out]),hbel⟩
theorem afr(k m:Nat)(w:World)(hk:k<=4000000000000000000)(hm1:1<=m)(hm2:m<=4000000000000000000):
  Calls Tryz.prog 221 #[.int .i64 k,.int .i64 m] w fun e w'=>e= .returned (anE k m)/\Below w.heap.size w w':=by
 go_enter Tryz.func221,Tryz.ntmps221;have hg0:0<k.gcd m:=Nat.gcd_pos_of_pos_right _ hm1;have hg1:k.gcd m<=m:=Nat.gcd_le_right _ hm1;go_wp2_with (go_at_call 243;refine(al4 k m _ hk hm2).mono ?_;rintro e wr ⟨rfl,hbel⟩;rw[apG]at hbel)
 have c0:wr.cell? ⟨w.heap.size,0,none⟩=some (.int .i64 0):=(hbel.cell (p:=⟨w.heap.size,0,none⟩) (am2 _)).trans (by simp)
 have c1:wr.cell? ⟨w.heap.size,1,none⟩=some (.int .i64 0):=(hbel.cell (p:=⟨w.heap.size,1,none⟩) (am2 _)).trans (by simp)
 have f0:wr.frozen? ⟨w.heap.size,0,none⟩=false:=(hbel.frozen (p:=⟨w.heap.size,0,none⟩) (am2 _)).trans (by simp)
 have f1:wr.frozen? ⟨w.heap.size,1,none⟩=false:=(hbel.frozen (p:=⟨w.heap.size,1,none⟩) (am2 _)).trans (by simp)
 generalize hgg:k.gcd m=p at *;have GH:=hid hgg;clear hgg;have hne:((p:Int)==0)=false:=beq_eq_false_iff_ne.2 (by omega);have hd1:=IntWalk.tdiv_le k p (by omega) (by omega);have hd2:=IntWalk.tdiv_le m p (by omega) (by omega);go_region
 all_goals go_wp2
 refine bodyPost_ret (v:=.agg #[.int .i64 ((k:Int) / (p:Int)),.int .i64 ((m:Int) / (p:Int))]) (by simp[results,Tryz.results221,go_sem,c0,c1]) rfl ⟨?_,?_⟩
 ·have:=GH.out;subst this;exact acs k m
 exact((((apC _ w).alloc (aly _) _).trans (hbel.mono (ama _))).setCell (aly _) _).setCell (aly _) _ |>.drew
theorem afs(k m:Nat)(w:World)(hk1:1<=k)(hk:k<=4000000000000000000)(hm1:1<=m)(hm2:m<=4000000000000000000):
  Calls Tryz.prog 221 #[.int .i64 (-(k:Int)),.int .i64 m] w fun e w'=>e= .returned (anE (-(k:Int)) m)/\Below w.heap.size w w':=by
 go_enter Tryz.func221,Tryz.ntmps221;have hg0:0<k.gcd m:=Nat.gcd_pos_of_pos_right _ hm1;have hg1:k.gcd m<=m:=Nat.gcd_le_right _ hm1;go_wp2_with (go_at_call 243;refine(al5 k m _ hk1 hk hm2).mono ?_;rintro e wr ⟨rfl,hbel⟩;rw[apG]at hbel)
 have c0:wr.cell? ⟨w.heap.size,0,none⟩=some (.int .i64 0):=(hbel.cell (p:=⟨w.heap.size,0,none⟩) (am2 _)).trans (by simp)
 have c1:wr.cell? ⟨w.heap.size,1,none⟩=some (.int .i64 0):=(hbel.cell (p:=⟨w.heap.size,1,none⟩) (am2 _)).trans (by simp)
 have f0:wr.frozen? ⟨w.heap.size,0,none⟩=false:=(hbel.frozen (p:=⟨w.heap.size,0,none⟩) (am2 _)).trans (by simp)
 have f1:wr.frozen? ⟨w.heap.size,1,none⟩=false:=(hbel.frozen (p:=⟨w.heap.size,1,none⟩) (am2 _)).trans (by simp)
 generalize hgg:k.gcd m=p at *;have GH:=hid hgg;clear hgg;have hne:((p:Int)==0)=false:=beq_eq_false_iff_ne.2 (by omega);have hd1:=IntWalk.tdiv_le k p (by omega) (by omega);have hd2:=IntWalk.tdiv_le m p (by omega) (by omega);go_region
 all_goals go_wp2
 refine bodyPost_ret (v:=.agg #[.int .i64 (-((k:Int) / (p:Int))),.int .i64 ((m:Int) / (p:Int))]) (by simp[results,Tryz.results221,go_sem,c0,c1]) rfl ⟨?_,?_⟩
 ·have:=GH.out;subst this;exact act k m
 exact((((apC _ w).alloc (aly _) _).trans (hbel.mono (ama _))).setCell (aly _) _).setCell (aly _) _ |>.drew
theorem a3u(n d:Int)(w:World)(hn1: -4000000000000000000<=n)(hn2:n<=4000000000000000000)(hd1:1<=d)(hd2:d<=4000000000000000000):
  Calls Tryz.prog 221 #[.int .i64 n,.int .i64 d] w fun e w'=>e= .returned (anE n d)/\Below w.heap.size w w':=by
 obtain⟨m,rfl⟩:=alT (show 0<=d by omega);by_cases h:0<=n
 ·obtain⟨k,rfl⟩:=alT h;exact afr k m w (by omega) (by omega) (by omega)
 obtain⟨k,hk⟩:=alT (show 0<= -n by omega);obtain rfl:n= -(k:Int):=by omega
 exact afs k m w (by omega) (by omega) (by omega) (by omega)
def fidx{α:Type}(p:α->Bool):List α->Int
 |[]=> -1
 |x::l=>if p x then 0 else (if fidx p l<0 then-1 else fidx p l+1)
theorem fidx_any{α:Type}(p:α->Bool):∀l:List α,decide (0<=fidx p l)=l.any p
 |[]=>by simp[fidx]
 | x::l=>by
  have ih:=fidx_any p l;unfold fidx;rw[List.any_cons];cases hp:p x with
  |true=>simp
  |false=>
   simp only[Bool.false_eq_true,if_false,Bool.false_or];rw[<-ih];split<;>rename_i h<;>simp<;>omega
theorem fidx_none{α:Type}(p:α->Bool):∀l:List α,(∀x∈l,p x=false)->fidx p l= -1
 |[],_=>rfl
 |x::l,h=>by
  unfold fidx;rw[h x (by simp),fidx_none p l (fun y hy=>h y (by simp[hy]))];simp
theorem fidx_hit{α:Type}(p:α->Bool):∀(l:List α) (k:Nat) (d:α),k<l.length->(∀i,i<k->p (l.getD i d)=false)->p (l.getD k d)=true->fidx p l=k
 |[],k,d,h,_,_=>by simp at h
 |x::l,0,d,_,_,h=>by
  unfold fidx;rw[am7]at h;simp[h]
 |x::l,k+1,d,hk,hn,h=>by
  have h0:=hn 0 (by omega);rw[am7]at h0;have ih:=fidx_hit p l k d (by simpa using hk) (fun i hi=>by simpa using hn (i+1) (by omega)) (by simpa using h);unfold fidx;rw[h0,ih];simp only[Bool.false_eq_true,if_false];rw[if_neg (by omega)];omega
theorem fidx_pre{α:Type}(p:α->Bool)(l:List α)(d:α)(h:∀i,i<l.length->p (l.getD i d)=false):fidx p l= -1:=
 fidx_none p l fun x hx=>by
  obtain⟨i,hi,rfl⟩:=ami hx;have:=h i hi;rwa[abs,alz hi]at this
def a0R(n:Int):Bool:= !(betw 0 n 1000)
theorem a7M(n:Int)(w:World):
  Calls Tryz.prog 307 #[.int .i64 n] w fun e w'=>e= .returned (.bool (a0R n))/\w=w':=by
 unfold a0R;go_enter Tryz.func307,Tryz.ntmps307;go_wp2_with (go_at_call 299;refine(between_any _ _ _ _).mono ?_;rintro e w' ⟨rfl,rfl⟩)
 go_ret;exact⟨rfl,rfl⟩
theorem acu(v:Value)(l:List Int)(w:World)(hv:IntsAt w v l):
  Calls Tryz.prog 313 #[v,.func (.func 307) #[] #[]] w fun e w'=>e= .returned (.int .i64 (fidx a0R l))/\w=w':=by
 obtain⟨a,cap,rfl,hl,hq⟩:=hv;go_enter Tryz.func313,Tryz.ntmps313;go_wp2;go_loop [8] (fun i=>∃k:Nat,k<=l.length/\i= .int .i64 k/\∀j,j<k->a0R (l.getD j 0)=false) (fun i=>l.length-(intOf i).toNat)
 case atStart=>exact⟨0,alE _,rfl,fun j hj=>by omega⟩
 case round=>
  obtain⟨k,hk,rfl,hn⟩:=hrel;by_cases hlt:k<l.length
  ·obtain⟨b,off,rfl,hc⟩:=hq (by omega);have hcell:=hc k hlt;clear hc hq;have HN:=hid hn;clear hn;generalize hx:l.getD k 0=x at hcell;have X:=hid hx;clear hx;cases hp:a0R x with
   |true=>
    have P:=hid hp;clear hp;go_wp2_with (go_at_call 307;refine(a7M _ _).mono ?_;rintro e w' ⟨rfl,rfl⟩;rw[P.out])
    go_ret;exact⟨ret_i (fidx_hit a0R l k 0 hlt HN.out (by rw[X.out];exact P.out)).symm,rfl⟩
   | false=>
    have P:=hid hp;clear hp;go_wp2_with (go_at_call 307;refine(a7M _ _).mono ?_;rintro e w' ⟨rfl,rfl⟩;rw[P.out])
    go_round
    case rel=>exact⟨k+1,by omega,by go_num,fun j hj=>by
     rcases am0.1 hj with h|rfl
     ·exact HN.out j h
     rw[X.out];exact P.out⟩
    case measure=>simp[intOf];omega
  have e:k=l.length:=by omega
  subst e;go_wp2;go_ret;exact⟨ret_i (fidx_pre a0R l 0 hn).symm,rfl⟩
theorem abj(v:Value)(l:List Int)(w:World)(hv:IntsAt w v l):
  Calls Tryz.prog 306 #[v,.func (.func 307) #[] #[]] w fun e w'=>e= .returned (.bool (l.any a0R))/\w=w':=by
 have E:=hid (fidx_any a0R l);go_enter Tryz.func306,Tryz.ntmps306;go_wp2_with (go_at_call 313;refine(acu _ _ _ hv).mono ?_;rintro e w' ⟨rfl,rfl⟩)
 go_ret;exact⟨by rw[<-E.out];rfl,rfl⟩
def cvl(t:List Int):Bool:=betw 1 t.length 8&& !t.any a0R
structure Cvl(t:List Int):Prop where
 lo:1<=t.length
 hi:t.length<=8
 holds:∀n∈t,0<=n/\n<=1000
theorem aa1(t:List Int):cvl t=true↔Cvl t:=by
 unfold cvl;rw[Bool.and_eq_true,betw_iff];constructor
 ·rintro⟨h,k⟩;refine⟨by omega,by omega,fun n hn=>?_⟩;simp only[Bool.not_eq_true',amM]at k;have:=k n hn;simpa [a0R,betw]using this
 rintro⟨h1,h2,h3⟩;refine⟨by omega,?_⟩;simp only[Bool.not_eq_true',amM];intro n hn;have:=h3 n hn;simp[a0R,betw,this]
theorem valid_any(v:Value)(t:List Int)(w:World)(hv:IntsAt w v t):
  Calls Tryz.prog 298 #[v] w fun e w'=>e= .returned (.bool (cvl t))/\w=w':=by
 unfold cvl;obtain⟨a,cap,rfl,hr⟩:=id hv;have hv':IntsAt w (.slice a t.length cap) t:=hv;clear hv;cases hb:betw 1 t.length 8 with
 |true=>
  have B:=hid hb;clear hb;go_enter Tryz.func298,Tryz.ntmps298;go_wp2_with (first|(go_at_call 299;refine(between_any _ _ _ _).mono ?_;rintro e w' ⟨rfl,rfl⟩;rw[B.out])|(go_at_call 306;refine(abj _ _ _ hv').mono ?_;rintro e w' ⟨rfl,rfl⟩))
  go_ret;exact⟨rfl,rfl⟩
 |false=>
  have B:=hid hb;clear hb;go_enter Tryz.func298,Tryz.ntmps298;go_wp2_with (first|(go_at_call 299;refine(between_any _ _ _ _).mono ?_;rintro e w' ⟨rfl,rfl⟩;rw[B.out]))
  go_ret;exact⟨rfl,rfl⟩
theorem al6{t:List Int}{k:Nat}(hk:k<t.length)(h:a0R (t.getD k 0)=true):cvl t=false:=by
 unfold cvl;have:t.any a0R=true:=List.any_eq_true.2 ⟨_,by rw[abs,alz hk];simp,h⟩;rw[this];simp
theorem ajy{t:List Int}(h:∀j,j<t.length->a0R (t.getD j 0)=false):cvl t=betw 1 t.length 8:=by
 unfold cvl
 have:t.any a0R=false:=amM.2 fun x hx=>by
  obtain⟨i,hi,rfl⟩:=ami hx;have:=h i hi;rw[abs,alz hi]at this;simpa using this
 rw[this];simp
theorem ajz{t:List Int}(h:8<t.length):cvl t=betw 1 t.length 8:=by
 unfold cvl;have:betw 1 t.length 8=false:=by simp[betw];omega
 rw[this];rfl
theorem rValid_any(v:Value)(t:List Int)(w:World)(hv:IntsAt w v t):
  Calls Tryz.prog 242 #[v] w fun e w'=>e= .returned (.bool (cvl t))/\w=w':=by
 obtain⟨a,cap,rfl,hl,hq⟩:=hv;go_enter Tryz.func242,Tryz.ntmps242;go_wp2;go_loop [3] (fun i=>∃k:Nat,k<=t.length/\k<=9/\i= .int .i64 k/\∀j,j<k->a0R (t.getD j 0)=false) (fun i=>t.length-(intOf i).toNat)
 case atStart=>exact⟨0,alE _,by omega,rfl,fun j hj=>by omega⟩
 case round=>
  obtain⟨k,hk,hk9,rfl,hn⟩:=hrel;have HN:=hid hn;clear hn;by_cases hlt:k<t.length/\k<=8
  ·obtain⟨hlt,h4⟩:=hlt;obtain⟨b,off,rfl,hc⟩:=hq (by omega);have hcell:=hc k hlt;clear hc hq;generalize hx:t.getD k 0=x at hcell;have X:=hid hx;clear hx;cases hp:betw 0 x 1000 with
   | true=>
    have P:=hid hp;clear hp;go_wp2_with (go_at_call 217;refine(a1X _ _ _ _).mono ?_;rintro e w' ⟨rfl,rfl⟩;rw[P.out])
    go_round
    case rel=>exact⟨k+1,by omega,by omega,by go_num,fun j hj=>by
     rcases am0.1 hj with h|rfl
     ·exact HN.out j h
     rw[X.out];unfold a0R;rw[P.out];rfl⟩
    case measure=>simp[intOf];omega
   |false=>
    have P:=hid hp;clear hp;have E:=hid (al6 hlt (show a0R (t.getD k 0)=true by rw[X.out];unfold a0R;rw[P.out];rfl));go_wp2_with (go_at_call 217;refine(a1X _ _ _ _).mono ?_;rintro e w' ⟨rfl,rfl⟩;rw[P.out])
    go_ret;exact⟨ret_b E.out.symm,rfl⟩
  have E:Hid (cvl t=betw 1 t.length 8):=hid (by
   by_cases h4:8<t.length
   ·exact ajz h4
   exact ajy (fun j hj=>HN.out j (by omega)))
  by_cases hlt2:k<t.length
  ·have h5:¬k<=8:=fun h=>hlt ⟨hlt2,h⟩;clear hlt;go_wp2_with (go_at_call 217;refine(a1X _ _ _ _).mono ?_;rintro e w' ⟨rfl,rfl⟩)
   go_ret;exact⟨ret_b E.out.symm,rfl⟩
  have e:k=t.length:=by omega
  subst e;clear hlt;go_wp2_with (go_at_call 217;refine(a1X _ _ _ _).mono ?_;rintro e w' ⟨rfl,rfl⟩)
  go_ret;exact⟨ret_b E.out.symm,rfl⟩
theorem ints_cell{w:World}{v:Value}{l:List Int}(h:IntsAt w v l)(h0:0<l.length):
  ∃b off cap,v= .slice (some ⟨b,off,none⟩) l.length cap/\∀j,j<l.length->w.cell? ⟨b,off+j,none⟩=some (.int .i64 (l.getD j 0)):=by
 obtain⟨a,cap,rfl,_,hq⟩:=h;obtain⟨b,off,rfl,hc⟩:=hq h0;exact⟨b,off,cap,rfl,hc⟩
def tot(c:List Int):Int:=c.foldl (· + ·) 0
theorem a8d{c:List Int}{k:Nat}(hk:k<c.length):tot (c.take (k+1))=tot (c.take k)+c.getD k 0:=by
 rw[alC hk,tot,amN,abs,alz hk];rfl
theorem a16{t:List Int}{k:Nat}(hk:k<t.length):t.getD k 0∈t:=by
 rw[abs,alz hk];simp
theorem a5r{c:List Int}(h:Cvl c):∀k,k<=c.length->0<=tot (c.take k)/\tot (c.take k)<=1000 * k
 |0,_=>by simp[tot]
 |k+1,hk=>by
  have ih:=a5r h k (by omega);have:=h.holds _ (a16 (show k<c.length by omega));rw[a8d (by omega)];omega
theorem a4r(v:Value)(c:List Int)(w:World)(hv:IntsAt w v c)(ht:Cvl c):
  Calls Tryz.prog 294 #[v] w fun e w'=>e= .returned (.int .i64 (tot c))/\w=w':=by
 obtain⟨b,off,cap,rfl,hc⟩:=ints_cell hv (by have:=ht.lo;omega);have hhi:=ht.hi;clear hv;go_enter Tryz.func294,Tryz.ntmps294;go_wp2;go_loop [3,8] (fun s i=>∃k:Nat,k<=c.length/\i= .int .i64 k/\s= .int .i64 (tot (c.take k))) (fun _ i=>c.length-(intOf i).toNat)
 case atStart=>exact⟨0,alE _,rfl,rfl⟩
 case round=>
  obtain⟨k,hk,rfl,rfl⟩:=hrel;by_cases hlt:k<c.length
  ·have hcell:=hc k hlt;have E:=hid (a8d hlt);have b1:=a5r ht k hk;have b2:=ht.holds _ (a16 hlt);generalize c.getD k 0=x at *;generalize tot (c.take k)=s at *;clear hc;go_wp2;go_round
   case rel=>exact⟨k+1,by omega,by go_num,by rw[E.out]⟩
   case measure=>simp[intOf];omega
  have e:k=c.length:=by omega
  subst e;go_wp2;go_ret;exact⟨ret_i (by first|rfl|rw[alV]),rfl⟩
theorem a2K(v:Value)(c:List Int)(w:World)(hv:IntsAt w v c)(ht:Cvl c):
  Calls Tryz.prog 132 #[v] w fun e w'=>e= .returned (.int .i64 (tot c))/\w=w':=by
 obtain⟨b,off,cap,rfl,hc⟩:=ints_cell hv (by have:=ht.lo;omega);have hhi:=ht.hi;clear hv;go_enter Tryz.func132,Tryz.ntmps132;go_wp2;go_loop [3,4] (fun s i=>∃k:Nat,k<=c.length/\i= .int .i64 k/\s= .int .i64 (tot (c.take k))) (fun _ i=>c.length-(intOf i).toNat)
 case atStart=>exact⟨0,alE _,rfl,rfl⟩
 case round=>
  obtain⟨k,hk,rfl,rfl⟩:=hrel;by_cases hlt:k<c.length
  ·have hcell:=hc k hlt;have E:=hid (a8d hlt);have b1:=a5r ht k hk;have b2:=ht.holds _ (a16 hlt);generalize c.getD k 0=x at *;generalize tot (c.take k)=s at *;clear hc;go_wp2;go_round
   case rel=>exact⟨k+1,by omega,by go_num,by rw[E.out]⟩
   case measure=>simp[intOf];omega
  have e:k=c.length:=by omega
  subst e;go_wp2;go_ret;exact⟨ret_i (by first|rfl|rw[alV]),rfl⟩
def ao2(c:List Int)(n:Int):Int:=if cvl c then (if betw 0 n (tot c)then 0 else 2)else 80
theorem a2s(v:Value)(c:List Int)(n:Int)(w:World)(hv:IntsAt w v c):
  Calls Tryz.prog 295 #[v,.int .i64 n] w fun e w'=>e= .returned (.int .i64 (ao2 c n))/\w=w':=by
 unfold ao2;cases hy:cvl c with
 |false=>
  have Y:=hid hy;clear hy;go_enter Tryz.func295,Tryz.ntmps295;go_wp2_with fail
  refine(valid_any _ _ _ hv).mono ?_
  rintro e w' ⟨rfl,rfl⟩;rw[Y.out];go_wp2;go_ret;exact⟨rfl,rfl⟩
 | true=>
  have ht:=(aa1 c).1 hy
  have Y:=hid hy;clear hy;cases hb:betw 0 n (tot c)with
  |false=>
   have B:=hid hb;clear hb;go_enter Tryz.func295,Tryz.ntmps295;go_wp2_with fail
   refine(valid_any _ _ _ hv).mono ?_
   rintro e w' ⟨rfl,rfl⟩;rw[Y.out];go_wp2_with fail
   refine(a4r _ _ _ hv ht).mono ?_
   rintro e w' ⟨rfl,rfl⟩;go_wp2_with fail
   refine(between_any _ _ _ _).mono ?_
   rintro e w' ⟨rfl,rfl⟩;rw[B.out];go_wp2;go_ret;exact⟨rfl,rfl⟩
  |true=>
   have B:=hid hb;clear hb;go_enter Tryz.func295,Tryz.ntmps295;go_wp2_with fail
   refine(valid_any _ _ _ hv).mono ?_
   rintro e w' ⟨rfl,rfl⟩;rw[Y.out];go_wp2_with fail
   refine(a4r _ _ _ hv ht).mono ?_
   rintro e w' ⟨rfl,rfl⟩;go_wp2_with fail
   refine(between_any _ _ _ _).mono ?_
   rintro e w' ⟨rfl,rfl⟩;rw[B.out];go_wp2;go_ret;exact⟨rfl,rfl⟩
theorem rasked_any(v:Value)(c:List Int)(n:Int)(w:World)(hv:IntsAt w v c):
  Calls Tryz.prog 216 #[v,.int .i64 n] w fun e w'=>e= .returned (.int .i64 (ao2 c n))/\w=w':=by
 unfold ao2;cases hy:cvl c with
 |false=>
  have Y:=hid hy;clear hy;go_enter Tryz.func216,Tryz.ntmps216;go_wp2_with fail
  refine(rValid_any _ _ _ hv).mono ?_
  rintro e w' ⟨rfl,rfl⟩;rw[Y.out];go_wp2;go_ret;exact⟨rfl,rfl⟩
 | true=>
  have ht:=(aa1 c).1 hy
  have Y:=hid hy;clear hy;cases hb:betw 0 n (tot c)with
  |false=>
   have B:=hid hb;clear hb;go_enter Tryz.func216,Tryz.ntmps216;go_wp2_with fail
   refine(rValid_any _ _ _ hv).mono ?_
   rintro e w' ⟨rfl,rfl⟩;rw[Y.out];go_wp2_with fail
   refine(a2K _ _ _ hv ht).mono ?_
   rintro e w' ⟨rfl,rfl⟩;go_wp2_with fail
   refine(a1X _ _ _ _).mono ?_
   rintro e w' ⟨rfl,rfl⟩;rw[B.out];go_wp2;go_ret;exact⟨rfl,rfl⟩
  |true=>
   have B:=hid hb;clear hb;go_enter Tryz.func216,Tryz.ntmps216;go_wp2_with fail
   refine(rValid_any _ _ _ hv).mono ?_
   rintro e w' ⟨rfl,rfl⟩;rw[Y.out];go_wp2_with fail
   refine(a2K _ _ _ hv ht).mono ?_
   rintro e w' ⟨rfl,rfl⟩;go_wp2_with fail
   refine(a1X _ _ _ _).mono ?_
   rintro e w' ⟨rfl,rfl⟩;rw[B.out];go_wp2;go_ret;exact⟨rfl,rfl⟩
end Go.Proofs.YtdfkaijeppdhaaaGreatDoor.Fd
namespace Go.Proofs.YtdfkaijeppdhaaaGreatDoor.Fd
abbrev anm:=Int×Int
end Go.Proofs.YtdfkaijeppdhaaaGreatDoor.Fd
namespace Go.Proofs.YtdfkaijeppdhaaaGreatDoor.Fd
open Go.RowKit
def RatsAt(w:World)(v:Value)(l:List anm):Prop:=
 ∃ (a:Option Addr) (cap:Nat),v= .slice a l.length cap/\(l.length<=9223372036854775807/\l.length<=cap)/\
  (0<l.length->∃b off,a=some ⟨b,off,none⟩/\∀j,j<l.length->w.cell? ⟨b,off+j * 2,none⟩=some (.int .i64 (l.getD j (0,0)).1)/\
   w.cell? ⟨b,off+j * 2+1,none⟩=some (.int .i64 (l.getD j (0,0)).2))
theorem RatsAt.below{w w':World}{v:Value}{l:List anm}(h:RatsAt w v l)(hb:Below w.heap.size w w'):RatsAt w' v l:=by
 obtain⟨a,cap,rfl,hl,h⟩:=h;refine⟨a,cap,rfl,hl,fun h0=>?_⟩;obtain⟨b,off,ha,hc⟩:=h h0;exact⟨b,off,ha,fun j hj=>⟨keep_cell hb (hc j hj).1,keep_cell hb (hc j hj).2⟩⟩
theorem aaJ{w:World}{v:Value}{l:List anm}(h:RatsAt w v l)(h0:0<l.length):
  ∃b off cap,l.length<=cap/\v= .slice (some ⟨b,off,none⟩) l.length cap/\∀j,j<l.length->w.cell? ⟨b,off+j * 2,none⟩=some (.int .i64 (l.getD j (0,0)).1)/\w.cell? ⟨b,off+j * 2+1,none⟩=some (.int .i64 (l.getD j (0,0)).2):=by
 obtain⟨a,cap,rfl,hl,hq⟩:=h;obtain⟨b,off,rfl,hc⟩:=hq h0;exact⟨b,off,cap,hl.2,rfl,hc⟩
theorem a1Y{l:List anm}{k:Nat}(hk:k<l.length):l.getD k (0,0)∈l:=by
 rw[abs,alz hk];simp
end Go.Proofs.YtdfkaijeppdhaaaGreatDoor.Fd
namespace Go.Proofs.YtdfkaijeppdhaaaGreatDoor.Fd
def red(n d:Int):anm:=(rn n d,rd n d)
theorem ahU{n d:Int}(h:1<=d):0<(Int.gcd n d:Int):=by
 have:Int.gcd n d≠0:=fun h0=>by
  rw[Int.gcd_eq_zero_iff]at h0;omega
 omega
theorem a1y(n d:Int)(h:1<=d):∃g:Int,1<=g/\n=g * (red n d).1/\d=g * (red n d).2/\1<=(red n d).2/\Int.gcd (red n d).1 (red n d).2=1:=by
 have hg:=ahU (n:=n) h;have e1:(Int.gcd n d:Int) * rn n d=n:=Int.mul_ediv_cancel' (Int.gcd_dvd_left _ _);have e2:(Int.gcd n d:Int) * rd n d=d:=Int.mul_ediv_cancel' (Int.gcd_dvd_right _ _);refine⟨_,hg,e1.symm,e2.symm,?_,?_⟩
 ·refine Int.not_lt.1 fun hlt=>?_;have:(Int.gcd n d:Int) * rd n d<=0:=Int.mul_nonpos_of_nonneg_of_nonpos (by omega) (by show rd n d<=0;unfold red at hlt;simp only at hlt;omega);omega
 have:=Int.gcd_ediv_gcd_ediv_gcd (i:=n) (j:=d) (by omega);exact this
theorem aec(n d:Int)(h:1<=d):(red n d).1 * d=n * (red n d).2:=by
 obtain⟨g,_,h1,h2,_,_⟩:=a1y n d h;generalize (red n d).1=a at *
 generalize (red n d).2=b at *
 subst h1 h2;rw[alO,amB]
theorem ajA{a b q:Int}(hq:1<=q)(h:a * q=b * q):a=b:=Int.eq_of_mul_eq_mul_right (by omega) h
theorem aaK{a b c:Int}(h:a ∣ b * c)(hg:Int.gcd a b=1):a ∣ c:=by
 rw[<-Int.natAbs_dvd_natAbs]at h⊢;rw[Int.natAbs_mul]at h;exact Nat.Coprime.dvd_of_dvd_mul_left hg h
theorem aft{a b a' b':Int}(hb:1<=b)(hb':1<=b')(h1:Int.gcd a b=1)(h2:Int.gcd a' b'=1)(h:a * b'=a' * b):a=a'/\b=b':=by
 have d1:b ∣ b':=by
  exact aaK (b:=a) ⟨a',by rw[h,amG]⟩ (by rwa[Int.gcd_comm])
 have d2:b' ∣ b:=by
  exact aaK (b:=a') ⟨a,by rw[<-h,amG]⟩ (by rwa[Int.gcd_comm])
 have e:b=b':=Int.dvd_antisymm (by omega) (by omega) d1 d2;subst e;exact⟨ajA hb h,rfl⟩
theorem a9t{n d n' d':Int}(h:1<=d)(h':1<=d')(e:n * d'=n' * d):red n d=red n' d':=by
 obtain⟨g,hg,h1,h2,h3,h4⟩:=a1y n d h;obtain⟨g',hg',k1,k2,k3,k4⟩:=a1y n' d' h'
 have key:(red n d).1 * (red n' d').2=(red n' d').1 * (red n d).2:=by
  generalize (red n d).1=a at *
  generalize (red n d).2=b at *
  generalize (red n' d').1=a' at *
  generalize (red n' d').2=b' at *
  subst h1 h2 k1 k2
  have:(a * b') * (g * g')=(a' * b) * (g * g'):=by
   rw[show g * a * (g' * b')=(a * b') * (g * g') by
    rw[amG g a,amB,alO g g' b',<-amB g' g b',amG (g' * g) b',amG g' g,amB],
    show g' * a' * (g * b)=(a' * b) * (g * g') by
    rw[amG g' a',amB,alO g' g b,<-amB g g' b,amG (g * g') b,amB]]at e
   exact e
  exact Int.eq_of_mul_eq_mul_right (by have:=Int.mul_pos (show 0<g by omega) (show 0<g' by omega);omega) this
 obtain⟨a,b⟩:=aft h3 k3 h4 k4 key;exact Prod.ext a b
theorem aa2(x:Int):red x 1=(x,1):=by
 unfold red rn rd;rw[Int.gcd_one_right];simp
theorem aaL(x q:Int)(hq:1<=q):red (x * q) q=(x,1):=by
 rw[<-aa2 x];exact a9t hq (by omega) (by rw[Int.mul_one])
theorem apa{n d m k:Int}(h:1<=d):(red n d).1 * k<=m * (red n d).2↔n * k<=m * d:=by
 obtain⟨g,hg,h1,h2,h3,_⟩:=a1y n d h;generalize (red n d).1=a at *
 generalize (red n d).2=b at *
 subst h1 h2;rw[amB,alO m g b];constructor
 ·intro h;exact ams h (by omega)
 intro h;exact Int.le_of_mul_le_mul_left h (by omega)
def anw(f:Int->Int):List Int->Int
 |[]=>0
 |x::l=>f x+anw f l
theorem ajB(c:List Int):∀s,c.foldl (· + ·) s=s+anw id c:=by
 induction c with
 |nil=>intro s;simp[anw]
 |cons x l ih=>intro s;simp only[amY,anw,id];rw[ih];omega
theorem a4A(c:List Int):tot c=anw id c:=by
 unfold tot;rw[ajB];omega
theorem aaM{f:Int->Int}{a b:List Int}(h:a.Perm b):anw f a=anw f b:=by
 induction h with
 |nil=>rfl
 |cons x _ ih=>simp only[anw,ih]
 |swap x y l=>simp only[anw];omega
 |trans _ _ h1 h2=>exact h1.trans h2
theorem aed{f g:Int->Int}:∀{l:List Int},(∀x∈l,f x<=g x)->anw f l<=anw g l
 |[],_=>am4 _
 |x::l,h=>by
  have h1:=h x (by simp);have h2:=aed (l:=l) (fun y hy=>h y (by simp[hy]));simp only[anw];omega
theorem a9u{f g:Int->Int}:∀{l:List Int},(∀x∈l,f x<=g x)->anw f l=anw g l->∀x∈l,f x=g x
 |[],_,_=>fun x hx=>by simp at hx
 |x::l,h,e=>by
  have h1:=h x (by simp);have h2:=aed (l:=l) (fun y hy=>h y (by simp[hy]));simp only[anw]at e;have e1:f x=g x:=by omega
  have ih:=a9u (l:=l) (fun y hy=>h y (by simp[hy])) (by omega);intro y hy;rcases alI.1 hy with rfl|hy
  ·exact e1
  exact ih y hy
theorem a63{f g:Int->Int}:∀{l:List Int},(∀x∈l,f x=g x)->anw f l=anw g l
 |[],_=>rfl
 |x::l,h=>by
  simp only[anw];rw[h x (by simp),a63 (l:=l) (fun y hy=>h y (by simp[hy]))]
theorem a64(f:Int->Int)(q:Int):∀l:List Int,anw (fun x=>f x * q) l=anw f l * q
 |[]=>by simp[anw]
 |x::l=>by simp only[anw];rw[a64 f q l,an5]
theorem a4B(f g:Int->Int):∀l:List Int,anw (fun x=>f x-g x) l=anw f l-anw g l
 |[]=>by simp[anw]
 |x::l=>by simp only[anw];rw[a4B f g l];omega
theorem a9v(k:Int):∀l:List Int,anw (fun _=>k) l=k * l.length
 |[]=>by simp[anw]
 |x::l=>by
  simp only[anw];rw[a9v k l,alB];have:((l.length+1:Nat):Int)=l.length+1:=by omega
  rw[this,Int.mul_add];omega
def cap(p q x:Int):Int:=min (x * q) p
structure IsLev(c:List Int)(e p q:Int):Prop where
 hq:1<=q
 sum:anw (cap p q) c=e * q
theorem ahV{c:List Int}{e p q p' q':Int}(h:IsLev c e p q)(h':IsLev c e p' q')(hle:p * q'<=p' * q):∀x∈c,cap p q x * q'=cap p' q' x * q:=by
 have hq:=h.hq;have hq':=h'.hq;refine a9u (fun x _=>?_) ?_
 ·unfold cap
  have e1:min (x * q) p * q'=min (x * q * q') (p * q'):=by
   rcases Int.le_total (x * q) p with h|h
   ·rw[anb h,anb (alD h (by omega))]
   rw[an3 h,an3 (alD h (by omega))]
  have e2:min (x * q') p' * q=min (x * q * q') (p' * q):=by
   rw[an9];rcases Int.le_total (x * q') p' with h|h
   ·rw[anb h,anb (alD h (by omega))]
   rw[an3 h,an3 (alD h (by omega))]
  rw[e1,e2];omega
 rw[a64,a64,h.sum,h'.sum,an9]
theorem afu{c:List Int}{e p q p' q':Int}(h:IsLev c e p q)(h':IsLev c e p' q'):∀x∈c,cap p q x * q'=cap p' q' x * q:=by
 rcases Int.le_total (p * q') (p' * q)with hle|hle
 ·exact ahV h h' hle
 exact fun x hx=>(ahV h' h hle x hx).symm
def aoa(c:List Int)(p q:Int):List anm:=c.map fun x=>red (cap p q x) q
theorem al7{c:List Int}{e p q p' q':Int}(h:IsLev c e p q)(h':IsLev c e p' q'):aoa c p q=aoa c p' q':=by
 unfold aoa;refine amZ fun x hx=>a9t h.hq h'.hq (afu h h' x hx)
def a0h:List Int->Int->Int×Int
 |[],_=>(0,1)
 |x::l,e=>if e<=x * ((l.length:Int)+1)then (e,(l.length:Int)+1)else a0h l (e-x)
theorem a8e(l:List Int):∀e,1<=(a0h l e).2:=by
 induction l with
 |nil=>intro e;simp[a0h]
 |cons x l ih=>
  intro e;unfold a0h;split
  ·simp only;omega
  exact ih _
theorem ahW(l:List Int):∀(e x:Int),(∀y∈l,x<=y)->x * l.length<=e->l≠[]->e<=anw id l->x * (a0h l e).2<=(a0h l e).1:=by
 induction l with
 |nil=>intro e x _ _ h;exact absurd rfl h
 | cons y l ih=>
  intro e x hx he _ hs;rw[alB,show (((l.length+1:Nat)):Int)=(l.length:Int)+1 by omega]at he;unfold a0h;split
  ·exact he
  rename_i h
  have hxy:=hx y (by simp);have h1:x * l.length<=y * l.length:=alD hxy (by omega);rw[Int.mul_add]at h;simp only[anw,id]at hs
  have hne:l≠[]:=by
   rintro rfl;simp[anw]at h hs;omega
  exact ih (e-y) x (fun z hz=>hx z (by simp[hz])) (by omega) hne (by omega)
theorem afv(l:List Int):∀e,l.Pairwise (· <= ·)->l≠[]->e<=anw id l->IsLev l e (a0h l e).1 (a0h l e).2:=by
 induction l with
 |nil=>intro e _ h;exact absurd rfl h
 | cons x l ih=>
  intro e hp _ hs;rw[amr]at hp;refine⟨a8e _ _,?_⟩;unfold a0h;split
  ·rename_i h
   simp only
   have:anw (cap e ((l.length:Int)+1)) (x::l)=anw (fun _=>e) (x::l):=a63 fun y hy=>by
    have hxy:x<=y:=by
     rcases alI.1 hy with rfl|hy
     ·exact am4 _
     exact hp.1 y hy
    have h1:x * ((l.length:Int)+1)<=y * ((l.length:Int)+1):=alD hxy (by omega);unfold cap;omega
   rw[this,a9v,alB];congr 1
  rename_i h
  simp only[anw,id]at hs;rw[Int.mul_add]at h
  have hne:l≠[]:=by
   rintro rfl;simp[anw]at h hs;omega
  have hi:=ih (e-x) hp.2 hne (by omega);have hg:=ahW l (e-x) x hp.1 (by omega) hne (by omega);have hsum:=hi.sum;generalize (a0h l (e-x)).1=p at *
  generalize (a0h l (e-x)).2=q at *
  simp only[anw];rw[hsum,an6];unfold cap;omega
def eqW(c:List Int)(e:Int):List anm:=aoa c (a0h (c.mergeSort (fun a b=>decide (a<=b))) e).1 (a0h (c.mergeSort (fun a b=>decide (a<=b))) e).2
theorem a47(c:List Int):(c.mergeSort (fun a b=>decide (a<=b))).Perm c:=List.mergeSort_perm _ _
theorem adA(c:List Int):(c.mergeSort (fun a b=>decide (a<=b))).Pairwise (· <= ·):=by
 have:=List.pairwise_mergeSort (le:=fun a b:Int=>decide (a<=b)) (by intro a b c h1 h2;simp at *;omega) (by intro a b;simp;omega) c;exact this.imp (by simp)
theorem ajC{a b:List Int}(h:a.Perm b){e p q:Int}(k:IsLev a e p q):IsLev b e p q:=⟨k.hq,by rw[<-aaM h];exact k.sum⟩
theorem aa3{c:List Int}(e:Int)(h0:c≠[])(hs:e<=tot c):IsLev c e (a0h (c.mergeSort (fun a b=>decide (a<=b))) e).1 (a0h (c.mergeSort (fun a b=>decide (a<=b))) e).2:=by
 have hp:=a47 c;refine ajC hp (afv _ e (adA c) ?_ ?_)
 ·intro h;have:=hp.length_eq;rw[h]at this;exact h0 (List.eq_nil_of_length_eq_zero this.symm)
 rw[aaM hp,<-a4A];exact hs
theorem ahX{c:List Int}{e p q:Int}(h0:c≠[])(hs:e<=tot c)(h:IsLev c e p q):aoa c p q=eqW c e:=al7 h (aa3 e h0 hs)
theorem al8{p q x:Int}(hq:1<=q)(h:x * (red p q).2<(red p q).1):red (cap p q x) q=(x,1):=by
 obtain⟨g,hg,h1,h2,h3,_⟩:=a1y p q hq;generalize (red p q).1=a at *
 generalize (red p q).2=b at *
 subst h1 h2
 have:x * (g * b)<=g * a:=by
  rw[alO];exact ams (by omega) (by omega)
 unfold cap;rw[anb this];exact aaL x _ hq
theorem al9{p q x:Int}(hq:1<=q)(h:¬x * (red p q).2<(red p q).1):red (cap p q x) q=red p q:=by
 obtain⟨g,hg,h1,h2,h3,_⟩:=a1y p q hq
 have:p<=x * q:=by
  generalize (red p q).1=a at *
  generalize (red p q).2=b at *
  subst h1 h2;rw[alO];exact ams (by omega) (by omega)
 unfold cap;rw[an3 this]
theorem a7b(l:List Int):∀e,(∀x∈l,0<=x)->0<=e->0<=(a0h l e).1/\(a0h l e).1<=e/\(a0h l e).2<=l.length+1:=by
 induction l with
 |nil=>intro e _ h;simp[a0h];omega
 |cons x l ih=>
  intro e hx he;unfold a0h;split
  ·simp;omega
  rename_i h
  have h0:=hx x (by simp);have h1:x * 1<=x * ((l.length:Int)+1):=ams (by omega) h0;have:=ih (e-x) (fun y hy=>hx y (by simp[hy])) (by omega);rw[alB];omega
theorem a9w{n d B:Int}(h:1<=d)(h1: -B<=n)(h2:n<=B): -B<=(red n d).1/\(red n d).1<=B/\1<=(red n d).2/\(red n d).2<=d:=by
 obtain⟨g,hg,e1,e2,h3,_⟩:=a1y n d h;generalize (red n d).1=a at *
 generalize (red n d).2=b at *
 subst e1 e2;have hb:1 * b<=g * b:=alD hg (by omega);rcases Int.le_total 0 a with ha|ha
 ·have:1 * a<=g * a:=alD hg ha;omega
 have:1 * (-a)<=g * (-a):=alD hg (by omega);rw[Int.mul_neg g a]at this;omega
theorem a7u{n d:Int}(h:1<=d)(h1:0<=n):0<=(red n d).1/\(red n d).1<=n:=by
 obtain⟨g,hg,e1,e2,h3,_⟩:=a1y n d h;generalize (red n d).1=a at *
 rcases Int.le_total 0 a with ha|ha
 ·have:1 * a<=g * a:=alD hg ha;omega
 have:1 * (-a)<=g * (-a):=alD hg (by omega);rw[Int.mul_neg g a]at this;omega
def a0p(l:List anm):List anm:=l.map fun x=>red x.1 (2 * x.2)
def a14(c:List Int)(l:List anm):List anm:=List.zipWith (fun x y=>red (x * y.2-y.1) y.2) c l
def a1l(c:List Int)(e:Int):List anm:=c.map fun x=>red (x * e) (max 1 (tot c))
def shareL(c:List Int)(e r:Int):List anm:=
 if r=1 then a1l c e else if r=2 then eqW c e else if r=3 then a14 c (eqW c (tot c-e))
 else if 2 * e>tot c then a14 c (a0p (eqW c (2 * (tot c-e))))else a0p (eqW c (2 * e))
theorem aee{f:Int->anm}{g:Int->anm->anm}:∀c:List Int,List.zipWith g c (c.map f)=c.map fun x=>g x (f x)
 |[]=>rfl
 |x::l=>by simp only[alW,List.zipWith_cons_cons];rw[aee l]
theorem ajD{x n d:Int}(hd:1<=d):red (x * (red n d).2-(red n d).1) (red n d).2=red (x * d-n) d:=by
 obtain⟨g,hg,h1,h2,h3,_⟩:=a1y n d hd;have:=aec n d hd;refine a9t h3 hd ?_;rw[an6,an6,this,an9]
theorem ajE{n d:Int}(hd:1<=d):red (red n d).1 (2 * (red n d).2)=red n (2 * d):=by
 obtain⟨g,hg,h1,h2,h3,_⟩:=a1y n d hd;have:=aec n d hd;refine a9t (by omega) (by omega) ?_;rw[alO,this,alO n 2]
theorem a65(c:List Int)(f:Int->Int){q:Int}(hq:1<=q):a14 c (c.map fun x=>red (f x) q)=c.map fun x=>red (x * q-f x) q:=by
 unfold a14;rw[aee];exact amZ fun x _=>ajD hq
theorem a67(c:List Int)(f:Int->Int){q:Int}(hq:1<=q):a0p (c.map fun x=>red (f x) q)=c.map fun x=>red (f x) (2 * q):=by
 unfold a0p;rw[amH];exact amZ fun x _=>ajE hq
structure Shr(c:List Int)(e:Int)(l:List anm)(f:Int->Int)(Q:Int):Prop where
 hQ:1<=Q
 hQ2:Q<=8000
 aw:l=c.map fun x=>red (f x) Q
 sum:anw f c=e * Q
 lo:∀x∈c,0<=f x
 hi:∀x∈c,f x<=x * Q
 mono:∀x∈c,∀y∈c,x<=y->f x<=f y/\x * Q-f x<=y * Q-f y
theorem a2t(c:List Int)(q:Int):anw (fun x=>x * q) c=tot c * q:=by
 rw[a4A,<-a64];rfl
theorem a5s{c:List Int}{e:Int}(h0:c≠[])(hc:∀x∈c,0<=x)(hn:c.length<=8)(he:0<=e)(hs:e<=tot c):∃p q:Int,IsLev c e p q/\0<=p/\q<=9/\eqW c e=c.map fun x=>red (cap p q x) q:=by
 have h:=aa3 e h0 hs;have hp:=a47 c;have hb:=a7b (c.mergeSort (fun a b=>decide (a<=b))) e (fun x hx=>hc x (hp.mem_iff.1 hx)) he;have hl:=hp.length_eq;exact⟨_,_,h,hb.1,by omega,rfl⟩
theorem a0i{p q x y:Int}(hq:1<=q)(hp:0<=p)(hx:0<=x)(hxy:x<=y):0<=cap p q x/\cap p q x<=x * q/\cap p q x<=cap p q y/\x * q-cap p q x<=y * q-cap p q y:=by
 have h1:0<=x * q:=amw hx (by omega);have h2:x * q<=y * q:=alD hxy (by omega);unfold cap;omega
theorem ahY{c:List Int}{e r:Int}(h0:c≠[])(hc:∀x∈c,0<=x)(hn:c.length<=8)(ht:tot c<=8000)(he:0<=e)(hs:e<=tot c):∃f Q,Shr c e (shareL c e r) f Q:=by
 unfold shareL;split
 ·refine⟨fun x=>x * e,max 1 (tot c),by omega,by omega,rfl,?_,fun x hx=>amw (hc x hx) he,fun x hx=>?_,fun x hx y hy hxy=>?_⟩
  ·rw[a2t,amG e];by_cases h:1<=tot c
   ·rw[Int.max_eq_right h]
   have:e=0:=by omega
   rw[this];simp
  ·exact ams (by omega) (hc x hx)
  refine⟨alD hxy he,?_⟩;rw[<-Int.mul_sub,<-Int.mul_sub];exact alD hxy (by omega)
 split
 ·obtain⟨p,q,hl,hp,hq9,e1⟩:=a5s h0 hc hn he hs;have hq:=hl.hq;exact⟨cap p q,q,hq,by omega,e1,hl.sum,fun x hx=>(a0i hq hp (hc x hx) (am4 x)).1,fun x hx=>(a0i hq hp (hc x hx) (am4 x)).2.1,fun x hx y _ hxy=>(a0i hq hp (hc x hx) hxy).2.2⟩
 split
 ·obtain⟨p,q,hl,hp,hq9,e1⟩:=a5s (e:=tot c-e) h0 hc hn (by omega) (by omega);have hq:=hl.hq;refine⟨fun x=>x * q-cap p q x,q,hq,by omega,by rw[e1,a65 c _ hq],?_,fun x hx=>?_,fun x hx=>?_,fun x hx y _ hxy=>?_⟩
  ·rw[a4B,a2t,hl.sum,an6];omega
  ·have:=(a0i hq hp (hc x hx) (am4 x)).2.1;omega
  ·have:=(a0i hq hp (hc x hx) (am4 x)).1;omega
  have:=(a0i hq hp (hc x hx) hxy).2.2
  have h2:x * q<=y * q:=alD hxy (by omega);omega
 split
 ·obtain⟨p,q,hl,hp,hq9,e1⟩:=a5s (e:=2 * (tot c-e)) h0 hc hn (by omega) (by omega);have hq:=hl.hq;refine⟨fun x=>x * (2 * q)-cap p q x,2 * q,by omega,by omega,by rw[e1,a67 c _ hq,a65 c _ (by omega)],?_,fun x hx=>?_,fun x hx=>?_,fun x hx y _ hxy=>?_⟩
  ·rw[a4B,a2t,hl.sum,alO (tot c) 2 q,alO e 2 q,amB,an6];omega
  ·have:=(a0i hq hp (hc x hx) (am4 x)).2.1
   have h1:0<=x * q:=amw (hc x hx) (by omega);rw[alO];omega
  ·have:=(a0i hq hp (hc x hx) (am4 x)).1;omega
  have:=(a0i hq hp (hc x hx) hxy).2.2
  have h2:x * q<=y * q:=alD hxy (by omega);rw[alO x,alO y];omega
 obtain⟨p,q,hl,hp,hq9,e1⟩:=a5s (e:=2 * e) h0 hc hn (by omega) (by omega);have hq:=hl.hq;refine⟨cap p q,2 * q,by omega,by omega,by rw[e1,a67 c _ hq],?_,fun x hx=>(a0i hq hp (hc x hx) (am4 x)).1,fun x hx=>?_,fun x hx y _ hxy=>?_⟩
 ·rw[hl.sum,alO e 2 q,amB]
 ·have:=(a0i hq hp (hc x hx) (am4 x)).2.1
  have h1:0<=x * q:=amw (hc x hx) (by omega);rw[alO];omega
 have:=(a0i hq hp (hc x hx) hxy).2.2
 have h2:x * q<=y * q:=alD hxy (by omega);rw[alO x,alO y];omega
end Go.Proofs.YtdfkaijeppdhaaaGreatDoor.Fd
