/- Part of the proof. -/
import Derived.Test.YtdfkaijeppdhaaaGreatDoorZHs27
import Derived.StillTailTactics

set_option maxRecDepth 100000
set_option maxHeartbeats 8000000

namespace Go.Proofs.YtdfkaijeppdhaaaGreatDoor.Fd
open Lib (hid)
open Proofs.Tryz Go.RowKit
theorem ret_b{a b:Bool}(h:a=b):Ending.returned (.bool a)= .returned (.bool b):=by rw[h]
theorem ret_i{a b:Int}(h:a=b):Ending.returned (.int .i64 a)= .returned (.int .i64 b):=by rw[h]
def betw(a b c:Int):Bool:=decide (a<=b)&&decide (b<=c)
theorem betw_iff(a b c:Int):betw a b c=true↔a<=b/\b<=c:=by simp[betw]
theorem between_any(a b c:Int)(w:World):
  Calls prog 299 #[.int .i64 a,.int .i64 b,.int .i64 c] w fun e w'=>e= .returned (.bool (betw a b c))/\w=w':=by
 unfold betw;by_cases h1:a<=b
 ·by_cases h2:b<=c
  ·go_enter func299,ntmps299;go_wp2;go_ret;exact⟨by simp[h1,h2],rfl⟩
  go_enter func299,ntmps299;go_wp2;go_ret;exact⟨by simp[h2],rfl⟩
 go_enter func299,ntmps299;go_wp2;go_ret;exact⟨by rw[decide_eq_false (show¬a<=b by omega)];rfl,rfl⟩
theorem a2C(a b c:Int)(w:World):
  Calls prog 217 #[.int .i64 a,.int .i64 b,.int .i64 c] w fun e w'=>e= .returned (.bool (betw a b c))/\w=w':=by
 unfold betw;by_cases h1:a<=b
 ·by_cases h2:b<=c
  ·go_enter func217,ntmps217;go_wp2;go_ret;exact⟨by simp[h1,h2],rfl⟩
  go_enter func217,ntmps217;go_wp2;go_ret;exact⟨by simp[h2],rfl⟩
 go_enter func217,ntmps217;go_wp2;go_ret;exact⟨by rw[decide_eq_false (show¬a<=b by omega)];rfl,rfl⟩
def rn(n d:Int):Int:=n / (Int.gcd n d:Nat)
def rd(n d:Int):Int:=d / (Int.gcd n d:Nat)
def a1c(n d:Int):Value:=.agg #[.int .i64 (rn n d),.int .i64 (rd n d)]
theorem gcd_step(x y:Nat):Nat.gcd y (x % y)=Nat.gcd x y:=by
 rw[Nat.gcd_comm x y,Nat.gcd_rec y x,Nat.gcd_comm]
theorem emod_cast(p q:Nat):((p:Int) % (q:Int))=((p % q:Nat):Int):=(apt p q).symm
theorem aee(k m:Nat):Ending.returned (.agg #[.int .i64 ((k:Int) / ((k.gcd m:Nat):Int)),.int .i64 ((m:Int) / ((k.gcd m:Nat):Int))])= .returned (a1c k m):=rfl
theorem aef(k m:Nat):Ending.returned (.agg #[.int .i64 (-((k:Int) / ((k.gcd m:Nat):Int))),.int .i64 ((m:Int) / ((k.gcd m:Nat):Int))])= .returned (a1c (-(k:Int)) m):=by
 have h:(k.gcd m:Int) ∣ (k:Int):=Int.ofNat_dvd.2 (Nat.gcd_dvd_left k m);have e:Int.gcd (-(k:Int)) m=k.gcd m:=by rw[Int.neg_gcd];rfl
 unfold a1c rn rd;rw[e,Int.neg_ediv_of_dvd h]
theorem ajK(k m:Nat)(w:World)(hk:k<=4000000000000000000)(hm1:1<=m)(hm2:m<=4000000000000000000):
  Calls prog 308 #[.int .i64 k,.int .i64 m] w fun e w'=>e= .returned (a1c k m)/\Below w.heap.size w w':=by
 go_enter func308,ntmps308;go_wp2;go_loopw [5,6] (fun x y wr=>∃p q:Nat,x= .int .i64 p/\y= .int .i64 q/\1<=p+q/\p<=4000000000000000000/\q<=4000000000000000000/\Hid (Nat.gcd p q=Nat.gcd k m)/\Below (w.heap.size+1) (w.alloc (.cells #[.int .i64 0,.int .i64 0] 199)) wr) (fun _ y _=>(intOf y).toNat)
 case atStart=>exact⟨k,m,by go_num,rfl,om,om,om,rfl,aoi _ _⟩
 case round=>
  obtain⟨p,q,rfl,rfl,hpq,hp2,hq2,G,hbel⟩:=hrel;by_cases hq:0<q
  ·have hm:=Nat.mod_lt p hq;have hne:((q:Int) != 0)=true:=by rw[bne_iff_ne];omega
   have hne2:((q:Int)==0)=false:=beq_eq_false_iff_ne.2 om;go_wp2;go_region
   all_goals go_wp2
   all_goals go_roundw
   case rel=>exact⟨q,p % q,rfl,by rw[emod_cast],om,om,om,(gcd_step p q).trans G.out,hbel.drew⟩
   case measure=>rw[emod_cast];simp only[intOf];omega
  have e:q=0:=om;subst e;have G':=G.out;rw[Nat.gcd_zero_right]at G';clear G;have GH:=hid G';clear G';have c0:wr.cell? ⟨w.heap.size,0,none⟩=some (.int .i64 0):=(hbel.cell (p:=⟨w.heap.size,0,none⟩) (aoQ _)).trans oz
  have c1:wr.cell? ⟨w.heap.size,1,none⟩=some (.int .i64 0):=(hbel.cell (p:=⟨w.heap.size,1,none⟩) (aoQ _)).trans oz
  have f0:wr.frozen? ⟨w.heap.size,0,none⟩=false:=(hbel.frozen (p:=⟨w.heap.size,0,none⟩) (aoQ _)).trans oz
  have f1:wr.frozen? ⟨w.heap.size,1,none⟩=false:=(hbel.frozen (p:=⟨w.heap.size,1,none⟩) (aoQ _)).trans oz
  have hne:((p:Int)==0)=false:=beq_eq_false_iff_ne.2 om;have hd1:=IntWalk.tdiv_le k p om om;have hd2:=IntWalk.tdiv_le m p om om;go_wp2;go_region
  all_goals go_wp2
  refine bodyPost_ret (v:=.agg #[.int .i64 ((k:Int) / (p:Int)),.int .i64 ((m:Int) / (p:Int))]) (by simp[results,results308,go_sem,c0,c1]) rfl ⟨?_,?_⟩
  ·have:=GH.out;subst this;exact aee k m
  exact((((aoi _ w).alloc (aof _) _).trans (hbel.mono (aoS _))).setCell (aof _) _).setCell (aof _) _ |>.drew
theorem ajL(k m:Nat)(w:World)(hk1:1<=k)(hk:k<=4000000000000000000)(hm1:1<=m)(hm2:m<=4000000000000000000):
  Calls prog 308 #[.int .i64 (-(k:Int)),.int .i64 m] w fun e w'=>e= .returned (a1c (-(k:Int)) m)/\Below w.heap.size w w':=by
 go_enter func308,ntmps308;go_wp2;go_loopw [5,6] (fun x y wr=>∃p q:Nat,x= .int .i64 p/\y= .int .i64 q/\1<=p+q/\p<=4000000000000000000/\q<=4000000000000000000/\Hid (Nat.gcd p q=Nat.gcd k m)/\Below (w.heap.size+1) (w.alloc (.cells #[.int .i64 0,.int .i64 0] 199)) wr) (fun _ y _=>(intOf y).toNat)
 case atStart=>exact⟨k,m,by go_num,rfl,om,om,om,rfl,aoi _ _⟩
 case round=>
  obtain⟨p,q,rfl,rfl,hpq,hp2,hq2,G,hbel⟩:=hrel;by_cases hq:0<q
  ·have hm:=Nat.mod_lt p hq;have hne:((q:Int) != 0)=true:=by rw[bne_iff_ne];omega
   have hne2:((q:Int)==0)=false:=beq_eq_false_iff_ne.2 om;go_wp2;go_region
   all_goals go_wp2
   all_goals go_roundw
   case rel=>exact⟨q,p % q,rfl,by rw[emod_cast],om,om,om,(gcd_step p q).trans G.out,hbel.drew⟩
   case measure=>rw[emod_cast];simp only[intOf];omega
  have e:q=0:=om;subst e;have G':=G.out;rw[Nat.gcd_zero_right]at G';clear G;have GH:=hid G';clear G';have c0:wr.cell? ⟨w.heap.size,0,none⟩=some (.int .i64 0):=(hbel.cell (p:=⟨w.heap.size,0,none⟩) (aoQ _)).trans oz
  have c1:wr.cell? ⟨w.heap.size,1,none⟩=some (.int .i64 0):=(hbel.cell (p:=⟨w.heap.size,1,none⟩) (aoQ _)).trans oz
  have f0:wr.frozen? ⟨w.heap.size,0,none⟩=false:=(hbel.frozen (p:=⟨w.heap.size,0,none⟩) (aoQ _)).trans oz
  have f1:wr.frozen? ⟨w.heap.size,1,none⟩=false:=(hbel.frozen (p:=⟨w.heap.size,1,none⟩) (aoQ _)).trans oz
  have hne:((p:Int)==0)=false:=beq_eq_false_iff_ne.2 om;have hd1:=IntWalk.tdiv_le k p om om;have hd2:=IntWalk.tdiv_le m p om om;go_wp2;go_region
  all_goals go_wp2
  refine bodyPost_ret (v:=.agg #[.int .i64 (-((k:Int) / (p:Int))),.int .i64 ((m:Int) / (p:Int))]) (by simp[results,results308,go_sem,c0,c1]) rfl ⟨?_,?_⟩
  ·have:=GH.out;subst this;exact aef k m
  exact((((aoi _ w).alloc (aof _) _).trans (hbel.mono (aoS _))).setCell (aof _) _).setCell (aof _) _ |>.drew
theorem a5c(n d:Int)(w:World)(hn1: -4000000000000000000<=n)(hn2:n<=4000000000000000000)(hd1:1<=d)(hd2:d<=4000000000000000000):
  Calls prog 308 #[.int .i64 n,.int .i64 d] w fun e w'=>e= .returned (a1c n d)/\Below w.heap.size w w':=by
 obtain⟨m,rfl⟩:=aoH (show 0<=d by omega);by_cases h:0<=n
 ·obtain⟨k,rfl⟩:=aoH h;exact ajK k m w om om om
 obtain⟨k,hk⟩:=aoH (show 0<= -n by omega);obtain rfl:n= -(k:Int):=om;exact ajL k m w om om om om
theorem an2(k m:Nat)(w:World)(hk:k<=4000000000000000000)(hm2:m<=4000000000000000000):
  Calls prog 243 #[.int .i64 k,.int .i64 m] w fun e w'=>e= .returned (.int .i64 (k.gcd m:Nat))/\Below w.heap.size w w':=by
 go_enter func243,ntmps243;go_wp2;go_loopw [0,1] (fun x y wr=>∃p q:Nat,x= .int .i64 p/\y= .int .i64 q/\p<=4000000000000000000/\q<=4000000000000000000/\Hid (Nat.gcd p q=Nat.gcd k m)/\Below w.heap.size w wr) (fun _ y _=>(intOf y).toNat)
 case atStart=>exact⟨k,m,by go_num,rfl,om,om,rfl,aoi _ _⟩
 case round=>
  obtain⟨p,q,rfl,rfl,hp2,hq2,G,hbel⟩:=hrel;by_cases hq:0<q
  ·have hm:=Nat.mod_lt p hq;have hne:((q:Int) != 0)=true:=by rw[bne_iff_ne];omega
   have hne2:((q:Int)==0)=false:=beq_eq_false_iff_ne.2 om;go_wp2;go_region
   all_goals go_wp2
   all_goals go_roundw
   case rel=>exact⟨q,p % q,rfl,by rw[emod_cast],om,om,(gcd_step p q).trans G.out,hbel.drew⟩
   case measure=>rw[emod_cast];simp only[intOf];omega
  have e:q=0:=om;subst e;have G':=G.out;rw[Nat.gcd_zero_right]at G';clear G;have GH:=hid G';clear G';go_wp2;go_ret;exact⟨ret_i (by rw[GH.out]),hbel⟩
theorem an3(k m:Nat)(w:World)(hk1:1<=k)(hk:k<=4000000000000000000)(hm2:m<=4000000000000000000):
  Calls prog 243 #[.int .i64 (-(k:Int)),.int .i64 m] w fun e w'=>e= .returned (.int .i64 (k.gcd m:Nat))/\Below w.heap.size w w':=by
 go_enter func243,ntmps243;go_wp2;go_loopw [0,1] (fun x y wr=>∃p q:Nat,x= .int .i64 p/\y= .int .i64 q/\p<=4000000000000000000/\q<=4000000000000000000/\Hid (Nat.gcd p q=Nat.gcd k m)/\Below w.heap.size w wr) (fun _ y _=>(intOf y).toNat)
 case atStart=>exact⟨k,m,by go_num,rfl,om,om,rfl,aoi _ _⟩
 case round=>
  obtain⟨p,q,rfl,rfl,hp2,hq2,G,hbel⟩:=hrel;by_cases hq:0<q
  ·have hm:=Nat.mod_lt p hq;have hne:((q:Int) != 0)=true:=by rw[bne_iff_ne];omega
   have hne2:((q:Int)==0)=false:=beq_eq_false_iff_ne.2 om;go_wp2;go_region
   all_goals go_wp2
   all_goals go_roundw
   case rel=>exact⟨q,p % q,rfl,by rw[emod_cast],om,om,(gcd_step p q).trans G.out,hbel.drew⟩
   case measure=>rw[emod_cast];simp only[intOf];omega
  have e:q=0:=om;subst e;have G':=G.out;rw[Nat.gcd_zero_right]at G';clear G;have GH:=hid G';clear G';go_wp2;go_ret;exact⟨ret_i (by rw[GH.out]),hbel⟩
theorem ahm(k m:Nat)(w:World)(hk:k<=4000000000000000000)(hm1:1<=m)(hm2:m<=4000000000000000000):
  Calls prog 221 #[.int .i64 k,.int .i64 m] w fun e w'=>e= .returned (a1c k m)/\Below w.heap.size w w':=by
 go_enter func221,ntmps221;have hg0:0<k.gcd m:=Nat.gcd_pos_of_pos_right _ hm1;have hg1:k.gcd m<=m:=Nat.gcd_le_right _ hm1;go_wp2_with (go_at_call 243;refine(an2 k m _ hk hm2).mono ?_;rintro e wr ⟨rfl,hbel⟩;rw[aoq]at hbel)
 have c0:wr.cell? ⟨w.heap.size,0,none⟩=some (.int .i64 0):=(hbel.cell (p:=⟨w.heap.size,0,none⟩) (aoQ _)).trans oz
 have c1:wr.cell? ⟨w.heap.size,1,none⟩=some (.int .i64 0):=(hbel.cell (p:=⟨w.heap.size,1,none⟩) (aoQ _)).trans oz
 have f0:wr.frozen? ⟨w.heap.size,0,none⟩=false:=(hbel.frozen (p:=⟨w.heap.size,0,none⟩) (aoQ _)).trans oz
 have f1:wr.frozen? ⟨w.heap.size,1,none⟩=false:=(hbel.frozen (p:=⟨w.heap.size,1,none⟩) (aoQ _)).trans oz
 generalize hgg:k.gcd m=p at *;have GH:=hid hgg;clear hgg;have hne:((p:Int)==0)=false:=beq_eq_false_iff_ne.2 om;have hd1:=IntWalk.tdiv_le k p om om;have hd2:=IntWalk.tdiv_le m p om om;go_region
 all_goals go_wp2
 refine bodyPost_ret (v:=.agg #[.int .i64 ((k:Int) / (p:Int)),.int .i64 ((m:Int) / (p:Int))]) (by simp[results,results221,go_sem,c0,c1]) rfl ⟨?_,?_⟩
 ·have:=GH.out;subst this;exact aee k m
 exact((((aoi _ w).alloc (aof _) _).trans (hbel.mono (aoS _))).setCell (aof _) _).setCell (aof _) _ |>.drew
theorem ahn(k m:Nat)(w:World)(hk1:1<=k)(hk:k<=4000000000000000000)(hm1:1<=m)(hm2:m<=4000000000000000000):
  Calls prog 221 #[.int .i64 (-(k:Int)),.int .i64 m] w fun e w'=>e= .returned (a1c (-(k:Int)) m)/\Below w.heap.size w w':=by
 go_enter func221,ntmps221;have hg0:0<k.gcd m:=Nat.gcd_pos_of_pos_right _ hm1;have hg1:k.gcd m<=m:=Nat.gcd_le_right _ hm1;go_wp2_with (go_at_call 243;refine(an3 k m _ hk1 hk hm2).mono ?_;rintro e wr ⟨rfl,hbel⟩;rw[aoq]at hbel)
 have c0:wr.cell? ⟨w.heap.size,0,none⟩=some (.int .i64 0):=(hbel.cell (p:=⟨w.heap.size,0,none⟩) (aoQ _)).trans oz
 have c1:wr.cell? ⟨w.heap.size,1,none⟩=some (.int .i64 0):=(hbel.cell (p:=⟨w.heap.size,1,none⟩) (aoQ _)).trans oz
 have f0:wr.frozen? ⟨w.heap.size,0,none⟩=false:=(hbel.frozen (p:=⟨w.heap.size,0,none⟩) (aoQ _)).trans oz
 have f1:wr.frozen? ⟨w.heap.size,1,none⟩=false:=(hbel.frozen (p:=⟨w.heap.size,1,none⟩) (aoQ _)).trans oz
 generalize hgg:k.gcd m=p at *;have GH:=hid hgg;clear hgg;have hne:((p:Int)==0)=false:=beq_eq_false_iff_ne.2 om;have hd1:=IntWalk.tdiv_le k p om om;have hd2:=IntWalk.tdiv_le m p om om;go_region
 all_goals go_wp2
 refine bodyPost_ret (v:=.agg #[.int .i64 (-((k:Int) / (p:Int))),.int .i64 ((m:Int) / (p:Int))]) (by simp[results,results221,go_sem,c0,c1]) rfl ⟨?_,?_⟩
 ·have:=GH.out;subst this;exact aef k m
 exact((((aoi _ w).alloc (aof _) _).trans (hbel.mono (aoS _))).setCell (aof _) _).setCell (aof _) _ |>.drew
theorem a4s(n d:Int)(w:World)(hn1: -4000000000000000000<=n)(hn2:n<=4000000000000000000)(hd1:1<=d)(hd2:d<=4000000000000000000):
  Calls prog 221 #[.int .i64 n,.int .i64 d] w fun e w'=>e= .returned (a1c n d)/\Below w.heap.size w w':=by
 obtain⟨m,rfl⟩:=aoH (show 0<=d by omega);by_cases h:0<=n
 ·obtain⟨k,rfl⟩:=aoH h;exact ahm k m w om om om
 obtain⟨k,hk⟩:=aoH (show 0<= -n by omega);obtain rfl:n= -(k:Int):=om;exact ahn k m w om om om om
def fidx{α:Type}(p:α->Bool):List α->Int
 |[]=> -1
 |x::l=>if p x then 0 else (if fidx p l<0 then-1 else fidx p l+1)
theorem fidx_any{α:Type}(p:α->Bool):∀l:List α,decide (0<=fidx p l)=l.any p
 |[]=>by simp[fidx]
 | x::l=>by
  have ih:=fidx_any p l;unfold fidx;rw[List.any_cons];cases hp:p x with
  |true=>simp
  |false=>
   simp only[Bool.false_eq_true,if_false,Bool.false_or];rw[<-ih];split<;>rename_i h<;>simp<;>omega
theorem fidx_none{α:Type}(p:α->Bool):∀l:List α,(∀x∈l,p x=false)->fidx p l= -1
 |[],_=>rfl
 |x::l,h=>by
  unfold fidx;rw[h x oz,fidx_none p l (fun y hy=>h y (by simp[hy]))];simp
theorem fidx_hit{α:Type}(p:α->Bool):∀(l:List α) (k:Nat) (d:α),k<l.length->(∀i,i<k->p (l.getD i d)=false)->p (l.getD k d)=true->fidx p l=k
 |[],k,d,h,_,_=>by simp at h
 |x::l,0,d,_,_,h=>by
  unfold fidx;rw[aoV]at h;simp[h]
 |x::l,k+1,d,hk,hn,h=>by
  have h0:=hn 0 om;rw[aoV]at h0;have ih:=fidx_hit p l k d (by simpa using hk) (fun i hi=>by simpa using hn (i+1) om) (by simpa using h);unfold fidx;rw[h0,ih];simp only[Bool.false_eq_true,if_false];rw[if_neg om];omega
theorem fidx_pre{α:Type}(p:α->Bool)(l:List α)(d:α)(h:∀i,i<l.length->p (l.getD i d)=false):fidx p l= -1:=
 fidx_none p l fun x hx=>by
  obtain⟨i,hi,rfl⟩:=apc hx;have:=h i hi;rwa[aoh,aoj hi]at this
def a16(n:Int):Bool:= !(betw 0 n 1000)
theorem a9f(n:Int)(w:World):
  Calls prog 307 #[.int .i64 n] w fun e w'=>e= .returned (.bool (a16 n))/\w=w':=by
 unfold a16;go_enter func307,ntmps307;go_wp2_with (go_at_call 299;refine(between_any _ _ _ _).mono ?_;rintro e w' ⟨rfl,rfl⟩)
 go_ret;exact⟨rfl,rfl⟩
theorem aeg(v:Value)(l:List Int)(w:World)(hv:IntsAt w v l):
  Calls prog 313 #[v,.func (.func 307) #[] #[]] w fun e w'=>e= .returned (.int .i64 (fidx a16 l))/\w=w':=by
 obtain⟨a,cap,rfl,hl,hq⟩:=hv;go_enter func313,ntmps313;go_wp2;go_loop [8] (fun i=>∃k:Nat,k<=l.length/\i= .int .i64 k/\∀j,j<k->a16 (l.getD j 0)=false) (fun i=>l.length-(intOf i).toNat)
 case atStart=>exact⟨0,aot _,rfl,fun j hj=>om⟩
 case round=>
  obtain⟨k,hk,rfl,hn⟩:=hrel;by_cases hlt:k<l.length
  ·obtain⟨b,off,rfl,hc⟩:=hq om;have hcell:=hc k hlt;clear hc hq;have HN:=hid hn;clear hn;generalize hx:l.getD k 0=x at hcell;have X:=hid hx;clear hx;cases hp:a16 x with
   |true=>
    have P:=hid hp;clear hp;go_wp2_with (go_at_call 307;refine(a9f _ _).mono ?_;rintro e w' ⟨rfl,rfl⟩;rw[P.out])
    go_ret;exact⟨ret_i (fidx_hit a16 l k 0 hlt HN.out (by rw[X.out];exact P.out)).symm,rfl⟩
   | false=>
    have P:=hid hp;clear hp;go_wp2_with (go_at_call 307;refine(a9f _ _).mono ?_;rintro e w' ⟨rfl,rfl⟩;rw[P.out])
    go_round
    case rel=>exact⟨k+1,om,by go_num,fun j hj=>by
     rcases aoO.1 hj with h|rfl
     ·exact HN.out j h
     rw[X.out];exact P.out⟩
    case measure=>simp[intOf];omega
  have e:k=l.length:=om;subst e;go_wp2;go_ret;exact⟨ret_i (fidx_pre a16 l 0 hn).symm,rfl⟩
theorem ad7(v:Value)(l:List Int)(w:World)(hv:IntsAt w v l):
  Calls prog 306 #[v,.func (.func 307) #[] #[]] w fun e w'=>e= .returned (.bool (l.any a16))/\w=w':=by
 have E:=hid (fidx_any a16 l);go_enter func306,ntmps306;go_wp2_with (go_at_call 313;refine(aeg _ _ _ hv).mono ?_;rintro e w' ⟨rfl,rfl⟩)
 go_ret;exact⟨by rw[<-E.out];rfl,rfl⟩
def cvl(t:List Int):Bool:=betw 1 t.length 8&& !t.any a16
structure Cvl(t:List Int):Prop where
 lo:1<=t.length
 hi:t.length<=8
 holds:∀n∈t,0<=n/\n<=1000
theorem abL(t:List Int):cvl t=true↔Cvl t:=by
 unfold cvl;rw[Bool.and_eq_true,betw_iff];constructor
 ·rintro⟨h,k⟩;refine⟨om,om,fun n hn=>?_⟩;simp only[Bool.not_eq_true',aq3]at k;have:=k n hn;simpa [a16,betw]using this
 rintro⟨h1,h2,h3⟩;refine⟨om,?_⟩;simp only[Bool.not_eq_true',aq3];intro n hn;have:=h3 n hn;simp[a16,betw,this]
theorem valid_any(v:Value)(t:List Int)(w:World)(hv:IntsAt w v t):
  Calls prog 298 #[v] w fun e w'=>e= .returned (.bool (cvl t))/\w=w':=by
 unfold cvl;obtain⟨a,cap,rfl,hr⟩:=id hv;have hv':IntsAt w (.slice a t.length cap) t:=hv;clear hv;cases hb:betw 1 t.length 8 with
 |true=>
  have B:=hid hb;clear hb;go_enter func298,ntmps298;go_wp2_with (first|(go_at_call 299;refine(between_any _ _ _ _).mono ?_;rintro e w' ⟨rfl,rfl⟩;rw[B.out])|(go_at_call 306;refine(ad7 _ _ _ hv').mono ?_;rintro e w' ⟨rfl,rfl⟩))
  go_ret;exact⟨rfl,rfl⟩
 |false=>
  have B:=hid hb;clear hb;go_enter func298,ntmps298;go_wp2_with (first|(go_at_call 299;refine(between_any _ _ _ _).mono ?_;rintro e w' ⟨rfl,rfl⟩;rw[B.out]))
  go_ret;exact⟨rfl,rfl⟩
theorem an4{t:List Int}{k:Nat}(hk:k<t.length)(h:a16 (t.getD k 0)=true):cvl t=false:=by
 unfold cvl;have:t.any a16=true:=List.any_eq_true.2 ⟨_,by rw[aoh,aoj hk];simp,h⟩;rw[this];simp
theorem als{t:List Int}(h:∀j,j<t.length->a16 (t.getD j 0)=false):cvl t=betw 1 t.length 8:=by
 unfold cvl
 have:t.any a16=false:=aq3.2 fun x hx=>by
  obtain⟨i,hi,rfl⟩:=apc hx;have:=h i hi;rw[aoh,aoj hi]at this;simpa using this
 rw[this];simp
theorem alt{t:List Int}(h:8<t.length):cvl t=betw 1 t.length 8:=by
 unfold cvl;have:betw 1 t.length 8=false:=by simp[betw];omega
 rw[this];rfl
theorem rValid_any(v:Value)(t:List Int)(w:World)(hv:IntsAt w v t):
  Calls prog 242 #[v] w fun e w'=>e= .returned (.bool (cvl t))/\w=w':=by
 obtain⟨a,cap,rfl,hl,hq⟩:=hv;go_enter func242,ntmps242;go_wp2;go_loop [3] (fun i=>∃k:Nat,k<=t.length/\k<=9/\i= .int .i64 k/\∀j,j<k->a16 (t.getD j 0)=false) (fun i=>t.length-(intOf i).toNat)
 case atStart=>exact⟨0,aot _,om,rfl,fun j hj=>om⟩
 case round=>
  obtain⟨k,hk,hk9,rfl,hn⟩:=hrel;have HN:=hid hn;clear hn;by_cases hlt:k<t.length/\k<=8
  ·obtain⟨hlt,h4⟩:=hlt;obtain⟨b,off,rfl,hc⟩:=hq om;have hcell:=hc k hlt;clear hc hq;generalize hx:t.getD k 0=x at hcell;have X:=hid hx;clear hx;cases hp:betw 0 x 1000 with
   | true=>
    have P:=hid hp;clear hp;go_wp2_with (go_at_call 217;refine(a2C _ _ _ _).mono ?_;rintro e w' ⟨rfl,rfl⟩;rw[P.out])
    go_round
    case rel=>exact⟨k+1,om,om,by go_num,fun j hj=>by
     rcases aoO.1 hj with h|rfl
     ·exact HN.out j h
     rw[X.out];unfold a16;rw[P.out];rfl⟩
    case measure=>simp[intOf];omega
   |false=>
    have P:=hid hp;clear hp;have E:=hid (an4 hlt (show a16 (t.getD k 0)=true by rw[X.out];unfold a16;rw[P.out];rfl));go_wp2_with (go_at_call 217;refine(a2C _ _ _ _).mono ?_;rintro e w' ⟨rfl,rfl⟩;rw[P.out])
    go_ret;exact⟨ret_b E.out.symm,rfl⟩
  have E:Hid (cvl t=betw 1 t.length 8):=hid (by
   by_cases h4:8<t.length
   ·exact alt h4
   exact als (fun j hj=>HN.out j om))
  by_cases hlt2:k<t.length
  ·have h5:¬k<=8:=fun h=>hlt ⟨hlt2,h⟩;clear hlt;go_wp2_with (go_at_call 217;refine(a2C _ _ _ _).mono ?_;rintro e w' ⟨rfl,rfl⟩)
   go_ret;exact⟨ret_b E.out.symm,rfl⟩
  have e:k=t.length:=om;subst e;clear hlt;go_wp2_with (go_at_call 217;refine(a2C _ _ _ _).mono ?_;rintro e w' ⟨rfl,rfl⟩)
  go_ret;exact⟨ret_b E.out.symm,rfl⟩
theorem ints_cell{w:World}{v:Value}{l:List Int}(h:IntsAt w v l)(h0:0<l.length):
  ∃b off cap,v= .slice (some ⟨b,off,none⟩) l.length cap/\∀j,j<l.length->w.cell? ⟨b,off+j,none⟩=some (.int .i64 (l.getD j 0)):=by
 obtain⟨a,cap,rfl,_,hq⟩:=h;obtain⟨b,off,rfl,hc⟩:=hq h0;exact⟨b,off,cap,rfl,hc⟩
def tot(c:List Int):Int:=c.foldl (· + ·) 0
theorem a9K{c:List Int}{k:Nat}(hk:k<c.length):tot (c.take (k+1))=tot (c.take k)+c.getD k 0:=by
 rw[aon hk,tot,apl,aoh,aoj hk];rfl
theorem a1v{t:List Int}{k:Nat}(hk:k<t.length):t.getD k 0∈t:=by
 rw[aoh,aoj hk];simp
theorem a6F{c:List Int}(h:Cvl c):∀k,k<=c.length->0<=tot (c.take k)/\tot (c.take k)<=1000 * k
 |0,_=>by simp[tot]
 |k+1,hk=>by
  have ih:=a6F h k om;have:=h.holds _ (a1v (show k<c.length by omega));rw[a9K om];omega
theorem a5y(v:Value)(c:List Int)(w:World)(hv:IntsAt w v c)(ht:Cvl c):
  Calls prog 294 #[v] w fun e w'=>e= .returned (.int .i64 (tot c))/\w=w':=by
 obtain⟨b,off,cap,rfl,hc⟩:=ints_cell hv (by have:=ht.lo;omega);have hhi:=ht.hi;clear hv;go_enter func294,ntmps294;go_wp2;go_loop [3,8] (fun s i=>∃k:Nat,k<=c.length/\i= .int .i64 k/\s= .int .i64 (tot (c.take k))) (fun _ i=>c.length-(intOf i).toNat)
 case atStart=>exact⟨0,aot _,rfl,rfl⟩
 case round=>
  obtain⟨k,hk,rfl,rfl⟩:=hrel;by_cases hlt:k<c.length
  ·have hcell:=hc k hlt;have E:=hid (a9K hlt);have b1:=a6F ht k hk;have b2:=ht.holds _ (a1v hlt);generalize c.getD k 0=x at *;generalize tot (c.take k)=s at *;clear hc;go_wp2;go_round
   case rel=>exact⟨k+1,om,by go_num,by rw[E.out]⟩
   case measure=>simp[intOf];omega
  have e:k=c.length:=om;subst e;go_wp2;go_ret;exact⟨ret_i (by first|rfl|rw[aoK]),rfl⟩
theorem a3A(v:Value)(c:List Int)(w:World)(hv:IntsAt w v c)(ht:Cvl c):
  Calls prog 132 #[v] w fun e w'=>e= .returned (.int .i64 (tot c))/\w=w':=by
 obtain⟨b,off,cap,rfl,hc⟩:=ints_cell hv (by have:=ht.lo;omega);have hhi:=ht.hi;clear hv;go_enter func132,ntmps132;go_wp2;go_loop [3,4] (fun s i=>∃k:Nat,k<=c.length/\i= .int .i64 k/\s= .int .i64 (tot (c.take k))) (fun _ i=>c.length-(intOf i).toNat)
 case atStart=>exact⟨0,aot _,rfl,rfl⟩
 case round=>
  obtain⟨k,hk,rfl,rfl⟩:=hrel;by_cases hlt:k<c.length
  ·have hcell:=hc k hlt;have E:=hid (a9K hlt);have b1:=a6F ht k hk;have b2:=ht.holds _ (a1v hlt);generalize c.getD k 0=x at *;generalize tot (c.take k)=s at *;clear hc;go_wp2;go_round
   case rel=>exact⟨k+1,om,by go_num,by rw[E.out]⟩
   case measure=>simp[intOf];omega
  have e:k=c.length:=om;subst e;go_wp2;go_ret;exact⟨ret_i (by first|rfl|rw[aoK]),rfl⟩
def a44(c:List Int)(n:Int):Int:=if cvl c then (if betw 0 n (tot c)then 0 else 2)else 80
theorem a3g(v:Value)(c:List Int)(n:Int)(w:World)(hv:IntsAt w v c):
  Calls prog 295 #[v,.int .i64 n] w fun e w'=>e= .returned (.int .i64 (a44 c n))/\w=w':=by
 unfold a44;cases hy:cvl c with
 |false=>
  have Y:=hid hy;clear hy;go_enter func295,ntmps295;go_wp2_with fail
  refine(valid_any _ _ _ hv).mono ?_
  rintro e w' ⟨rfl,rfl⟩;rw[Y.out];go_wp2;go_ret;exact⟨rfl,rfl⟩
 | true=>
  have ht:=(abL c).1 hy
  have Y:=hid hy;clear hy;cases hb:betw 0 n (tot c)with
  |false=>
   have B:=hid hb;clear hb;go_enter func295,ntmps295;go_wp2_with fail
   refine(valid_any _ _ _ hv).mono ?_
   rintro e w' ⟨rfl,rfl⟩;rw[Y.out];go_wp2_with fail
   refine(a5y _ _ _ hv ht).mono ?_
   rintro e w' ⟨rfl,rfl⟩;go_wp2_with fail
   refine(between_any _ _ _ _).mono ?_
   rintro e w' ⟨rfl,rfl⟩;rw[B.out];go_wp2;go_ret;exact⟨rfl,rfl⟩
  |true=>
   have B:=hid hb;clear hb;go_enter func295,ntmps295;go_wp2_with fail
   refine(valid_any _ _ _ hv).mono ?_
   rintro e w' ⟨rfl,rfl⟩;rw[Y.out];go_wp2_with fail
   refine(a5y _ _ _ hv ht).mono ?_
   rintro e w' ⟨rfl,rfl⟩;go_wp2_with fail
   refine(between_any _ _ _ _).mono ?_
   rintro e w' ⟨rfl,rfl⟩;rw[B.out];go_wp2;go_ret;exact⟨rfl,rfl⟩
theorem rasked_any(v:Value)(c:List Int)(n:Int)(w:World)(hv:IntsAt w v c):
  Calls prog 216 #[v,.int .i64 n] w fun e w'=>e= .returned (.int .i64 (a44 c n))/\w=w':=by
 unfold a44;cases hy:cvl c with
 |false=>
  have Y:=hid hy;clear hy;go_enter func216,ntmps216;go_wp2_with fail
  refine(rValid_any _ _ _ hv).mono ?_
  rintro e w' ⟨rfl,rfl⟩;rw[Y.out];go_wp2;go_ret;exact⟨rfl,rfl⟩
 | true=>
  have ht:=(abL c).1 hy
  have Y:=hid hy;clear hy;cases hb:betw 0 n (tot c)with
  |false=>
   have B:=hid hb;clear hb;go_enter func216,ntmps216;go_wp2_with fail
   refine(rValid_any _ _ _ hv).mono ?_
   rintro e w' ⟨rfl,rfl⟩;rw[Y.out];go_wp2_with fail
   refine(a3A _ _ _ hv ht).mono ?_
   rintro e w' ⟨rfl,rfl⟩;go_wp2_with fail
   refine(a2C _ _ _ _).mono ?_
   rintro e w' ⟨rfl,rfl⟩;rw[B.out];go_wp2;go_ret;exact⟨rfl,rfl⟩
  |true=>
   have B:=hid hb;clear hb;go_enter func216,ntmps216;go_wp2_with fail
   refine(rValid_any _ _ _ hv).mono ?_
   rintro e w' ⟨rfl,rfl⟩;rw[Y.out];go_wp2_with fail
   refine(a3A _ _ _ hv ht).mono ?_
   rintro e w' ⟨rfl,rfl⟩;go_wp2_with fail
   refine(a2C _ _ _ _).mono ?_
   rintro e w' ⟨rfl,rfl⟩;rw[B.out];go_wp2;go_ret;exact⟨rfl,rfl⟩
end Go.Proofs.YtdfkaijeppdhaaaGreatDoor.Fd
namespace Go.Proofs.YtdfkaijeppdhaaaGreatDoor.Fd
abbrev a04:=Int×Int
end Go.Proofs.YtdfkaijeppdhaaaGreatDoor.Fd
namespace Go.Proofs.YtdfkaijeppdhaaaGreatDoor.Fd
open Go.RowKit
def RatsAt(w:World)(v:Value)(l:List a04):Prop:=
 ∃ (a:Option Addr) (cap:Nat),v= .slice a l.length cap/\(l.length<=9223372036854775807/\l.length<=cap)/\
  (0<l.length->∃b off,a=some ⟨b,off,none⟩/\∀j,j<l.length->w.cell? ⟨b,off+j * 2,none⟩=some (.int .i64 (l.getD j (0,0)).1)/\
   w.cell? ⟨b,off+j * 2+1,none⟩=some (.int .i64 (l.getD j (0,0)).2))
theorem RatsAt.below{w w':World}{v:Value}{l:List a04}(h:RatsAt w v l)(hb:Below w.heap.size w w'):RatsAt w' v l:=by
 obtain⟨a,cap,rfl,hl,h⟩:=h;refine⟨a,cap,rfl,hl,fun h0=>?_⟩;obtain⟨b,off,ha,hc⟩:=h h0;exact⟨b,off,ha,fun j hj=>⟨keep_cell hb (hc j hj).1,keep_cell hb (hc j hj).2⟩⟩
theorem acu{w:World}{v:Value}{l:List a04}(h:RatsAt w v l)(h0:0<l.length):
  ∃b off cap,l.length<=cap/\v= .slice (some ⟨b,off,none⟩) l.length cap/\∀j,j<l.length->w.cell? ⟨b,off+j * 2,none⟩=some (.int .i64 (l.getD j (0,0)).1)/\w.cell? ⟨b,off+j * 2+1,none⟩=some (.int .i64 (l.getD j (0,0)).2):=by
 obtain⟨a,cap,rfl,hl,hq⟩:=h;obtain⟨b,off,rfl,hc⟩:=hq h0;exact⟨b,off,cap,hl.2,rfl,hc⟩
theorem a2D{l:List a04}{k:Nat}(hk:k<l.length):l.getD k (0,0)∈l:=by
 rw[aoh,aoj hk];simp
end Go.Proofs.YtdfkaijeppdhaaaGreatDoor.Fd
namespace Go.Proofs.YtdfkaijeppdhaaaGreatDoor.Fd
def red(n d:Int):a04:=(rn n d,rd n d)
theorem ajM{n d:Int}(h:1<=d):0<(Int.gcd n d:Int):=by
 have:Int.gcd n d≠0:=fun h0=>by
  rw[Int.gcd_eq_zero_iff]at h0;omega
 omega
theorem a2a(n d:Int)(h:1<=d):∃g:Int,1<=g/\n=g * (red n d).1/\d=g * (red n d).2/\1<=(red n d).2/\Int.gcd (red n d).1 (red n d).2=1:=by
 have hg:=ajM (n:=n) h;have e1:(Int.gcd n d:Int) * rn n d=n:=Int.mul_ediv_cancel' (Int.gcd_dvd_left _ _);have e2:(Int.gcd n d:Int) * rd n d=d:=Int.mul_ediv_cancel' (Int.gcd_dvd_right _ _);refine⟨_,hg,e1.symm,e2.symm,?_,?_⟩
 ·refine Int.not_lt.1 fun hlt=>?_;have:(Int.gcd n d:Int) * rd n d<=0:=Int.mul_nonpos_of_nonneg_of_nonpos om (by show rd n d<=0;unfold red at hlt;simp only at hlt;omega);omega
 have:=Int.gcd_ediv_gcd_ediv_gcd (i:=n) (j:=d) om;exact this
theorem ag4(n d:Int)(h:1<=d):(red n d).1 * d=n * (red n d).2:=by
 obtain⟨g,_,h1,h2,_,_⟩:=a2a n d h;generalize (red n d).1=a at *
 generalize (red n d).2=b at *
 subst h1 h2;rw[aoC,apq]
theorem alu{a b q:Int}(hq:1<=q)(h:a * q=b * q):a=b:=Int.eq_of_mul_eq_mul_right om h
theorem acv{a b c:Int}(h:a ∣ b * c)(hg:Int.gcd a b=1):a ∣ c:=by
 rw[<-Int.natAbs_dvd_natAbs]at h⊢;rw[Int.natAbs_mul]at h;exact Nat.Coprime.dvd_of_dvd_mul_left hg h
theorem aho{a b a' b':Int}(hb:1<=b)(hb':1<=b')(h1:Int.gcd a b=1)(h2:Int.gcd a' b'=1)(h:a * b'=a' * b):a=a'/\b=b':=by
 have d1:b ∣ b':=by
  exact acv (b:=a) ⟨a',by rw[h,aps]⟩ (by rwa[Int.gcd_comm])
 have d2:b' ∣ b:=by
  exact acv (b:=a') ⟨a,by rw[<-h,aps]⟩ (by rwa[Int.gcd_comm])
 have e:b=b':=Int.dvd_antisymm om om d1 d2;subst e;exact⟨alu hb h,rfl⟩
theorem ab4{n d n' d':Int}(h:1<=d)(h':1<=d')(e:n * d'=n' * d):red n d=red n' d':=by
 obtain⟨g,hg,h1,h2,h3,h4⟩:=a2a n d h;obtain⟨g',hg',k1,k2,k3,k4⟩:=a2a n' d' h'
 have key:(red n d).1 * (red n' d').2=(red n' d').1 * (red n d).2:=by
  generalize (red n d).1=a at *
  generalize (red n d).2=b at *
  generalize (red n' d').1=a' at *
  generalize (red n' d').2=b' at *
  subst h1 h2 k1 k2
  have:(a * b') * (g * g')=(a' * b) * (g * g'):=by
   rw[show g * a * (g' * b')=(a * b') * (g * g') by
    rw[aps g a,apq,aoC g g' b',<-apq g' g b',aps (g' * g) b',aps g' g,apq],
    show g' * a' * (g * b)=(a' * b) * (g * g') by
    rw[aps g' a',apq,aoC g' g b,<-apq g g' b,aps (g * g') b,apq]]at e
   exact e
  exact Int.eq_of_mul_eq_mul_right (by have:=Int.mul_pos (show 0<g by omega) (show 0<g' by omega);omega) this
 obtain⟨a,b⟩:=aho h3 k3 h4 k4 key;exact Prod.ext a b
theorem abM(x:Int):red x 1=(x,1):=by
 unfold red rn rd;rw[Int.gcd_one_right];simp
theorem acw(x q:Int)(hq:1<=q):red (x * q) q=(x,1):=by
 rw[<-abM x];exact ab4 hq om (by rw[Int.mul_one])
theorem anN{n d m k:Int}(h:1<=d):(red n d).1 * k<=m * (red n d).2↔n * k<=m * d:=by
 obtain⟨g,hg,h1,h2,h3,_⟩:=a2a n d h;generalize (red n d).1=a at *
 generalize (red n d).2=b at *
 subst h1 h2;rw[apq,aoC m g b];constructor
 ·intro h;exact aph h om
 intro h;exact Int.le_of_mul_le_mul_left h om
def a0w(f:Int->Int):List Int->Int
 |[]=>0
 |x::l=>f x+a0w f l
theorem alv(c:List Int):∀s,c.foldl (· + ·) s=s+a0w id c:=by
 induction c with
 |nil=>intro s;simp[a0w]
 |cons x l ih=>intro s;simp only[apv,a0w,id];rw[ih];omega
theorem a5L(c:List Int):tot c=a0w id c:=by
 unfold tot;rw[alv];omega
theorem acx{f:Int->Int}{a b:List Int}(h:a.Perm b):a0w f a=a0w f b:=by
 induction h with
 |nil=>rfl
 |cons x _ ih=>simp only[a0w,ih]
 |swap x y l=>simp only[a0w];omega
 |trans _ _ h1 h2=>exact h1.trans h2
theorem ag5{f g:Int->Int}:∀{l:List Int},(∀x∈l,f x<=g x)->a0w f l<=a0w g l
 |[],_=>aoR _
 |x::l,h=>by
  have h1:=h x oz;have h2:=ag5 (l:=l) (fun y hy=>h y (by simp[hy]));simp only[a0w];omega
theorem ab5{f g:Int->Int}:∀{l:List Int},(∀x∈l,f x<=g x)->a0w f l=a0w g l->∀x∈l,f x=g x
 |[],_,_=>fun x hx=>by simp at hx
 |x::l,h,e=>by
  have h1:=h x oz;have h2:=ag5 (l:=l) (fun y hy=>h y (by simp[hy]));simp only[a0w]at e;have e1:f x=g x:=om;have ih:=ab5 (l:=l) (fun y hy=>h y (by simp[hy])) om;intro y hy;rcases aov.1 hy with rfl|hy
  ·exact e1
  exact ih y hy
theorem a7p{f g:Int->Int}:∀{l:List Int},(∀x∈l,f x=g x)->a0w f l=a0w g l
 |[],_=>rfl
 |x::l,h=>by
  simp only[a0w];rw[h x oz,a7p (l:=l) (fun y hy=>h y (by simp[hy]))]
theorem a7q(f:Int->Int)(q:Int):∀l:List Int,a0w (fun x=>f x * q) l=a0w f l * q
 |[]=>by simp[a0w]
 |x::l=>by simp only[a0w];rw[a7q f q l,apS]
theorem a5M(f g:Int->Int):∀l:List Int,a0w (fun x=>f x-g x) l=a0w f l-a0w g l
 |[]=>by simp[a0w]
 |x::l=>by simp only[a0w];rw[a5M f g l];omega
theorem ab6(k:Int):∀l:List Int,a0w (fun _=>k) l=k * l.length
 |[]=>by simp[a0w]
 |x::l=>by
  simp only[a0w];rw[ab6 k l,aom];have:((l.length+1:Nat):Int)=l.length+1:=om;rw[this,Int.mul_add];omega
def cap(p q x:Int):Int:=min (x * q) p
structure IsLev(c:List Int)(e p q:Int):Prop where
 hq:1<=q
 sum:a0w (cap p q) c=e * q
theorem ajN{c:List Int}{e p q p' q':Int}(h:IsLev c e p q)(h':IsLev c e p' q')(hle:p * q'<=p' * q):∀x∈c,cap p q x * q'=cap p' q' x * q:=by
 have hq:=h.hq;have hq':=h'.hq;refine ab5 (fun x _=>?_) ?_
 ·unfold cap
  have e1:min (x * q) p * q'=min (x * q * q') (p * q'):=by
   rcases Int.le_total (x * q) p with h|h
   ·rw[aq0 h,aq0 (aoo h om)]
   rw[apQ h,apQ (aoo h om)]
  have e2:min (x * q') p' * q=min (x * q * q') (p' * q):=by
   rw[apX];rcases Int.le_total (x * q') p' with h|h
   ·rw[aq0 h,aq0 (aoo h om)]
   rw[apQ h,apQ (aoo h om)]
  rw[e1,e2];omega
 rw[a7q,a7q,h.sum,h'.sum,apX]
theorem ahp{c:List Int}{e p q p' q':Int}(h:IsLev c e p q)(h':IsLev c e p' q'):∀x∈c,cap p q x * q'=cap p' q' x * q:=by
 rcases Int.le_total (p * q') (p' * q)with hle|hle
 ·exact ajN h h' hle
 exact fun x hx=>(ajN h' h hle x hx).symm
def a5N(c:List Int)(p q:Int):List a04:=c.map fun x=>red (cap p q x) q
theorem an5{c:List Int}{e p q p' q':Int}(h:IsLev c e p q)(h':IsLev c e p' q'):a5N c p q=a5N c p' q':=by
 unfold a5N;refine apN fun x hx=>ab4 h.hq h'.hq (ahp h h' x hx)
def a0u:List Int->Int->Int×Int
 |[],_=>(0,1)
 |x::l,e=>if e<=x * ((l.length:Int)+1)then (e,(l.length:Int)+1)else a0u l (e-x)
theorem a9L(l:List Int):∀e,1<=(a0u l e).2:=by
 induction l with
 |nil=>intro e;simp[a0u]
 |cons x l ih=>
  intro e;unfold a0u;split
  ·simp only;omega
  exact ih _
theorem ajO(l:List Int):∀(e x:Int),(∀y∈l,x<=y)->x * l.length<=e->l≠[]->e<=a0w id l->x * (a0u l e).2<=(a0u l e).1:=by
 induction l with
 |nil=>intro e x _ _ h;exact absurd rfl h
 | cons y l ih=>
  intro e x hx he _ hs;rw[aom,show (((l.length+1:Nat)):Int)=(l.length:Int)+1 by omega]at he;unfold a0u;split
  ·exact he
  rename_i h
  have hxy:=hx y oz;have h1:x * l.length<=y * l.length:=aoo hxy om;rw[Int.mul_add]at h;simp only[a0w,id]at hs
  have hne:l≠[]:=by
   rintro rfl;simp[a0w]at h hs;omega
  exact ih (e-y) x (fun z hz=>hx z (by simp[hz])) om hne om
theorem ahq(l:List Int):∀e,l.Pairwise (· <= ·)->l≠[]->e<=a0w id l->IsLev l e (a0u l e).1 (a0u l e).2:=by
 induction l with
 |nil=>intro e _ h;exact absurd rfl h
 | cons x l ih=>
  intro e hp _ hs;rw[apg]at hp;refine⟨a9L _ _,?_⟩;unfold a0u;split
  ·rename_i h
   simp only
   have:a0w (cap e ((l.length:Int)+1)) (x::l)=a0w (fun _=>e) (x::l):=a7p fun y hy=>by
    have hxy:x<=y:=by
     rcases aov.1 hy with rfl|hy
     ·exact aoR _
     exact hp.1 y hy
    have h1:x * ((l.length:Int)+1)<=y * ((l.length:Int)+1):=aoo hxy om;unfold cap;omega
   rw[this,ab6,aom];congr 1
  rename_i h
  simp only[a0w,id]at hs;rw[Int.mul_add]at h
  have hne:l≠[]:=by
   rintro rfl;simp[a0w]at h hs;omega
  have hi:=ih (e-x) hp.2 hne om;have hg:=ajO l (e-x) x hp.1 om hne om;have hsum:=hi.sum;generalize (a0u l (e-x)).1=p at *
  generalize (a0u l (e-x)).2=q at *
  simp only[a0w];rw[hsum,apT];unfold cap;omega
def eqW(c:List Int)(e:Int):List a04:=a5N c (a0u (c.mergeSort (fun a b=>decide (a<=b))) e).1 (a0u (c.mergeSort (fun a b=>decide (a<=b))) e).2
theorem a5d(c:List Int):(c.mergeSort (fun a b=>decide (a<=b))).Perm c:=List.mergeSort_perm _ _
theorem afv(c:List Int):(c.mergeSort (fun a b=>decide (a<=b))).Pairwise (· <= ·):=by
 have:=List.pairwise_mergeSort (le:=fun a b:Int=>decide (a<=b)) (by intro a b c h1 h2;simp at *;omega) (by intro a b;simp;omega) c;exact this.imp oz
theorem alw{a b:List Int}(h:a.Perm b){e p q:Int}(k:IsLev a e p q):IsLev b e p q:=⟨k.hq,by rw[<-acx h];exact k.sum⟩
theorem abN{c:List Int}(e:Int)(h0:c≠[])(hs:e<=tot c):IsLev c e (a0u (c.mergeSort (fun a b=>decide (a<=b))) e).1 (a0u (c.mergeSort (fun a b=>decide (a<=b))) e).2:=by
 have hp:=a5d c;refine alw hp (ahq _ e (afv c) ?_ ?_)
 ·intro h;have:=hp.length_eq;rw[h]at this;exact h0 (List.eq_nil_of_length_eq_zero this.symm)
 rw[acx hp,<-a5L];exact hs
theorem ajP{c:List Int}{e p q:Int}(h0:c≠[])(hs:e<=tot c)(h:IsLev c e p q):a5N c p q=eqW c e:=an5 h (abN e h0 hs)
theorem an6{p q x:Int}(hq:1<=q)(h:x * (red p q).2<(red p q).1):red (cap p q x) q=(x,1):=by
 obtain⟨g,hg,h1,h2,h3,_⟩:=a2a p q hq;generalize (red p q).1=a at *
 generalize (red p q).2=b at *
 subst h1 h2
 have:x * (g * b)<=g * a:=by
  rw[aoC];exact aph om om
 unfold cap;rw[aq0 this];exact acw x _ hq
theorem an7{p q x:Int}(hq:1<=q)(h:¬x * (red p q).2<(red p q).1):red (cap p q x) q=red p q:=by
 obtain⟨g,hg,h1,h2,h3,_⟩:=a2a p q hq
 have:p<=x * q:=by
  generalize (red p q).1=a at *
  generalize (red p q).2=b at *
  subst h1 h2;rw[aoC];exact aph om om
 unfold cap;rw[apQ this]
theorem a8B(l:List Int):∀e,(∀x∈l,0<=x)->0<=e->0<=(a0u l e).1/\(a0u l e).1<=e/\(a0u l e).2<=l.length+1:=by
 induction l with
 |nil=>intro e _ h;simp[a0u];omega
 |cons x l ih=>
  intro e hx he;unfold a0u;split
  ·simp;omega
  rename_i h
  have h0:=hx x oz;have h1:x * 1<=x * ((l.length:Int)+1):=aph om h0;have:=ih (e-x) (fun y hy=>hx y (by simp[hy])) om;rw[aom];omega
theorem ab7{n d B:Int}(h:1<=d)(h1: -B<=n)(h2:n<=B): -B<=(red n d).1/\(red n d).1<=B/\1<=(red n d).2/\(red n d).2<=d:=by
 obtain⟨g,hg,e1,e2,h3,_⟩:=a2a n d h;generalize (red n d).1=a at *
 generalize (red n d).2=b at *
 subst e1 e2;have hb:1 * b<=g * b:=aoo hg om;rcases Int.le_total 0 a with ha|ha
 ·have:1 * a<=g * a:=aoo hg ha;omega
 have:1 * (-a)<=g * (-a):=aoo hg om;rw[Int.mul_neg g a]at this;omega
theorem a8W{n d:Int}(h:1<=d)(h1:0<=n):0<=(red n d).1/\(red n d).1<=n:=by
 obtain⟨g,hg,e1,e2,h3,_⟩:=a2a n d h;generalize (red n d).1=a at *
 rcases Int.le_total 0 a with ha|ha
 ·have:1 * a<=g * a:=aoo hg ha;omega
 have:1 * (-a)<=g * (-a):=aoo hg om;rw[Int.mul_neg g a]at this;omega
def a0E(l:List a04):List a04:=l.map fun x=>red x.1 (2 * x.2)
def a1r(c:List Int)(l:List a04):List a04:=List.zipWith (fun x y=>red (x * y.2-y.1) y.2) c l
def a1Q(c:List Int)(e:Int):List a04:=c.map fun x=>red (x * e) (max 1 (tot c))
def shareL(c:List Int)(e r:Int):List a04:=
 if r=1 then a1Q c e else if r=2 then eqW c e else if r=3 then a1r c (eqW c (tot c-e))
 else if 2 * e>tot c then a1r c (a0E (eqW c (2 * (tot c-e))))else a0E (eqW c (2 * e))
theorem ag6{f:Int->a04}{g:Int->a04->a04}:∀c:List Int,List.zipWith g c (c.map f)=c.map fun x=>g x (f x)
 |[]=>rfl
 |x::l=>by simp only[aoJ,List.zipWith_cons_cons];rw[ag6 l]
theorem alx{x n d:Int}(hd:1<=d):red (x * (red n d).2-(red n d).1) (red n d).2=red (x * d-n) d:=by
 obtain⟨g,hg,h1,h2,h3,_⟩:=a2a n d hd;have:=ag4 n d hd;refine ab4 h3 hd ?_;rw[apT,apT,this,apX]
theorem aly{n d:Int}(hd:1<=d):red (red n d).1 (2 * (red n d).2)=red n (2 * d):=by
 obtain⟨g,hg,h1,h2,h3,_⟩:=a2a n d hd;have:=ag4 n d hd;refine ab4 om om ?_;rw[aoC,this,aoC n 2]
theorem a7r(c:List Int)(f:Int->Int){q:Int}(hq:1<=q):a1r c (c.map fun x=>red (f x) q)=c.map fun x=>red (x * q-f x) q:=by
 unfold a1r;rw[ag6];exact apN fun x _=>alx hq
theorem a7s(c:List Int)(f:Int->Int){q:Int}(hq:1<=q):a0E (c.map fun x=>red (f x) q)=c.map fun x=>red (f x) (2 * q):=by
 unfold a0E;rw[apx];exact apN fun x _=>aly hq
structure Shr(c:List Int)(e:Int)(l:List a04)(f:Int->Int)(Q:Int):Prop where
 hQ:1<=Q
 hQ2:Q<=8000
 aw:l=c.map fun x=>red (f x) Q
 sum:a0w f c=e * Q
 lo:∀x∈c,0<=f x
 hi:∀x∈c,f x<=x * Q
 mono:∀x∈c,∀y∈c,x<=y->f x<=f y/\x * Q-f x<=y * Q-f y
theorem a3h(c:List Int)(q:Int):a0w (fun x=>x * q) c=tot c * q:=by
 rw[a5L,<-a7q];rfl
theorem a6G{c:List Int}{e:Int}(h0:c≠[])(hc:∀x∈c,0<=x)(hn:c.length<=8)(he:0<=e)(hs:e<=tot c):∃p q:Int,IsLev c e p q/\0<=p/\q<=9/\eqW c e=c.map fun x=>red (cap p q x) q:=by
 have h:=abN e h0 hs;have hp:=a5d c;have hb:=a8B (c.mergeSort (fun a b=>decide (a<=b))) e (fun x hx=>hc x (hp.mem_iff.1 hx)) he;have hl:=hp.length_eq;exact⟨_,_,h,hb.1,om,rfl⟩
theorem a0v{p q x y:Int}(hq:1<=q)(hp:0<=p)(hx:0<=x)(hxy:x<=y):0<=cap p q x/\cap p q x<=x * q/\cap p q x<=cap p q y/\x * q-cap p q x<=y * q-cap p q y:=by
 have h1:0<=x * q:=apk hx om;have h2:x * q<=y * q:=aoo hxy om;unfold cap;omega
theorem ajQ{c:List Int}{e r:Int}(h0:c≠[])(hc:∀x∈c,0<=x)(hn:c.length<=8)(ht:tot c<=8000)(he:0<=e)(hs:e<=tot c):∃f Q,Shr c e (shareL c e r) f Q:=by
 unfold shareL;split
 ·refine⟨fun x=>x * e,max 1 (tot c),om,om,rfl,?_,fun x hx=>apk (hc x hx) he,fun x hx=>?_,fun x hx y hy hxy=>?_⟩
  ·rw[a3h,aps e];by_cases h:1<=tot c
   ·rw[Int.max_eq_right h]
   have:e=0:=om;rw[this];simp
  ·exact aph om (hc x hx)
  refine⟨aoo hxy he,?_⟩;rw[<-Int.mul_sub,<-Int.mul_sub];exact aoo hxy om
 split
 ·obtain⟨p,q,hl,hp,hq9,e1⟩:=a6G h0 hc hn he hs;have hq:=hl.hq;exact⟨cap p q,q,hq,om,e1,hl.sum,fun x hx=>(a0v hq hp (hc x hx) (aoR x)).1,fun x hx=>(a0v hq hp (hc x hx) (aoR x)).2.1,fun x hx y _ hxy=>(a0v hq hp (hc x hx) hxy).2.2⟩
 split
 ·obtain⟨p,q,hl,hp,hq9,e1⟩:=a6G (e:=tot c-e) h0 hc hn om om;have hq:=hl.hq;refine⟨fun x=>x * q-cap p q x,q,hq,om,by rw[e1,a7r c _ hq],?_,fun x hx=>?_,fun x hx=>?_,fun x hx y _ hxy=>?_⟩
  ·rw[a5M,a3h,hl.sum,apT];omega
  ·have:=(a0v hq hp (hc x hx) (aoR x)).2.1;omega
  ·have:=(a0v hq hp (hc x hx) (aoR x)).1;omega
  have:=(a0v hq hp (hc x hx) hxy).2.2
  have h2:x * q<=y * q:=aoo hxy om;omega
 split
 ·obtain⟨p,q,hl,hp,hq9,e1⟩:=a6G (e:=2 * (tot c-e)) h0 hc hn om om;have hq:=hl.hq;refine⟨fun x=>x * (2 * q)-cap p q x,2 * q,om,om,by rw[e1,a7s c _ hq,a7r c _ om],?_,fun x hx=>?_,fun x hx=>?_,fun x hx y _ hxy=>?_⟩
  ·rw[a5M,a3h,hl.sum,aoC (tot c) 2 q,aoC e 2 q,apq,apT];omega
  ·have:=(a0v hq hp (hc x hx) (aoR x)).2.1
   have h1:0<=x * q:=apk (hc x hx) om;rw[aoC];omega
  ·have:=(a0v hq hp (hc x hx) (aoR x)).1;omega
  have:=(a0v hq hp (hc x hx) hxy).2.2
  have h2:x * q<=y * q:=aoo hxy om;rw[aoC x,aoC y];omega
 obtain⟨p,q,hl,hp,hq9,e1⟩:=a6G (e:=2 * e) h0 hc hn om om;have hq:=hl.hq;refine⟨cap p q,2 * q,om,om,by rw[e1,a7s c _ hq],?_,fun x hx=>(a0v hq hp (hc x hx) (aoR x)).1,fun x hx=>?_,fun x hx y _ hxy=>?_⟩
 ·rw[hl.sum,aoC e 2 q,apq]
 ·have:=(a0v hq hp (hc x hx) (aoR x)).2.1
  have h1:0<=x * q:=apk (hc x hx) om;rw[aoC];omega
 have:=(a0v hq hp (hc x hx) hxy).2.2
 have h2:x * q<=y * q:=aoo hxy om;rw[aoC x,aoC y];omega
end Go.Proofs.YtdfkaijeppdhaaaGreatDoor.Fd
