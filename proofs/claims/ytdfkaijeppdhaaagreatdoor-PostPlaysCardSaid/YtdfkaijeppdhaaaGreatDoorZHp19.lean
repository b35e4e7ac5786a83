/- Texts of this claim, laid together: FdA, FdC, FdD, FdSum, FdE, FdWat. -/
import Derived.Test.YtdfkaijeppdhaaaGreatDoorZHp18
import Derived.Test.YtdfkaijeppdhaaaGreatDoorProg
import Derived.KernelRfl
import Derived.BigQuiet
import Derived.Deep.QuietTactic
import Derived.Deep.RegionWith
import Derived.StillTailTactics

set_option maxRecDepth 100000
set_option maxHeartbeats 8000000
set_option linter.unusedSimpArgs false
set_option linter.unusedVariables false

namespace Go.Proofs.YtdfkaijeppdhaaaGreatDoor.Fd
open Go.RowKit
open Lib (hid)
theorem ret_b{a b:Bool}(h:a=b):Ending.returned (.bool a)= .returned (.bool b):=by rw[h]
theorem ret_i{a b:Int}(h:a=b):Ending.returned (.int .i64 a)= .returned (.int .i64 b):=by rw[h]
def betw(a b c:Int):Bool:=decide (a<=b)&&decide (b<=c)
theorem betw_iff(a b c:Int):betw a b c=true↔a<=b/\b<=c:=by simp[betw]
theorem between_any(a b c:Int)(w:World):
  Calls Tryz.prog 299 #[.int .i64 a,.int .i64 b,.int .i64 c] w fun e w'=>e= .returned (.bool (betw a b c))/\w=w':=by
 unfold betw;by_cases h1:a<=b
 ·by_cases h2:b<=c
  ·go_enter Tryz.func299,Tryz.ntmps299;go_wp2;go_ret;exact⟨by simp[h1,h2],rfl⟩
  go_enter Tryz.func299,Tryz.ntmps299;go_wp2;go_ret;exact⟨by simp[h2],rfl⟩
 go_enter Tryz.func299,Tryz.ntmps299;go_wp2;go_ret;exact⟨by rw[decide_eq_false (show¬a<=b by omega)];rfl,rfl⟩
theorem a1H(a b c:Int)(w:World):
  Calls Tryz.prog 217 #[.int .i64 a,.int .i64 b,.int .i64 c] w fun e w'=>e= .returned (.bool (betw a b c))/\w=w':=by
 unfold betw;by_cases h1:a<=b
 ·by_cases h2:b<=c
  ·go_enter Tryz.func217,Tryz.ntmps217;go_wp2;go_ret;exact⟨by simp[h1,h2],rfl⟩
  go_enter Tryz.func217,Tryz.ntmps217;go_wp2;go_ret;exact⟨by simp[h2],rfl⟩
 go_enter Tryz.func217,Tryz.ntmps217;go_wp2;go_ret;exact⟨by rw[decide_eq_false (show¬a<=b by omega)];rfl,rfl⟩
def rn(n d:Int):Int:=n / (Int.gcd n d:Nat)
def rd(n d:Int):Int:=d / (Int.gcd n d:Nat)
def ratV(n d:Int):Value:=.agg #[.int .i64 (rn n d),.int .i64 (rd n d)]
theorem gcd_step(x y:Nat):Nat.gcd y (x % y)=Nat.gcd x y:=by
 rw[Nat.gcd_comm x y,Nat.gcd_rec y x,Nat.gcd_comm]
theorem emod_cast(p q:Nat):((p:Int) % (q:Int))=((p % q:Nat):Int):=(Int.natCast_emod p q).symm
theorem abg(k m:Nat):Ending.returned (.agg #[.int .i64 ((k:Int) / ((k.gcd m:Nat):Int)),.int .i64 ((m:Int) / ((k.gcd m:Nat):Int))])= .returned (ratV k m):=rfl
theorem abh(k m:Nat):Ending.returned (.agg #[.int .i64 (-((k:Int) / ((k.gcd m:Nat):Int))),.int .i64 ((m:Int) / ((k.gcd m:Nat):Int))])= .returned (ratV (-(k:Int)) m):=by
 have h:(k.gcd m:Int) ∣ (k:Int):=Int.ofNat_dvd.2 (Nat.gcd_dvd_left k m);have e:Int.gcd (-(k:Int)) m=k.gcd m:=by rw[Int.neg_gcd];rfl
 unfold ratV rn rd;rw[e,Int.neg_ediv_of_dvd h]
theorem ag6(k m:Nat)(w:World)(hk:k<=4000000000000000000)(hm1:1<=m)(hm2:m<=4000000000000000000):
  Calls Tryz.prog 308 #[.int .i64 k,.int .i64 m] w fun e w'=>e= .returned (ratV k m)/\Below w.heap.size w w':=by
 go_enter Tryz.func308,Tryz.ntmps308;go_wp2;go_loopw [5,6] (fun x y wr=>∃p q:Nat,x= .int .i64 p/\y= .int .i64 q/\1<=p+q/\p<=4000000000000000000/\q<=4000000000000000000/\Hid (Nat.gcd p q=Nat.gcd k m)/\Below (w.heap.size+1) (w.alloc (.cells #[.int .i64 0,.int .i64 0] 199)) wr) (fun _ y _=>(intOf y).toNat)
 case atStart=>exact⟨k,m,by go_num,rfl,by omega,by omega,by omega,rfl,Below.refl _ _⟩
 case round=>
  obtain⟨p,q,rfl,rfl,hpq,hp2,hq2,G,hbel⟩:=hrel;by_cases hq:0<q
  ·have hm:=Nat.mod_lt p hq;have hne:((q:Int) != 0)=true:=by rw[bne_iff_ne];omega
   have hne2:((q:Int)==0)=false:=beq_eq_false_iff_ne.2 (by omega);go_wp2;go_region
   all_goals go_wp2
   all_goals go_roundw
   case rel=>exact⟨q,p % q,rfl,by rw[emod_cast],by omega,by omega,by omega,(gcd_step p q).trans G.out,hbel.drew⟩
   case measure=>rw[emod_cast];simp only[intOf];omega
  have e:q=0:=by omega
  subst e;have G':=G.out;rw[Nat.gcd_zero_right]at G';clear G;have GH:=hid G';clear G';have c0:wr.cell? ⟨w.heap.size,0,none⟩=some (.int .i64 0):=(hbel.cell (p:=⟨w.heap.size,0,none⟩) (Nat.lt_succ_self _)).trans (by simp)
  have c1:wr.cell? ⟨w.heap.size,1,none⟩=some (.int .i64 0):=(hbel.cell (p:=⟨w.heap.size,1,none⟩) (Nat.lt_succ_self _)).trans (by simp)
  have f0:wr.frozen? ⟨w.heap.size,0,none⟩=false:=(hbel.frozen (p:=⟨w.heap.size,0,none⟩) (Nat.lt_succ_self _)).trans (by simp)
  have f1:wr.frozen? ⟨w.heap.size,1,none⟩=false:=(hbel.frozen (p:=⟨w.heap.size,1,none⟩) (Nat.lt_succ_self _)).trans (by simp)
  have hne:((p:Int)==0)=false:=beq_eq_false_iff_ne.2 (by omega);have hd1:=IntWalk.tdiv_le k p (by omega) (by omega);have hd2:=IntWalk.tdiv_le m p (by omega) (by omega);go_wp2;go_region
  all_goals go_wp2
  refine bodyPost_ret (v:=.agg #[.int .i64 ((k:Int) / (p:Int)),.int .i64 ((m:Int) / (p:Int))]) (by simp[results,Tryz.results308,go_sem,c0,c1]) rfl ⟨?_,?_⟩
  ·have:=GH.out;subst this;exact abg k m
  exact((((Below.refl _ w).alloc (Nat.le_refl _) _).trans (hbel.mono (Nat.le_succ _))).setCell (Nat.le_refl _) _).setCell (Nat.le_refl _) _ |>.drew
theorem ag7(k m:Nat)(w:World)(hk1:1<=k)(hk:k<=4000000000000000000)(hm1:1<=m)(hm2:m<=4000000000000000000):
  Calls Tryz.prog 308 #[.int .i64 (-(k:Int)),.int .i64 m] w fun e w'=>e= .returned (ratV (-(k:Int)) m)/\Below w.heap.size w w':=by
 go_enter Tryz.func308,Tryz.ntmps308;go_wp2;go_loopw [5,6] (fun x y wr=>∃p q:Nat,x= .int .i64 p/\y= .int .i64 q/\1<=p+q/\p<=4000000000000000000/\q<=4000000000000000000/\Hid (Nat.gcd p q=Nat.gcd k m)/\Below (w.heap.size+1) (w.alloc (.cells #[.int .i64 0,.int .i64 0] 199)) wr) (fun _ y _=>(intOf y).toNat)
 case atStart=>exact⟨k,m,by go_num,rfl,by omega,by omega,by omega,rfl,Below.refl _ _⟩
 case round=>
  obtain⟨p,q,rfl,rfl,hpq,hp2,hq2,G,hbel⟩:=hrel;by_cases hq:0<q
  ·have hm:=Nat.mod_lt p hq;have hne:((q:Int) != 0)=true:=by rw[bne_iff_ne];omega
   have hne2:((q:Int)==0)=false:=beq_eq_false_iff_ne.2 (by omega);go_wp2;go_region
   all_goals go_wp2
   all_goals go_roundw
   case rel=>exact⟨q,p % q,rfl,by rw[emod_cast],by omega,by omega,by omega,(gcd_step p q).trans G.out,hbel.drew⟩
   case measure=>rw[emod_cast];simp only[intOf];omega
  have e:q=0:=by omega
  subst e;have G':=G.out;rw[Nat.gcd_zero_right]at G';clear G;have GH:=hid G';clear G';have c0:wr.cell? ⟨w.heap.size,0,none⟩=some (.int .i64 0):=(hbel.cell (p:=⟨w.heap.size,0,none⟩) (Nat.lt_succ_self _)).trans (by simp)
  have c1:wr.cell? ⟨w.heap.size,1,none⟩=some (.int .i64 0):=(hbel.cell (p:=⟨w.heap.size,1,none⟩) (Nat.lt_succ_self _)).trans (by simp)
  have f0:wr.frozen? ⟨w.heap.size,0,none⟩=false:=(hbel.frozen (p:=⟨w.heap.size,0,none⟩) (Nat.lt_succ_self _)).trans (by simp)
  have f1:wr.frozen? ⟨w.heap.size,1,none⟩=false:=(hbel.frozen (p:=⟨w.heap.size,1,none⟩) (Nat.lt_succ_self _)).trans (by simp)
  have hne:((p:Int)==0)=false:=beq_eq_false_iff_ne.2 (by omega);have hd1:=IntWalk.tdiv_le k p (by omega) (by omega);have hd2:=IntWalk.tdiv_le m p (by omega) (by omega);go_wp2;go_region
  all_goals go_wp2
  refine bodyPost_ret (v:=.agg #[.int .i64 (-((k:Int) / (p:Int))),.int .i64 ((m:Int) / (p:Int))]) (by simp[results,Tryz.results308,go_sem,c0,c1]) rfl ⟨?_,?_⟩
  ·have:=GH.out;subst this;exact abh k m
  exact((((Below.refl _ w).alloc (Nat.le_refl _) _).trans (hbel.mono (Nat.le_succ _))).setCell (Nat.le_refl _) _).setCell (Nat.le_refl _) _ |>.drew
theorem a3I(n d:Int)(w:World)(hn1: -4000000000000000000<=n)(hn2:n<=4000000000000000000)(hd1:1<=d)(hd2:d<=4000000000000000000):
  Calls Tryz.prog 308 #[.int .i64 n,.int .i64 d] w fun e w'=>e= .returned (ratV n d)/\Below w.heap.size w w':=by
 obtain⟨m,rfl⟩:=Int.eq_ofNat_of_zero_le (show 0<=d by omega);by_cases h:0<=n
 ·obtain⟨k,rfl⟩:=Int.eq_ofNat_of_zero_le h;exact ag6 k m w (by omega) (by omega) (by omega)
 obtain⟨k,hk⟩:=Int.eq_ofNat_of_zero_le (show 0<= -n by omega);obtain rfl:n= -(k:Int):=by omega
 exact ag7 k m w (by omega) (by omega) (by omega) (by omega)
theorem aj4(k m:Nat)(w:World)(hk:k<=4000000000000000000)(hm2:m<=4000000000000000000):
  Calls Tryz.prog 243 #[.int .i64 k,.int .i64 m] w fun e w'=>e= .returned (.int .i64 (k.gcd m:Nat))/\Below w.heap.size w w':=by
 go_enter Tryz.func243,Tryz.ntmps243;go_wp2;go_loopw [0,1] (fun x y wr=>∃p q:Nat,x= .int .i64 p/\y= .int .i64 q/\p<=4000000000000000000/\q<=4000000000000000000/\Hid (Nat.gcd p q=Nat.gcd k m)/\Below w.heap.size w wr) (fun _ y _=>(intOf y).toNat)
 case atStart=>exact⟨k,m,by go_num,rfl,by omega,by omega,rfl,Below.refl _ _⟩
 case round=>
  obtain⟨p,q,rfl,rfl,hp2,hq2,G,hbel⟩:=hrel;by_cases hq:0<q
  ·have hm:=Nat.mod_lt p hq;have hne:((q:Int) != 0)=true:=by rw[bne_iff_ne];omega
   have hne2:((q:Int)==0)=false:=beq_eq_false_iff_ne.2 (by omega);go_wp2;go_region
   all_goals go_wp2
   all_goals go_roundw
   case rel=>exact⟨q,p % q,rfl,by rw[emod_cast],by omega,by omega,(gcd_step p q).trans G.out,hbel.drew⟩
   case measure=>rw[emod_cast];simp only[intOf];omega
  have e:q=0:=by omega
  subst e;have G':=G.out;rw[Nat.gcd_zero_right]at G';clear G;have GH:=hid G';clear G';go_wp2;go_ret;exact⟨ret_i (by rw[GH.out]),hbel⟩
theorem aj5(k m:Nat)(w:World)(hk1:1<=k)(hk:k<=4000000000000000000)(hm2:m<=4000000000000000000):
  Calls Tryz.prog 243 #[.int .i64 (-(k:Int)),.int .i64 m] w fun e w'=>e= .returned (.int .i64 (k.gcd m:Nat))/\Below w.heap.size w w':=by
 go_enter Tryz.func243,Tryz.ntmps243;go_wp2;go_loopw [0,1] (fun x y wr=>∃p q:Nat,x= .int .i64 p/\y= .int .i64 q/\p<=4000000000000000000/\q<=4000000000000000000/\Hid (Nat.gcd p q=Nat.gcd k m)/\Below w.heap.size w wr) (fun _ y _=>(intOf y).toNat)
 case atStart=>exact⟨k,m,by go_num,rfl,by omega,by omega,rfl,Below.refl _ _⟩
 case round=>
  obtain⟨p,q,rfl,rfl,hp2,hq2,G,hbel⟩:=hrel;by_cases hq:0<q
  ·have hm:=Nat.mod_lt p hq;have hne:((q:Int) != 0)=true:=by rw[bne_iff_ne];omega
   have hne2:((q:Int)==0)=false:=beq_eq_false_iff_ne.2 (by omega);go_wp2;go_region
   all_goals go_wp2
   all_goals go_roundw
   case rel=>exact⟨q,p % q,rfl,by rw[emod_cast],by omega,by omega,(gcd_step p q).trans G.out,hbel.drew⟩
   case measure=>rw[emod_cast];simp only[intOf];omega
  have e:q=0:=by omega
  subst e;have G':=G.out;rw[Nat.gcd_zero_right]at G';clear G;have GH:=hid G';clear G';go_wp2;go_ret;exact⟨ret_i (by rw[GH.out]),hbel⟩
theorem ae6(k m:Nat)(w:World)(hk:k<=4000000000000000000)(hm1:1<=m)(hm2:m<=4000000000000000000):
  Calls Tryz.prog 221 #[.int .i64 k,.int .i64 m] w fun e w'=>e= .returned (ratV k m)/\Below w.heap.size w w':=by
 go_enter Tryz.func221,Tryz.ntmps221;have hg0:0<k.gcd m:=Nat.gcd_pos_of_pos_right _ hm1;have hg1:k.gcd m<=m:=Nat.gcd_le_right _ hm1;go_wp2_with (go_at_call 243;refine(aj4 k m _ hk hm2).mono ?_;rintro e wr ⟨rfl,hbel⟩;rw[World.size_alloc]at hbel)
 have c0:wr.cell? ⟨w.heap.size,0,none⟩=some (.int .i64 0):=(hbel.cell (p:=⟨w.heap.size,0,none⟩) (Nat.lt_succ_self _)).trans (by simp)
 have c1:wr.cell? ⟨w.heap.size,1,none⟩=some (.int .i64 0):=(hbel.cell (p:=⟨w.heap.size,1,none⟩) (Nat.lt_succ_self _)).trans (by simp)
 have f0:wr.frozen? ⟨w.heap.size,0,none⟩=false:=(hbel.frozen (p:=⟨w.heap.size,0,none⟩) (Nat.lt_succ_self _)).trans (by simp)
 have f1:wr.frozen? ⟨w.heap.size,1,none⟩=false:=(hbel.frozen (p:=⟨w.heap.size,1,none⟩) (Nat.lt_succ_self _)).trans (by simp)
 generalize hgg:k.gcd m=p at *;have GH:=hid hgg;clear hgg;have hne:((p:Int)==0)=false:=beq_eq_false_iff_ne.2 (by omega);have hd1:=IntWalk.tdiv_le k p (by omega) (by omega);have hd2:=IntWalk.tdiv_le m p (by omega) (by omega);go_region
 all_goals go_wp2
 refine bodyPost_ret (v:=.agg #[.int .i64 ((k:Int) / (p:Int)),.int .i64 ((m:Int) / (p:Int))]) (by simp[results,Tryz.results221,go_sem,c0,c1]) rfl ⟨?_,?_⟩
 ·have:=GH.out;subst this;exact abg k m
 exact((((Below.refl _ w).alloc (Nat.le_refl _) _).trans (hbel.mono (Nat.le_succ _))).setCell (Nat.le_refl _) _).setCell (Nat.le_refl _) _ |>.drew
theorem ae7(k m:Nat)(w:World)(hk1:1<=k)(hk:k<=4000000000000000000)(hm1:1<=m)(hm2:m<=4000000000000000000):
  Calls Tryz.prog 221 #[.int .i64 (-(k:Int)),.int .i64 m] w fun e w'=>e= .returned (ratV (-(k:Int)) m)/\Below w.heap.size w w':=by
 go_enter Tryz.func221,Tryz.ntmps221;have hg0:0<k.gcd m:=Nat.gcd_pos_of_pos_right _ hm1;have hg1:k.gcd m<=m:=Nat.gcd_le_right _ hm1;go_wp2_with (go_at_call 243;refine(aj5 k m _ hk1 hk hm2).mono ?_;rintro e wr ⟨rfl,hbel⟩;rw[World.size_alloc]at hbel)
 have c0:wr.cell? ⟨w.heap.size,0,none⟩=some (.int .i64 0):=(hbel.cell (p:=⟨w.heap.size,0,none⟩) (Nat.lt_succ_self _)).trans (by simp)
 have c1:wr.cell? ⟨w.heap.size,1,none⟩=some (.int .i64 0):=(hbel.cell (p:=⟨w.heap.size,1,none⟩) (Nat.lt_succ_self _)).trans (by simp)
 have f0:wr.frozen? ⟨w.heap.size,0,none⟩=false:=(hbel.frozen (p:=⟨w.heap.size,0,none⟩) (Nat.lt_succ_self _)).trans (by simp)
 have f1:wr.frozen? ⟨w.heap.size,1,none⟩=false:=(hbel.frozen (p:=⟨w.heap.size,1,none⟩) (Nat.lt_succ_self _)).trans (by simp)
 generalize hgg:k.gcd m=p at *;have GH:=hid hgg;clear hgg;have hne:((p:Int)==0)=false:=beq_eq_false_iff_ne.2 (by omega);have hd1:=IntWalk.tdiv_le k p (by omega) (by omega);have hd2:=IntWalk.tdiv_le m p (by omega) (by omega);go_region
 all_goals go_wp2
 refine bodyPost_ret (v:=.agg #[.int .i64 (-((k:Int) / (p:Int))),.int .i64 ((m:Int) / (p:Int))]) (by simp[results,Tryz.results221,go_sem,c0,c1]) rfl ⟨?_,?_⟩
 ·have:=GH.out;subst this;exact abh k m
 exact((((Below.refl _ w).alloc (Nat.le_refl _) _).trans (hbel.mono (Nat.le_succ _))).setCell (Nat.le_refl _) _).setCell (Nat.le_refl _) _ |>.drew
theorem a3a(n d:Int)(w:World)(hn1: -4000000000000000000<=n)(hn2:n<=4000000000000000000)(hd1:1<=d)(hd2:d<=4000000000000000000):
  Calls Tryz.prog 221 #[.int .i64 n,.int .i64 d] w fun e w'=>e= .returned (ratV n d)/\Below w.heap.size w w':=by
 obtain⟨m,rfl⟩:=Int.eq_ofNat_of_zero_le (show 0<=d by omega);by_cases h:0<=n
 ·obtain⟨k,rfl⟩:=Int.eq_ofNat_of_zero_le h;exact ae6 k m w (by omega) (by omega) (by omega)
 obtain⟨k,hk⟩:=Int.eq_ofNat_of_zero_le (show 0<= -n by omega);obtain rfl:n= -(k:Int):=by omega
 exact ae7 k m w (by omega) (by omega) (by omega) (by omega)
def fidx{α:Type}(p:α->Bool):List α->Int
 |[]=> -1
 |x::l=>if p x then 0 else (if fidx p l<0 then-1 else fidx p l+1)
theorem fidx_any{α:Type}(p:α->Bool):∀l:List α,decide (0<=fidx p l)=l.any p
 |[]=>by simp[fidx]
 | x::l=>by
  have ih:=fidx_any p l;unfold fidx;rw[List.any_cons];cases hp:p x with
  |true=>simp
  |false=>
   simp only[Bool.false_eq_true,if_false,Bool.false_or];rw[<-ih];split<;>rename_i h<;>simp<;>omega
theorem fidx_none{α:Type}(p:α->Bool):∀l:List α,(∀x∈l,p x=false)->fidx p l= -1
 |[],_=>rfl
 |x::l,h=>by
  unfold fidx;rw[h x (by simp),fidx_none p l (fun y hy=>h y (by simp[hy]))];simp
theorem fidx_hit{α:Type}(p:α->Bool):∀(l:List α) (k:Nat) (d:α),k<l.length->(∀i,i<k->p (l.getD i d)=false)->p (l.getD k d)=true->fidx p l=k
 |[],k,d,h,_,_=>by simp at h
 |x::l,0,d,_,_,h=>by
  unfold fidx;rw[List.getD_cons_zero]at h;simp[h]
 |x::l,k+1,d,hk,hn,h=>by
  have h0:=hn 0 (by omega);rw[List.getD_cons_zero]at h0;have ih:=fidx_hit p l k d (by simpa using hk) (fun i hi=>by simpa using hn (i+1) (by omega)) (by simpa using h);unfold fidx;rw[h0,ih];simp only[Bool.false_eq_true,if_false];rw[if_neg (by omega)];omega
theorem fidx_pre{α:Type}(p:α->Bool)(l:List α)(d:α)(h:∀i,i<l.length->p (l.getD i d)=false):fidx p l= -1:=
 fidx_none p l fun x hx=>by
  obtain⟨i,hi,rfl⟩:=List.getElem_of_mem hx;have:=h i hi;rwa[List.getD_eq_getElem?_getD,List.getElem?_eq_getElem hi]at this
def a0I(n:Int):Bool:= !(betw 0 n 1000)
theorem a79(n:Int)(w:World):
  Calls Tryz.prog 307 #[.int .i64 n] w fun e w'=>e= .returned (.bool (a0I n))/\w=w':=by
 unfold a0I;go_enter Tryz.func307,Tryz.ntmps307;go_wp2_with (go_at_call 299;refine(between_any _ _ _ _).mono ?_;rintro e w' ⟨rfl,rfl⟩)
 go_ret;exact⟨rfl,rfl⟩
theorem abi(v:Value)(l:List Int)(w:World)(hv:IntsAt w v l):
  Calls Tryz.prog 313 #[v,.func (.func 307) #[] #[]] w fun e w'=>e= .returned (.int .i64 (fidx a0I l))/\w=w':=by
 obtain⟨a,cap,rfl,hl,hq⟩:=hv;go_enter Tryz.func313,Tryz.ntmps313;go_wp2;go_loop [8] (fun i=>∃k:Nat,k<=l.length/\i= .int .i64 k/\∀j,j<k->a0I (l.getD j 0)=false) (fun i=>l.length-(intOf i).toNat)
 case atStart=>exact⟨0,Nat.zero_le _,rfl,fun j hj=>by omega⟩
 case round=>
  obtain⟨k,hk,rfl,hn⟩:=hrel;by_cases hlt:k<l.length
  ·obtain⟨b,off,rfl,hc⟩:=hq (by omega);have hcell:=hc k hlt;clear hc hq;have HN:=hid hn;clear hn;generalize hx:l.getD k 0=x at hcell;have X:=hid hx;clear hx;cases hp:a0I x with
   |true=>
    have P:=hid hp;clear hp;go_wp2_with (go_at_call 307;refine(a79 _ _).mono ?_;rintro e w' ⟨rfl,rfl⟩;rw[P.out])
    go_ret;exact⟨ret_i (fidx_hit a0I l k 0 hlt HN.out (by rw[X.out];exact P.out)).symm,rfl⟩
   | false=>
    have P:=hid hp;clear hp;go_wp2_with (go_at_call 307;refine(a79 _ _).mono ?_;rintro e w' ⟨rfl,rfl⟩;rw[P.out])
    go_round
    case rel=>exact⟨k+1,by omega,by go_num,fun j hj=>by
     rcases Nat.lt_succ_iff_lt_or_eq.1 hj with h|rfl
     ·exact HN.out j h
     rw[X.out];exact P.out⟩
    case measure=>simp[intOf];omega
  have e:k=l.length:=by omega
  subst e;go_wp2;go_ret;exact⟨ret_i (fidx_pre a0I l 0 hn).symm,rfl⟩
theorem aao(v:Value)(l:List Int)(w:World)(hv:IntsAt w v l):
  Calls Tryz.prog 306 #[v,.func (.func 307) #[] #[]] w fun e w'=>e= .returned (.bool (l.any a0I))/\w=w':=by
 have E:=hid (fidx_any a0I l);go_enter Tryz.func306,Tryz.ntmps306;go_wp2_with (go_at_call 313;refine(abi _ _ _ hv).mono ?_;rintro e w' ⟨rfl,rfl⟩)
 go_ret;exact⟨by rw[<-E.out];rfl,rfl⟩
def cvl(t:List Int):Bool:=betw 1 t.length 8&& !t.any a0I
structure Cvl(t:List Int):Prop where
 lo:1<=t.length
 hi:t.length<=8
 holds:∀n∈t,0<=n/\n<=1000
theorem a9a(t:List Int):cvl t=true↔Cvl t:=by
 unfold cvl;rw[Bool.and_eq_true,betw_iff];constructor
 ·rintro⟨h,k⟩;refine⟨by omega,by omega,fun n hn=>?_⟩;simp only[Bool.not_eq_true',List.any_eq_false]at k;have:=k n hn;simpa [a0I,betw]using this
 rintro⟨h1,h2,h3⟩;refine⟨by omega,?_⟩;simp only[Bool.not_eq_true',List.any_eq_false];intro n hn;have:=h3 n hn;simp[a0I,betw,this]
theorem valid_any(v:Value)(t:List Int)(w:World)(hv:IntsAt w v t):
  Calls Tryz.prog 298 #[v] w fun e w'=>e= .returned (.bool (cvl t))/\w=w':=by
 unfold cvl;obtain⟨a,cap,rfl,hr⟩:=id hv;have hv':IntsAt w (.slice a t.length cap) t:=hv;clear hv;cases hb:betw 1 t.length 8 with
 |true=>
  have B:=hid hb;clear hb;go_enter Tryz.func298,Tryz.ntmps298;go_wp2_with (first|(go_at_call 299;refine(between_any _ _ _ _).mono ?_;rintro e w' ⟨rfl,rfl⟩;rw[B.out])|(go_at_call 306;refine(aao _ _ _ hv').mono ?_;rintro e w' ⟨rfl,rfl⟩))
  go_ret;exact⟨rfl,rfl⟩
 |false=>
  have B:=hid hb;clear hb;go_enter Tryz.func298,Tryz.ntmps298;go_wp2_with (first|(go_at_call 299;refine(between_any _ _ _ _).mono ?_;rintro e w' ⟨rfl,rfl⟩;rw[B.out]))
  go_ret;exact⟨rfl,rfl⟩
theorem aj6{t:List Int}{k:Nat}(hk:k<t.length)(h:a0I (t.getD k 0)=true):cvl t=false:=by
 unfold cvl;have:t.any a0I=true:=List.any_eq_true.2 ⟨_,by rw[List.getD_eq_getElem?_getD,List.getElem?_eq_getElem hk];simp,h⟩;rw[this];simp
theorem ahJ{t:List Int}(h:∀j,j<t.length->a0I (t.getD j 0)=false):cvl t=betw 1 t.length 8:=by
 unfold cvl
 have:t.any a0I=false:=List.any_eq_false.2 fun x hx=>by
  obtain⟨i,hi,rfl⟩:=List.getElem_of_mem hx;have:=h i hi;rw[List.getD_eq_getElem?_getD,List.getElem?_eq_getElem hi]at this;simpa using this
 rw[this];simp
theorem ahK{t:List Int}(h:8<t.length):cvl t=betw 1 t.length 8:=by
 unfold cvl;have:betw 1 t.length 8=false:=by simp[betw];omega
 rw[this];rfl
theorem rValid_any(v:Value)(t:List Int)(w:World)(hv:IntsAt w v t):
  Calls Tryz.prog 242 #[v] w fun e w'=>e= .returned (.bool (cvl t))/\w=w':=by
 obtain⟨a,cap,rfl,hl,hq⟩:=hv;go_enter Tryz.func242,Tryz.ntmps242;go_wp2;go_loop [3] (fun i=>∃k:Nat,k<=t.length/\k<=9/\i= .int .i64 k/\∀j,j<k->a0I (t.getD j 0)=false) (fun i=>t.length-(intOf i).toNat)
 case atStart=>exact⟨0,Nat.zero_le _,by omega,rfl,fun j hj=>by omega⟩
 case round=>
  obtain⟨k,hk,hk9,rfl,hn⟩:=hrel;have HN:=hid hn;clear hn;by_cases hlt:k<t.length/\k<=8
  ·obtain⟨hlt,h4⟩:=hlt;obtain⟨b,off,rfl,hc⟩:=hq (by omega);have hcell:=hc k hlt;clear hc hq;generalize hx:t.getD k 0=x at hcell;have X:=hid hx;clear hx;cases hp:betw 0 x 1000 with
   | true=>
    have P:=hid hp;clear hp;go_wp2_with (go_at_call 217;refine(a1H _ _ _ _).mono ?_;rintro e w' ⟨rfl,rfl⟩;rw[P.out])
    go_round
    case rel=>exact⟨k+1,by omega,by omega,by go_num,fun j hj=>by
     rcases Nat.lt_succ_iff_lt_or_eq.1 hj with h|rfl
     ·exact HN.out j h
     rw[X.out];unfold a0I;rw[P.out];rfl⟩
    case measure=>simp[intOf];omega
   |false=>
    have P:=hid hp;clear hp;have E:=hid (aj6 hlt (show a0I (t.getD k 0)=true by rw[X.out];unfold a0I;rw[P.out];rfl));go_wp2_with (go_at_call 217;refine(a1H _ _ _ _).mono ?_;rintro e w' ⟨rfl,rfl⟩;rw[P.out])
    go_ret;exact⟨ret_b E.out.symm,rfl⟩
  have E:Hid (cvl t=betw 1 t.length 8):=hid (by
   by_cases h4:8<t.length
   ·exact ahK h4
   exact ahJ (fun j hj=>HN.out j (by omega)))
  by_cases hlt2:k<t.length
  ·have h5:¬k<=8:=fun h=>hlt ⟨hlt2,h⟩;clear hlt;go_wp2_with (go_at_call 217;refine(a1H _ _ _ _).mono ?_;rintro e w' ⟨rfl,rfl⟩)
   go_ret;exact⟨ret_b E.out.symm,rfl⟩
  have e:k=t.length:=by omega
  subst e;clear hlt;go_wp2_with (go_at_call 217;refine(a1H _ _ _ _).mono ?_;rintro e w' ⟨rfl,rfl⟩)
  go_ret;exact⟨ret_b E.out.symm,rfl⟩
theorem ints_cell{w:World}{v:Value}{l:List Int}(h:IntsAt w v l)(h0:0<l.length):
  ∃b off cap,v= .slice (some ⟨b,off,none⟩) l.length cap/\∀j,j<l.length->w.cell? ⟨b,off+j,none⟩=some (.int .i64 (l.getD j 0)):=by
 obtain⟨a,cap,rfl,_,hq⟩:=h;obtain⟨b,off,rfl,hc⟩:=hq h0;exact⟨b,off,cap,rfl,hc⟩
def tot(c:List Int):Int:=c.foldl (· + ·) 0
theorem a7w{c:List Int}{k:Nat}(hk:k<c.length):tot (c.take (k+1))=tot (c.take k)+c.getD k 0:=by
 rw[List.take_succ_eq_append_getElem hk,tot,List.foldl_append,List.getD_eq_getElem?_getD,List.getElem?_eq_getElem hk];rfl
theorem a0V{t:List Int}{k:Nat}(hk:k<t.length):t.getD k 0∈t:=by
 rw[List.getD_eq_getElem?_getD,List.getElem?_eq_getElem hk];simp
theorem a4S{c:List Int}(h:Cvl c):∀k,k<=c.length->0<=tot (c.take k)/\tot (c.take k)<=1000 * k
 |0,_=>by simp[tot]
 |k+1,hk=>by
  have ih:=a4S h k (by omega);have:=h.holds _ (a0V (show k<c.length by omega));rw[a7w (by omega)];omega
theorem a49(v:Value)(c:List Int)(w:World)(hv:IntsAt w v c)(ht:Cvl c):
  Calls Tryz.prog 294 #[v] w fun e w'=>e= .returned (.int .i64 (tot c))/\w=w':=by
 obtain⟨b,off,cap,rfl,hc⟩:=ints_cell hv (by have:=ht.lo;omega);have hhi:=ht.hi;clear hv;go_enter Tryz.func294,Tryz.ntmps294;go_wp2;go_loop [3,8] (fun s i=>∃k:Nat,k<=c.length/\i= .int .i64 k/\s= .int .i64 (tot (c.take k))) (fun _ i=>c.length-(intOf i).toNat)
 case atStart=>exact⟨0,Nat.zero_le _,rfl,rfl⟩
 case round=>
  obtain⟨k,hk,rfl,rfl⟩:=hrel;by_cases hlt:k<c.length
  ·have hcell:=hc k hlt;have E:=hid (a7w hlt);have b1:=a4S ht k hk;have b2:=ht.holds _ (a0V hlt);generalize c.getD k 0=x at *;generalize tot (c.take k)=s at *;clear hc;go_wp2;go_round
   case rel=>exact⟨k+1,by omega,by go_num,by rw[E.out]⟩
   case measure=>simp[intOf];omega
  have e:k=c.length:=by omega
  subst e;go_wp2;go_ret;exact⟨ret_i (by first|rfl|rw[List.take_length]),rfl⟩
theorem a2o(v:Value)(c:List Int)(w:World)(hv:IntsAt w v c)(ht:Cvl c):
  Calls Tryz.prog 132 #[v] w fun e w'=>e= .returned (.int .i64 (tot c))/\w=w':=by
 obtain⟨b,off,cap,rfl,hc⟩:=ints_cell hv (by have:=ht.lo;omega);have hhi:=ht.hi;clear hv;go_enter Tryz.func132,Tryz.ntmps132;go_wp2;go_loop [3,4] (fun s i=>∃k:Nat,k<=c.length/\i= .int .i64 k/\s= .int .i64 (tot (c.take k))) (fun _ i=>c.length-(intOf i).toNat)
 case atStart=>exact⟨0,Nat.zero_le _,rfl,rfl⟩
 case round=>
  obtain⟨k,hk,rfl,rfl⟩:=hrel;by_cases hlt:k<c.length
  ·have hcell:=hc k hlt;have E:=hid (a7w hlt);have b1:=a4S ht k hk;have b2:=ht.holds _ (a0V hlt);generalize c.getD k 0=x at *;generalize tot (c.take k)=s at *;clear hc;go_wp2;go_round
   case rel=>exact⟨k+1,by omega,by go_num,by rw[E.out]⟩
   case measure=>simp[intOf];omega
  have e:k=c.length:=by omega
  subst e;go_wp2;go_ret;exact⟨ret_i (by first|rfl|rw[List.take_length]),rfl⟩
def askE(c:List Int)(n:Int):Int:=if cvl c then (if betw 0 n (tot c)then 0 else 2)else 80
theorem a2a(v:Value)(c:List Int)(n:Int)(w:World)(hv:IntsAt w v c):
  Calls Tryz.prog 295 #[v,.int .i64 n] w fun e w'=>e= .returned (.int .i64 (askE c n))/\w=w':=by
 unfold askE;cases hy:cvl c with
 |false=>
  have Y:=hid hy;clear hy;go_enter Tryz.func295,Tryz.ntmps295;go_wp2_with fail
  refine(valid_any _ _ _ hv).mono ?_
  rintro e w' ⟨rfl,rfl⟩;rw[Y.out];go_wp2;go_ret;exact⟨rfl,rfl⟩
 | true=>
  have ht:=(a9a c).1 hy
  have Y:=hid hy;clear hy;cases hb:betw 0 n (tot c)with
  |false=>
   have B:=hid hb;clear hb;go_enter Tryz.func295,Tryz.ntmps295;go_wp2_with fail
   refine(valid_any _ _ _ hv).mono ?_
   rintro e w' ⟨rfl,rfl⟩;rw[Y.out];go_wp2_with fail
   refine(a49 _ _ _ hv ht).mono ?_
   rintro e w' ⟨rfl,rfl⟩;go_wp2_with fail
   refine(between_any _ _ _ _).mono ?_
   rintro e w' ⟨rfl,rfl⟩;rw[B.out];go_wp2;go_ret;exact⟨rfl,rfl⟩
  |true=>
   have B:=hid hb;clear hb;go_enter Tryz.func295,Tryz.ntmps295;go_wp2_with fail
   refine(valid_any _ _ _ hv).mono ?_
   rintro e w' ⟨rfl,rfl⟩;rw[Y.out];go_wp2_with fail
   refine(a49 _ _ _ hv ht).mono ?_
   rintro e w' ⟨rfl,rfl⟩;go_wp2_with fail
   refine(between_any _ _ _ _).mono ?_
   rintro e w' ⟨rfl,rfl⟩;rw[B.out];go_wp2;go_ret;exact⟨rfl,rfl⟩
theorem rasked_any(v:Value)(c:List Int)(n:Int)(w:World)(hv:IntsAt w v c):
  Calls Tryz.prog 216 #[v,.int .i64 n] w fun e w'=>e= .returned (.int .i64 (askE c n))/\w=w':=by
 unfold askE;cases hy:cvl c with
 |false=>
  have Y:=hid hy;clear hy;go_enter Tryz.func216,Tryz.ntmps216;go_wp2_with fail
  refine(rValid_any _ _ _ hv).mono ?_
  rintro e w' ⟨rfl,rfl⟩;rw[Y.out];go_wp2;go_ret;exact⟨rfl,rfl⟩
 | true=>
  have ht:=(a9a c).1 hy
  have Y:=hid hy;clear hy;cases hb:betw 0 n (tot c)with
  |false=>
   have B:=hid hb;clear hb;go_enter Tryz.func216,Tryz.ntmps216;go_wp2_with fail
   refine(rValid_any _ _ _ hv).mono ?_
   rintro e w' ⟨rfl,rfl⟩;rw[Y.out];go_wp2_with fail
   refine(a2o _ _ _ hv ht).mono ?_
   rintro e w' ⟨rfl,rfl⟩;go_wp2_with fail
   refine(a1H _ _ _ _).mono ?_
   rintro e w' ⟨rfl,rfl⟩;rw[B.out];go_wp2;go_ret;exact⟨rfl,rfl⟩
  |true=>
   have B:=hid hb;clear hb;go_enter Tryz.func216,Tryz.ntmps216;go_wp2_with fail
   refine(rValid_any _ _ _ hv).mono ?_
   rintro e w' ⟨rfl,rfl⟩;rw[Y.out];go_wp2_with fail
   refine(a2o _ _ _ hv ht).mono ?_
   rintro e w' ⟨rfl,rfl⟩;go_wp2_with fail
   refine(a1H _ _ _ _).mono ?_
   rintro e w' ⟨rfl,rfl⟩;rw[B.out];go_wp2;go_ret;exact⟨rfl,rfl⟩
end Go.Proofs.YtdfkaijeppdhaaaGreatDoor.Fd
namespace Go.Proofs.YtdfkaijeppdhaaaGreatDoor.Fd
abbrev Rat2:=Int×Int
end Go.Proofs.YtdfkaijeppdhaaaGreatDoor.Fd
namespace Go.Proofs.YtdfkaijeppdhaaaGreatDoor.Fd
open Go.RowKit
def RatsAt(w:World)(v:Value)(l:List Rat2):Prop:=
 ∃ (a:Option Addr) (cap:Nat),v= .slice a l.length cap/\(l.length<=9223372036854775807/\l.length<=cap)/\
  (0<l.length->∃b off,a=some ⟨b,off,none⟩/\∀j,j<l.length->w.cell? ⟨b,off+j * 2,none⟩=some (.int .i64 (l.getD j (0,0)).1)/\
   w.cell? ⟨b,off+j * 2+1,none⟩=some (.int .i64 (l.getD j (0,0)).2))
theorem RatsAt.below{w w':World}{v:Value}{l:List Rat2}(h:RatsAt w v l)(hb:Below w.heap.size w w'):RatsAt w' v l:=by
 obtain⟨a,cap,rfl,hl,h⟩:=h;refine⟨a,cap,rfl,hl,fun h0=>?_⟩;obtain⟨b,off,ha,hc⟩:=h h0;exact⟨b,off,ha,fun j hj=>⟨keep_cell hb (hc j hj).1,keep_cell hb (hc j hj).2⟩⟩
theorem a9J{w:World}{v:Value}{l:List Rat2}(h:RatsAt w v l)(h0:0<l.length):
  ∃b off cap,l.length<=cap/\v= .slice (some ⟨b,off,none⟩) l.length cap/\∀j,j<l.length->w.cell? ⟨b,off+j * 2,none⟩=some (.int .i64 (l.getD j (0,0)).1)/\w.cell? ⟨b,off+j * 2+1,none⟩=some (.int .i64 (l.getD j (0,0)).2):=by
 obtain⟨a,cap,rfl,hl,hq⟩:=h;obtain⟨b,off,rfl,hc⟩:=hq h0;exact⟨b,off,cap,hl.2,rfl,hc⟩
theorem a1I{l:List Rat2}{k:Nat}(hk:k<l.length):l.getD k (0,0)∈l:=by
 rw[List.getD_eq_getElem?_getD,List.getElem?_eq_getElem hk];simp
end Go.Proofs.YtdfkaijeppdhaaaGreatDoor.Fd
namespace Go.Proofs.YtdfkaijeppdhaaaGreatDoor.Fd
def red(n d:Int):Rat2:=(rn n d,rd n d)
theorem ag8{n d:Int}(h:1<=d):0<(Int.gcd n d:Int):=by
 have:Int.gcd n d≠0:=fun h0=>by
  rw[Int.gcd_eq_zero_iff]at h0;omega
 omega
theorem a1k(n d:Int)(h:1<=d):∃g:Int,1<=g/\n=g * (red n d).1/\d=g * (red n d).2/\1<=(red n d).2/\Int.gcd (red n d).1 (red n d).2=1:=by
 have hg:=ag8 (n:=n) h;have e1:(Int.gcd n d:Int) * rn n d=n:=Int.mul_ediv_cancel' (Int.gcd_dvd_left _ _);have e2:(Int.gcd n d:Int) * rd n d=d:=Int.mul_ediv_cancel' (Int.gcd_dvd_right _ _);refine⟨_,hg,e1.symm,e2.symm,?_,?_⟩
 ·refine Int.not_lt.1 fun hlt=>?_;have:(Int.gcd n d:Int) * rd n d<=0:=Int.mul_nonpos_of_nonneg_of_nonpos (by omega) (by show rd n d<=0;unfold red at hlt;simp only at hlt;omega);omega
 have:=Int.gcd_ediv_gcd_ediv_gcd (i:=n) (j:=d) (by omega);exact this
theorem ad2(n d:Int)(h:1<=d):(red n d).1 * d=n * (red n d).2:=by
 obtain⟨g,_,h1,h2,_,_⟩:=a1k n d h;generalize (red n d).1=a at *
 generalize (red n d).2=b at *
 subst h1 h2;rw[Int.mul_left_comm,Int.mul_assoc]
theorem ahL{a b q:Int}(hq:1<=q)(h:a * q=b * q):a=b:=Int.eq_of_mul_eq_mul_right (by omega) h
theorem a9K{a b c:Int}(h:a ∣ b * c)(hg:Int.gcd a b=1):a ∣ c:=by
 rw[<-Int.natAbs_dvd_natAbs]at h⊢;rw[Int.natAbs_mul]at h;exact Nat.Coprime.dvd_of_dvd_mul_left hg h
theorem ae8{a b a' b':Int}(hb:1<=b)(hb':1<=b')(h1:Int.gcd a b=1)(h2:Int.gcd a' b'=1)(h:a * b'=a' * b):a=a'/\b=b':=by
 have d1:b ∣ b':=by
  exact a9K (b:=a) ⟨a',by rw[h,Int.mul_comm]⟩ (by rwa[Int.gcd_comm])
 have d2:b' ∣ b:=by
  exact a9K (b:=a') ⟨a,by rw[<-h,Int.mul_comm]⟩ (by rwa[Int.gcd_comm])
 have e:b=b':=Int.dvd_antisymm (by omega) (by omega) d1 d2;subst e;exact⟨ahL hb h,rfl⟩
theorem a8s{n d n' d':Int}(h:1<=d)(h':1<=d')(e:n * d'=n' * d):red n d=red n' d':=by
 obtain⟨g,hg,h1,h2,h3,h4⟩:=a1k n d h;obtain⟨g',hg',k1,k2,k3,k4⟩:=a1k n' d' h'
 have key:(red n d).1 * (red n' d').2=(red n' d').1 * (red n d).2:=by
  generalize (red n d).1=a at *
  generalize (red n d).2=b at *
  generalize (red n' d').1=a' at *
  generalize (red n' d').2=b' at *
  subst h1 h2 k1 k2
  have:(a * b') * (g * g')=(a' * b) * (g * g'):=by
   rw[show g * a * (g' * b')=(a * b') * (g * g') by
    rw[Int.mul_comm g a,Int.mul_assoc,Int.mul_left_comm g g' b',<-Int.mul_assoc g' g b',Int.mul_comm (g' * g) b',Int.mul_comm g' g,Int.mul_assoc],
    show g' * a' * (g * b)=(a' * b) * (g * g') by
    rw[Int.mul_comm g' a',Int.mul_assoc,Int.mul_left_comm g' g b,<-Int.mul_assoc g g' b,Int.mul_comm (g * g') b,Int.mul_assoc]]at e
   exact e
  exact Int.eq_of_mul_eq_mul_right (by have:=Int.mul_pos (show 0<g by omega) (show 0<g' by omega);omega) this
 obtain⟨a,b⟩:=ae8 h3 k3 h4 k4 key;exact Prod.ext a b
theorem a9b(x:Int):red x 1=(x,1):=by
 unfold red rn rd;rw[Int.gcd_one_right];simp
theorem a9L(x q:Int)(hq:1<=q):red (x * q) q=(x,1):=by
 rw[<-a9b x];exact a8s hq (by omega) (by rw[Int.mul_one])
theorem red_le{n d m k:Int}(h:1<=d):(red n d).1 * k<=m * (red n d).2↔n * k<=m * d:=by
 obtain⟨g,hg,h1,h2,h3,_⟩:=a1k n d h;generalize (red n d).1=a at *
 generalize (red n d).2=b at *
 subst h1 h2;rw[Int.mul_assoc,Int.mul_left_comm m g b];constructor
 ·intro h;exact Int.mul_le_mul_of_nonneg_left h (by omega)
 intro h;exact Int.le_of_mul_le_mul_left h (by omega)
def sumf(f:Int->Int):List Int->Int
 |[]=>0
 |x::l=>f x+sumf f l
theorem ahM(c:List Int):∀s,c.foldl (· + ·) s=s+sumf id c:=by
 induction c with
 |nil=>intro s;simp[sumf]
 |cons x l ih=>intro s;simp only[List.foldl_cons,sumf,id];rw[ih];omega
theorem a4f(c:List Int):tot c=sumf id c:=by
 unfold tot;rw[ahM];omega
theorem a9M{f:Int->Int}{a b:List Int}(h:a.Perm b):sumf f a=sumf f b:=by
 induction h with
 |nil=>rfl
 |cons x _ ih=>simp only[sumf,ih]
 |swap x y l=>simp only[sumf];omega
 |trans _ _ h1 h2=>exact h1.trans h2
theorem ad3{f g:Int->Int}:∀{l:List Int},(∀x∈l,f x<=g x)->sumf f l<=sumf g l
 |[],_=>Int.le_refl _
 |x::l,h=>by
  have h1:=h x (by simp);have h2:=ad3 (l:=l) (fun y hy=>h y (by simp[hy]));simp only[sumf];omega
theorem a8t{f g:Int->Int}:∀{l:List Int},(∀x∈l,f x<=g x)->sumf f l=sumf g l->∀x∈l,f x=g x
 |[],_,_=>fun x hx=>by simp at hx
 |x::l,h,e=>by
  have h1:=h x (by simp);have h2:=ad3 (l:=l) (fun y hy=>h y (by simp[hy]));simp only[sumf]at e;have e1:f x=g x:=by omega
  have ih:=a8t (l:=l) (fun y hy=>h y (by simp[hy])) (by omega);intro y hy;rcases List.mem_cons.1 hy with rfl|hy
  ·exact e1
  exact ih y hy
theorem a5t{f g:Int->Int}:∀{l:List Int},(∀x∈l,f x=g x)->sumf f l=sumf g l
 |[],_=>rfl
 |x::l,h=>by
  simp only[sumf];rw[h x (by simp),a5t (l:=l) (fun y hy=>h y (by simp[hy]))]
theorem a5u(f:Int->Int)(q:Int):∀l:List Int,sumf (fun x=>f x * q) l=sumf f l * q
 |[]=>by simp[sumf]
 |x::l=>by simp only[sumf];rw[a5u f q l,Int.add_mul]
theorem a4g(f g:Int->Int):∀l:List Int,sumf (fun x=>f x-g x) l=sumf f l-sumf g l
 |[]=>by simp[sumf]
 |x::l=>by simp only[sumf];rw[a4g f g l];omega
theorem a8u(k:Int):∀l:List Int,sumf (fun _=>k) l=k * l.length
 |[]=>by simp[sumf]
 |x::l=>by
  simp only[sumf];rw[a8u k l,List.length_cons];have:((l.length+1:Nat):Int)=l.length+1:=by omega
  rw[this,Int.mul_add];omega
def cap(p q x:Int):Int:=min (x * q) p
structure IsLev(c:List Int)(e p q:Int):Prop where
 hq:1<=q
 sum:sumf (cap p q) c=e * q
theorem ag9{c:List Int}{e p q p' q':Int}(h:IsLev c e p q)(h':IsLev c e p' q')(hle:p * q'<=p' * q):∀x∈c,cap p q x * q'=cap p' q' x * q:=by
 have hq:=h.hq;have hq':=h'.hq;refine a8t (fun x _=>?_) ?_
 ·unfold cap
  have e1:min (x * q) p * q'=min (x * q * q') (p * q'):=by
   rcases Int.le_total (x * q) p with h|h
   ·rw[Int.min_eq_left h,Int.min_eq_left (Int.mul_le_mul_of_nonneg_right h (by omega))]
   rw[Int.min_eq_right h,Int.min_eq_right (Int.mul_le_mul_of_nonneg_right h (by omega))]
  have e2:min (x * q') p' * q=min (x * q * q') (p' * q):=by
   rw[Int.mul_right_comm];rcases Int.le_total (x * q') p' with h|h
   ·rw[Int.min_eq_left h,Int.min_eq_left (Int.mul_le_mul_of_nonneg_right h (by omega))]
   rw[Int.min_eq_right h,Int.min_eq_right (Int.mul_le_mul_of_nonneg_right h (by omega))]
  rw[e1,e2];omega
 rw[a5u,a5u,h.sum,h'.sum,Int.mul_right_comm]
theorem ae9{c:List Int}{e p q p' q':Int}(h:IsLev c e p q)(h':IsLev c e p' q'):∀x∈c,cap p q x * q'=cap p' q' x * q:=by
 rcases Int.le_total (p * q') (p' * q)with hle|hle
 ·exact ag9 h h' hle
 exact fun x hx=>(ag9 h' h hle x hx).symm
def levA(c:List Int)(p q:Int):List Rat2:=c.map fun x=>red (cap p q x) q
theorem aj7{c:List Int}{e p q p' q':Int}(h:IsLev c e p q)(h':IsLev c e p' q'):levA c p q=levA c p' q':=by
 unfold levA;refine List.map_congr_left fun x hx=>a8s h.hq h'.hq (ae9 h h' x hx)
def a0e:List Int->Int->Int×Int
 |[],_=>(0,1)
 |x::l,e=>if e<=x * ((l.length:Int)+1)then (e,(l.length:Int)+1)else a0e l (e-x)
theorem a7x(l:List Int):∀e,1<=(a0e l e).2:=by
 induction l with
 |nil=>intro e;simp[a0e]
 |cons x l ih=>
  intro e;unfold a0e;split
  ·simp only;omega
  exact ih _
theorem aga(l:List Int):∀(e x:Int),(∀y∈l,x<=y)->x * l.length<=e->l≠[]->e<=sumf id l->x * (a0e l e).2<=(a0e l e).1:=by
 induction l with
 |nil=>intro e x _ _ h;exact absurd rfl h
 | cons y l ih=>
  intro e x hx he _ hs;rw[List.length_cons,show (((l.length+1:Nat)):Int)=(l.length:Int)+1 by omega]at he;unfold a0e;split
  ·exact he
  rename_i h
  have hxy:=hx y (by simp);have h1:x * l.length<=y * l.length:=Int.mul_le_mul_of_nonneg_right hxy (by omega);rw[Int.mul_add]at h;simp only[sumf,id]at hs
  have hne:l≠[]:=by
   rintro rfl;simp[sumf]at h hs;omega
  exact ih (e-y) x (fun z hz=>hx z (by simp[hz])) (by omega) hne (by omega)
theorem aea(l:List Int):∀e,l.Pairwise (· <= ·)->l≠[]->e<=sumf id l->IsLev l e (a0e l e).1 (a0e l e).2:=by
 induction l with
 |nil=>intro e _ h;exact absurd rfl h
 | cons x l ih=>
  intro e hp _ hs;rw[List.pairwise_cons]at hp;refine⟨a7x _ _,?_⟩;unfold a0e;split
  ·rename_i h
   simp only
   have:sumf (cap e ((l.length:Int)+1)) (x::l)=sumf (fun _=>e) (x::l):=a5t fun y hy=>by
    have hxy:x<=y:=by
     rcases List.mem_cons.1 hy with rfl|hy
     ·exact Int.le_refl _
     exact hp.1 y hy
    have h1:x * ((l.length:Int)+1)<=y * ((l.length:Int)+1):=Int.mul_le_mul_of_nonneg_right hxy (by omega);unfold cap;omega
   rw[this,a8u,List.length_cons];congr 1
  rename_i h
  simp only[sumf,id]at hs;rw[Int.mul_add]at h
  have hne:l≠[]:=by
   rintro rfl;simp[sumf]at h hs;omega
  have hi:=ih (e-x) hp.2 hne (by omega);have hg:=aga l (e-x) x hp.1 (by omega) hne (by omega);have hsum:=hi.sum;generalize (a0e l (e-x)).1=p at *
  generalize (a0e l (e-x)).2=q at *
  simp only[sumf];rw[hsum,Int.sub_mul];unfold cap;omega
def eqW(c:List Int)(e:Int):List Rat2:=levA c (a0e (c.mergeSort (fun a b=>decide (a<=b))) e).1 (a0e (c.mergeSort (fun a b=>decide (a<=b))) e).2
theorem a3J(c:List Int):(c.mergeSort (fun a b=>decide (a<=b))).Perm c:=List.mergeSort_perm _ _
theorem aco(c:List Int):(c.mergeSort (fun a b=>decide (a<=b))).Pairwise (· <= ·):=by
 have:=List.pairwise_mergeSort (le:=fun a b:Int=>decide (a<=b)) (by intro a b c h1 h2;simp at *;omega) (by intro a b;simp;omega) c;exact this.imp (by simp)
theorem ahN{a b:List Int}(h:a.Perm b){e p q:Int}(k:IsLev a e p q):IsLev b e p q:=⟨k.hq,by rw[<-a9M h];exact k.sum⟩
theorem a9c{c:List Int}(e:Int)(h0:c≠[])(hs:e<=tot c):IsLev c e (a0e (c.mergeSort (fun a b=>decide (a<=b))) e).1 (a0e (c.mergeSort (fun a b=>decide (a<=b))) e).2:=by
 have hp:=a3J c;refine ahN hp (aea _ e (aco c) ?_ ?_)
 ·intro h;have:=hp.length_eq;rw[h]at this;exact h0 (List.eq_nil_of_length_eq_zero this.symm)
 rw[a9M hp,<-a4f];exact hs
theorem agb{c:List Int}{e p q:Int}(h0:c≠[])(hs:e<=tot c)(h:IsLev c e p q):levA c p q=eqW c e:=aj7 h (a9c e h0 hs)
theorem aj8{p q x:Int}(hq:1<=q)(h:x * (red p q).2<(red p q).1):red (cap p q x) q=(x,1):=by
 obtain⟨g,hg,h1,h2,h3,_⟩:=a1k p q hq;generalize (red p q).1=a at *
 generalize (red p q).2=b at *
 subst h1 h2
 have:x * (g * b)<=g * a:=by
  rw[Int.mul_left_comm];exact Int.mul_le_mul_of_nonneg_left (by omega) (by omega)
 unfold cap;rw[Int.min_eq_left this];exact a9L x _ hq
theorem aj9{p q x:Int}(hq:1<=q)(h:¬x * (red p q).2<(red p q).1):red (cap p q x) q=red p q:=by
 obtain⟨g,hg,h1,h2,h3,_⟩:=a1k p q hq
 have:p<=x * q:=by
  generalize (red p q).1=a at *
  generalize (red p q).2=b at *
  subst h1 h2;rw[Int.mul_left_comm];exact Int.mul_le_mul_of_nonneg_left (by omega) (by omega)
 unfold cap;rw[Int.min_eq_right this]
theorem a6o(l:List Int):∀e,(∀x∈l,0<=x)->0<=e->0<=(a0e l e).1/\(a0e l e).1<=e/\(a0e l e).2<=l.length+1:=by
 induction l with
 |nil=>intro e _ h;simp[a0e];omega
 |cons x l ih=>
  intro e hx he;unfold a0e;split
  ·simp;omega
  rename_i h
  have h0:=hx x (by simp);have h1:x * 1<=x * ((l.length:Int)+1):=Int.mul_le_mul_of_nonneg_left (by omega) h0;have:=ih (e-x) (fun y hy=>hx y (by simp[hy])) (by omega);rw[List.length_cons];omega
theorem a8v{n d B:Int}(h:1<=d)(h1: -B<=n)(h2:n<=B): -B<=(red n d).1/\(red n d).1<=B/\1<=(red n d).2/\(red n d).2<=d:=by
 obtain⟨g,hg,e1,e2,h3,_⟩:=a1k n d h;generalize (red n d).1=a at *
 generalize (red n d).2=b at *
 subst e1 e2;have hb:1 * b<=g * b:=Int.mul_le_mul_of_nonneg_right hg (by omega);rcases Int.le_total 0 a with ha|ha
 ·have:1 * a<=g * a:=Int.mul_le_mul_of_nonneg_right hg ha;omega
 have:1 * (-a)<=g * (-a):=Int.mul_le_mul_of_nonneg_right hg (by omega);rw[Int.mul_neg g a]at this;omega
theorem a6P{n d:Int}(h:1<=d)(h1:0<=n):0<=(red n d).1/\(red n d).1<=n:=by
 obtain⟨g,hg,e1,e2,h3,_⟩:=a1k n d h;generalize (red n d).1=a at *
 rcases Int.le_total 0 a with ha|ha
 ·have:1 * a<=g * a:=Int.mul_le_mul_of_nonneg_right hg ha;omega
 have:1 * (-a)<=g * (-a):=Int.mul_le_mul_of_nonneg_right hg (by omega);rw[Int.mul_neg g a]at this;omega
def a0l(l:List Rat2):List Rat2:=l.map fun x=>red x.1 (2 * x.2)
def a0U(c:List Int)(l:List Rat2):List Rat2:=List.zipWith (fun x y=>red (x * y.2-y.1) y.2) c l
def a1a(c:List Int)(e:Int):List Rat2:=c.map fun x=>red (x * e) (max 1 (tot c))
def shareL(c:List Int)(e r:Int):List Rat2:=
 if r=1 then a1a c e else if r=2 then eqW c e else if r=3 then a0U c (eqW c (tot c-e))
 else if 2 * e>tot c then a0U c (a0l (eqW c (2 * (tot c-e))))else a0l (eqW c (2 * e))
theorem ad4{f:Int->Rat2}{g:Int->Rat2->Rat2}:∀c:List Int,List.zipWith g c (c.map f)=c.map fun x=>g x (f x)
 |[]=>rfl
 |x::l=>by simp only[List.map_cons,List.zipWith_cons_cons];rw[ad4 l]
theorem ahO{x n d:Int}(hd:1<=d):red (x * (red n d).2-(red n d).1) (red n d).2=red (x * d-n) d:=by
 obtain⟨g,hg,h1,h2,h3,_⟩:=a1k n d hd;have:=ad2 n d hd;refine a8s h3 hd ?_;rw[Int.sub_mul,Int.sub_mul,this,Int.mul_right_comm]
theorem ahP{n d:Int}(hd:1<=d):red (red n d).1 (2 * (red n d).2)=red n (2 * d):=by
 obtain⟨g,hg,h1,h2,h3,_⟩:=a1k n d hd;have:=ad2 n d hd;refine a8s (by omega) (by omega) ?_;rw[Int.mul_left_comm,this,Int.mul_left_comm n 2]
theorem a5v(c:List Int)(f:Int->Int){q:Int}(hq:1<=q):a0U c (c.map fun x=>red (f x) q)=c.map fun x=>red (x * q-f x) q:=by
 unfold a0U;rw[ad4];exact List.map_congr_left fun x _=>ahO hq
theorem a5w(c:List Int)(f:Int->Int){q:Int}(hq:1<=q):a0l (c.map fun x=>red (f x) q)=c.map fun x=>red (f x) (2 * q):=by
 unfold a0l;rw[List.map_map];exact List.map_congr_left fun x _=>ahP hq
structure Shr(c:List Int)(e:Int)(l:List Rat2)(f:Int->Int)(Q:Int):Prop where
 hQ:1<=Q
 hQ2:Q<=8000
 aw:l=c.map fun x=>red (f x) Q
 sum:sumf f c=e * Q
 lo:∀x∈c,0<=f x
 hi:∀x∈c,f x<=x * Q
 mono:∀x∈c,∀y∈c,x<=y->f x<=f y/\x * Q-f x<=y * Q-f y
theorem a2b(c:List Int)(q:Int):sumf (fun x=>x * q) c=tot c * q:=by
 rw[a4f,<-a5u];rfl
theorem a4T{c:List Int}{e:Int}(h0:c≠[])(hc:∀x∈c,0<=x)(hn:c.length<=8)(he:0<=e)(hs:e<=tot c):∃p q:Int,IsLev c e p q/\0<=p/\q<=9/\eqW c e=c.map fun x=>red (cap p q x) q:=by
 have h:=a9c e h0 hs;have hp:=a3J c;have hb:=a6o (c.mergeSort (fun a b=>decide (a<=b))) e (fun x hx=>hc x (hp.mem_iff.1 hx)) he;have hl:=hp.length_eq;exact⟨_,_,h,hb.1,by omega,rfl⟩
theorem a0f{p q x y:Int}(hq:1<=q)(hp:0<=p)(hx:0<=x)(hxy:x<=y):0<=cap p q x/\cap p q x<=x * q/\cap p q x<=cap p q y/\x * q-cap p q x<=y * q-cap p q y:=by
 have h1:0<=x * q:=Int.mul_nonneg hx (by omega);have h2:x * q<=y * q:=Int.mul_le_mul_of_nonneg_right hxy (by omega);unfold cap;omega
theorem agc{c:List Int}{e r:Int}(h0:c≠[])(hc:∀x∈c,0<=x)(hn:c.length<=8)(ht:tot c<=8000)(he:0<=e)(hs:e<=tot c):∃f Q,Shr c e (shareL c e r) f Q:=by
 unfold shareL;split
 ·refine⟨fun x=>x * e,max 1 (tot c),by omega,by omega,rfl,?_,fun x hx=>Int.mul_nonneg (hc x hx) he,fun x hx=>?_,fun x hx y hy hxy=>?_⟩
  ·rw[a2b,Int.mul_comm e];by_cases h:1<=tot c
   ·rw[Int.max_eq_right h]
   have:e=0:=by omega
   rw[this];simp
  ·exact Int.mul_le_mul_of_nonneg_left (by omega) (hc x hx)
  refine⟨Int.mul_le_mul_of_nonneg_right hxy he,?_⟩;rw[<-Int.mul_sub,<-Int.mul_sub];exact Int.mul_le_mul_of_nonneg_right hxy (by omega)
 split
 ·obtain⟨p,q,hl,hp,hq9,e1⟩:=a4T h0 hc hn he hs;have hq:=hl.hq;exact⟨cap p q,q,hq,by omega,e1,hl.sum,fun x hx=>(a0f hq hp (hc x hx) (Int.le_refl x)).1,fun x hx=>(a0f hq hp (hc x hx) (Int.le_refl x)).2.1,fun x hx y _ hxy=>(a0f hq hp (hc x hx) hxy).2.2⟩
 split
 ·obtain⟨p,q,hl,hp,hq9,e1⟩:=a4T (e:=tot c-e) h0 hc hn (by omega) (by omega);have hq:=hl.hq;refine⟨fun x=>x * q-cap p q x,q,hq,by omega,by rw[e1,a5v c _ hq],?_,fun x hx=>?_,fun x hx=>?_,fun x hx y _ hxy=>?_⟩
  ·rw[a4g,a2b,hl.sum,Int.sub_mul];omega
  ·have:=(a0f hq hp (hc x hx) (Int.le_refl x)).2.1;omega
  ·have:=(a0f hq hp (hc x hx) (Int.le_refl x)).1;omega
  have:=(a0f hq hp (hc x hx) hxy).2.2
  have h2:x * q<=y * q:=Int.mul_le_mul_of_nonneg_right hxy (by omega);omega
 split
 ·obtain⟨p,q,hl,hp,hq9,e1⟩:=a4T (e:=2 * (tot c-e)) h0 hc hn (by omega) (by omega);have hq:=hl.hq;refine⟨fun x=>x * (2 * q)-cap p q x,2 * q,by omega,by omega,by rw[e1,a5w c _ hq,a5v c _ (by omega)],?_,fun x hx=>?_,fun x hx=>?_,fun x hx y _ hxy=>?_⟩
  ·rw[a4g,a2b,hl.sum,Int.mul_left_comm (tot c) 2 q,Int.mul_left_comm e 2 q,Int.mul_assoc,Int.sub_mul];omega
  ·have:=(a0f hq hp (hc x hx) (Int.le_refl x)).2.1
   have h1:0<=x * q:=Int.mul_nonneg (hc x hx) (by omega);rw[Int.mul_left_comm];omega
  ·have:=(a0f hq hp (hc x hx) (Int.le_refl x)).1;omega
  have:=(a0f hq hp (hc x hx) hxy).2.2
  have h2:x * q<=y * q:=Int.mul_le_mul_of_nonneg_right hxy (by omega);rw[Int.mul_left_comm x,Int.mul_left_comm y];omega
 obtain⟨p,q,hl,hp,hq9,e1⟩:=a4T (e:=2 * e) h0 hc hn (by omega) (by omega);have hq:=hl.hq;refine⟨cap p q,2 * q,by omega,by omega,by rw[e1,a5w c _ hq],?_,fun x hx=>(a0f hq hp (hc x hx) (Int.le_refl x)).1,fun x hx=>?_,fun x hx y _ hxy=>?_⟩
 ·rw[hl.sum,Int.mul_left_comm e 2 q,Int.mul_assoc]
 ·have:=(a0f hq hp (hc x hx) (Int.le_refl x)).2.1
  have h1:0<=x * q:=Int.mul_nonneg (hc x hx) (by omega);rw[Int.mul_left_comm];omega
 have:=(a0f hq hp (hc x hx) hxy).2.2
 have h2:x * q<=y * q:=Int.mul_le_mul_of_nonneg_right hxy (by omega);rw[Int.mul_left_comm x,Int.mul_left_comm y];omega
end Go.Proofs.YtdfkaijeppdhaaaGreatDoor.Fd
