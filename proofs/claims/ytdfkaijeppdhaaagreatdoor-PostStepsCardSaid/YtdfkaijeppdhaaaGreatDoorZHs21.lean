/- Part of the proof. -/
import Derived.Test.YtdfkaijeppdhaaaGreatDoorZHs20
import Derived.Test.YtdfkaijeppdhaaaGreatDoorZHs05
set_option maxRecDepth 100000
set_option maxHeartbeats 8000000
set_option linter.unusedSimpArgs false
set_option linter.unusedVariables false

namespace Go.Proofs.YtdfkaijeppdhaaaGreatDoor
open Lib (hid)
open Proofs.Tryz Go.RowKit Go.Shelf
theorem afp(w:World):
  Calls prog 235 #[.agg #[.int .i64 1,.int .i64 1]] w fun e w'=>e= .returned (.bool true)/\Below w.heap.size w w':=by
 have HB:Hid (∀W,Calls prog 252 #[.int .i64 1,.int .i64 1,.int .i64 9] W fun e w'=>e= .returned (.bool true)/\w'=W):=hid (fun W=>by
  go_enter func252,ntmps252;go_wp2;go_ret;exact⟨rfl,rfl⟩)
 go_enter func235,ntmps235;go_wp2_with (first|(go_at_call 252;refine(HB.out _).mono ?_;rintro e w1 ⟨rfl,rfl⟩)|fail)
 go_ret;exact⟨rfl,(aoi _ _).alloc (aof _) _⟩
def ah2(s t:ByteArray):Value:=.agg #[.string s,.string t,.int .i64 1,.int .i64 1]
def ah3:Value:=.agg #[.string ⟨#[]⟩,.string ⟨#[]⟩,.int .i64 0,.int .i64 0]
def a4q(s t:ByteArray):Bool:=a2b s&&a2b t
theorem afq(s t:ByteArray)(hs:s.size<=1000000)(ht:t.size<=1000000)(w:World):
  Calls prog 198 #[.string s,.string t,.agg #[.int .i64 1,.int .i64 1]] w fun e w'=>e= .returned (.tuple #[if a4q s t then ah2 s t else ah3,.int .i64 (if a4q s t then 0 else 90)])/\Below w.heap.size w w':=by
 have HS:=hid (fun W=>a6s s W hs);have HT:=hid (fun W=>a6s t W ht);have HC:=hid afp;have HV:=hid (fun W (x:ByteArray) (hx:x.size<=1000000)=>a6s x W hx);clear HS HT;unfold a4q ah2 ah3;obtain⟨w1,hw1⟩:∃w1,w1=(w.alloc (.cells #[.int .i64 1,.int .i64 1] 176)).alloc (.cells #[.string ⟨#[]⟩,.string ⟨#[]⟩,.int .i64 0,.int .i64 0] 253):=⟨_,rfl⟩
 have hb1:Below w.heap.size w w1:=by rw[hw1];exact((aoi _ w).alloc (aof _) _).alloc oz _
 have HW1:=hid hw1;have HB1:=hid hb1;have HZ1:Hid (w1.heap.size=w.heap.size+2):=hid (by rw[hw1];simp)
 have HE1:Hid (w1.heap[w.heap.size]? =some (.cells #[.int .i64 1,.int .i64 1] 176 (0,0))):=hid (by
  rw[hw1];exact(aop _ _ _ oz).trans (World.alloc_heap_new w _))
 have HE2:Hid (w1.heap[w.heap.size+1]? =some (.cells #[.string ⟨#[]⟩,.string ⟨#[]⟩,.int .i64 0,.int .i64 0] 253 (0,0))):=hid (by
  have:=World.alloc_heap_new (w.alloc (.cells #[.int .i64 1,.int .i64 1] 176)) (.cells #[.string ⟨#[]⟩,.string ⟨#[]⟩,.int .i64 0,.int .i64 0] 253);rw[aoq]at this;rw[hw1];exact this)
 clear hw1 hb1;cases h1:a2b s with
 |false=>
  have H1:=hid h1;clear h1;simp only[Bool.false_and,Bool.false_eq_true,if_false];go_enter func198,ntmps198;go_upto_region 1 with fail
  rw[<-HW1.out];go_upto_region 2 with(first|(go_at_call 234;refine(HV.out _ _ hs).mono ?_;rintro e W2 ⟨rfl,hb2⟩;rw[H1.out])|fail)
  have HB2:=hid hb2;clear hb2;have hsz:w.heap.size+2<=W2.heap.size:=by have:=HB2.out.size;have:=HZ1.out;omega
  have hh:=(HB2.out.block _ (by have:=HZ1.out;omega)).trans HE2.out
  have c0:W2.cell? ⟨w.heap.size+1,0,none⟩=some (.string ⟨#[]⟩):=heap_cell (j:=0) hh rfl;have c1:W2.cell? ⟨w.heap.size+1,1,none⟩=some (.string ⟨#[]⟩):=heap_cell (j:=1) hh rfl;have c2:W2.cell? ⟨w.heap.size+1,2,none⟩=some (.int .i64 0):=heap_cell (j:=2) hh rfl;have c3:W2.cell? ⟨w.heap.size+1,3,none⟩=some (.int .i64 0):=heap_cell (j:=3) hh rfl;have f0:W2.frozen? ⟨w.heap.size+1,0,none⟩=false:=by simp[World.frozen?,hh]
  have f1:W2.frozen? ⟨w.heap.size+1,1,none⟩=false:=by simp[World.frozen?,hh]
  have f2:W2.frozen? ⟨w.heap.size+1,2,none⟩=false:=by simp[World.frozen?,hh]
  have f3:W2.frozen? ⟨w.heap.size+1,3,none⟩=false:=by simp[World.frozen?,hh]
  have HBW:=hid (HB1.out.trans (HB2.out.mono HB1.out.size));have hk:=(HB2.out.block _ (by have:=HZ1.out;omega)).trans HE1.out
  have d0:=heap_cell (j:=0) hk rfl;have d1:=heap_cell (j:=1) hk rfl;go_wp2;refine bodyPost_ret (v:=.tuple #[.agg #[.string ⟨#[]⟩,.string ⟨#[]⟩,.int .i64 0,.int .i64 0],.int .i64 90]) (by simp[results,results198,go_sem,c0,c1,c2,c3]) rfl ⟨rfl,?_⟩;exact(((HBW.out.setCell (p:=⟨w.heap.size+1,0,none⟩) (aoS _) _).setCell (p:=⟨w.heap.size+1,1,none⟩) (aoS _) _).setCell (p:=⟨w.heap.size+1,2,none⟩) (aoS _) _).setCell (p:=⟨w.heap.size+1,3,none⟩) (aoS _) _
 | true=>
  have H1:=hid h1;clear h1;cases h2:a2b t with
  |false=>
   have H2:=hid h2;clear h2;simp only[Bool.and_false,Bool.false_eq_true,if_false];go_enter func198,ntmps198;go_upto_region 1 with fail
   rw[<-HW1.out];go_upto_region 2 with(first|(go_at_call 234;refine(HV.out _ _ (by assumption)).mono ?_;rintro e W2 ⟨rfl,hb2⟩;first|(rw[H1.out];have HBA:=hid hb2;clear hb2)|(rw[H2.out];have HB2:=hid (below_trans HBA.out hb2);clear hb2))|fail)
   have hsz:w.heap.size+2<=W2.heap.size:=by have:=HB2.out.size;have:=HZ1.out;omega
   have hh:=(HB2.out.block _ (by have:=HZ1.out;omega)).trans HE2.out
   have c0:W2.cell? ⟨w.heap.size+1,0,none⟩=some (.string ⟨#[]⟩):=heap_cell (j:=0) hh rfl;have c1:W2.cell? ⟨w.heap.size+1,1,none⟩=some (.string ⟨#[]⟩):=heap_cell (j:=1) hh rfl;have c2:W2.cell? ⟨w.heap.size+1,2,none⟩=some (.int .i64 0):=heap_cell (j:=2) hh rfl;have c3:W2.cell? ⟨w.heap.size+1,3,none⟩=some (.int .i64 0):=heap_cell (j:=3) hh rfl;have f0:W2.frozen? ⟨w.heap.size+1,0,none⟩=false:=by simp[World.frozen?,hh]
   have f1:W2.frozen? ⟨w.heap.size+1,1,none⟩=false:=by simp[World.frozen?,hh]
   have f2:W2.frozen? ⟨w.heap.size+1,2,none⟩=false:=by simp[World.frozen?,hh]
   have f3:W2.frozen? ⟨w.heap.size+1,3,none⟩=false:=by simp[World.frozen?,hh]
   have HBW:=hid (HB1.out.trans (HB2.out.mono HB1.out.size));have hk:=(HB2.out.block _ (by have:=HZ1.out;omega)).trans HE1.out
   have d0:=heap_cell (j:=0) hk rfl;have d1:=heap_cell (j:=1) hk rfl;go_wp2;refine bodyPost_ret (v:=.tuple #[.agg #[.string ⟨#[]⟩,.string ⟨#[]⟩,.int .i64 0,.int .i64 0],.int .i64 90]) (by simp[results,results198,go_sem,c0,c1,c2,c3]) rfl ⟨rfl,?_⟩;exact(((HBW.out.setCell (p:=⟨w.heap.size+1,0,none⟩) (aoS _) _).setCell (p:=⟨w.heap.size+1,1,none⟩) (aoS _) _).setCell (p:=⟨w.heap.size+1,2,none⟩) (aoS _) _).setCell (p:=⟨w.heap.size+1,3,none⟩) (aoS _) _
  |true=>
   have H2:=hid h2;clear h2;simp only[Bool.and_self,if_true];go_enter func198,ntmps198;go_upto_region 1 with fail
   rw[<-HW1.out];go_upto_region 3 with(first|(go_at_call 234;refine(HV.out _ _ (by assumption)).mono ?_;rintro e W3 ⟨rfl,hb2⟩;first|(rw[H1.out];have HBA:=hid hb2;clear hb2)|(rw[H2.out];have HBC:=hid (below_trans HBA.out hb2);clear hb2))|fail)
   have hk3:=(HBC.out.block _ (by have:=HZ1.out;omega)).trans HE1.out
   have e0:=heap_cell (j:=0) hk3 rfl;have e1:=heap_cell (j:=1) hk3 rfl;go_upto_region 5 with(first|(go_at_call 235;refine(HC.out _).mono ?_;rintro e W2 ⟨rfl,hb4⟩;have HB2:=hid (below_trans HBC.out hb4);clear hb4)|fail)
   have hsz:w.heap.size+2<=W2.heap.size:=by have:=HB2.out.size;have:=HZ1.out;omega
   have hh:=(HB2.out.block _ (by have:=HZ1.out;omega)).trans HE2.out
   have c0:W2.cell? ⟨w.heap.size+1,0,none⟩=some (.string ⟨#[]⟩):=heap_cell (j:=0) hh rfl;have c1:W2.cell? ⟨w.heap.size+1,1,none⟩=some (.string ⟨#[]⟩):=heap_cell (j:=1) hh rfl;have c2:W2.cell? ⟨w.heap.size+1,2,none⟩=some (.int .i64 0):=heap_cell (j:=2) hh rfl;have c3:W2.cell? ⟨w.heap.size+1,3,none⟩=some (.int .i64 0):=heap_cell (j:=3) hh rfl;have f0:W2.frozen? ⟨w.heap.size+1,0,none⟩=false:=by simp[World.frozen?,hh]
   have f1:W2.frozen? ⟨w.heap.size+1,1,none⟩=false:=by simp[World.frozen?,hh]
   have f2:W2.frozen? ⟨w.heap.size+1,2,none⟩=false:=by simp[World.frozen?,hh]
   have f3:W2.frozen? ⟨w.heap.size+1,3,none⟩=false:=by simp[World.frozen?,hh]
   have HBW:=hid (HB1.out.trans (HB2.out.mono HB1.out.size));have hk:=(HB2.out.block _ (by have:=HZ1.out;omega)).trans HE1.out
   have d0:=heap_cell (j:=0) hk rfl;have d1:=heap_cell (j:=1) hk rfl;go_wp2;refine bodyPost_ret (v:=.tuple #[.agg #[.string s,.string t,.int .i64 1,.int .i64 1],.int .i64 0]) (by simp[results,results198,go_sem,c0,c1,c2,c3]) rfl ⟨rfl,?_⟩;exact(((HBW.out.setCell (p:=⟨w.heap.size+1,0,none⟩) (aoS _) _).setCell (p:=⟨w.heap.size+1,1,none⟩) (aoS _) _).setCell (p:=⟨w.heap.size+1,2,none⟩) (aoS _) _).setCell (p:=⟨w.heap.size+1,3,none⟩) (aoS _) _
end Go.Proofs.YtdfkaijeppdhaaaGreatDoor
namespace Go.Proofs.YtdfkaijeppdhaaaGreatDoor.Td
open Go.RowKit
def IntsAt(w:World)(v:Value)(l:List Int):Prop:=
 ∃(a:Option Addr) (cap:Nat),v= .slice a l.length cap/\l.length<=9223372036854775807/\
  (0<l.length->∃b off,a=some ⟨b,off,none⟩/\∀j,j<l.length->w.cell? ⟨b,off+j,none⟩=some (.int .i64 (l.getD j 0)))
def RowsAt(w:World)(v:Value)(t:List (List Int)):Prop:=
 ∃(a:Option Addr) (cap:Nat),v= .slice a t.length cap/\t.length<=9223372036854775807/\
  (0<t.length->∃b off,a=some ⟨b,off,none⟩/\∀i,i<t.length->∃x,w.cell? ⟨b,off+i,none⟩=some x/\IntsAt w x (t.getD i []))
theorem keep_cell{w w':World}(hb:Below w.heap.size w w'){a:Addr}{v:Value}(h:w.cell? a=some v):w'.cell? a=some v:=
 (hb.cell (World.block_lt_of_cell? _ _ h)).trans h
theorem IntsAt.below{w w':World}{v:Value}{l:List Int}(h:IntsAt w v l)(hb:Below w.heap.size w w'):IntsAt w' v l:=by
 obtain⟨a,cap,rfl,hl,h⟩:=h;refine⟨a,cap,rfl,hl,fun h0=>?_⟩;obtain⟨b,off,ha,hc⟩:=h h0;exact⟨b,off,ha,fun j hj=>keep_cell hb (hc j hj)⟩
theorem RowsAt.below{w w':World}{v:Value}{t:List (List Int)}(h:RowsAt w v t)(hb:Below w.heap.size w w'):RowsAt w' v t:=by
 obtain⟨a,cap,rfl,hl,h⟩:=h;refine⟨a,cap,rfl,hl,fun h0=>?_⟩;obtain⟨b,off,ha,hc⟩:=h h0;refine⟨b,off,ha,fun i hi=>?_⟩;obtain⟨x,hx,hi⟩:=hc i hi;exact⟨x,keep_cell hb hx,hi.below hb⟩
theorem below_trans{a b c:World}(h:Below a.heap.size a b)(k:Below b.heap.size b c):Below a.heap.size a c:=h.trans (k.mono h.size)
theorem belowN0{B:Nat}{a w:World}(h:Below B a w)(q:Nat):Below B a (w.drewN q):=⟨h.os,h.tape,h.output,h.size,h.block⟩
theorem RowsAt.drewN{w:World}{v:Value}{t:List (List Int)}(h:RowsAt w v t)(n:Nat):RowsAt (w.drewN n) v t:=h.below (belowN0 (aoi _ _) n)
theorem own_cells{W:World}{base:Nat}{e:TypeId}{v:Value}{n:Nat}{xs:List Value}(h:W.ownsRow base e 1 v n xs):
  ∃(a:Option Addr) (cap:Nat),v= .slice a n cap/\(0<n->∃b off,a=some ⟨b,off,none⟩/\∀j,j<n->W.cell? ⟨b,off+j,none⟩=some (xs.getD j undef)):=by
 have hx:=h.1;rcases h.2 with⟨rfl,rfl⟩|⟨g,cap,cur,rfl,hrest⟩
 ·exact⟨none,0,rfl,fun h0=>om⟩
 refine⟨some ⟨g,0,none⟩,cap,rfl,fun h0=>⟨g,0,rfl,fun j hj=>?_⟩⟩;rw[ap5,h.cellAt j om,aoh,aoj om];rfl
theorem own_ints{W:World}{base:Nat}{e:TypeId}{v:Value}{l:List Int}(h:W.ownsRow base e 1 v l.length (l.map (Value.int .i64)))(hl:l.length<=9223372036854775807):IntsAt W v l:=by
 obtain⟨a,cap,rfl,hq⟩:=own_cells h;refine⟨a,cap,rfl,hl,fun h0=>?_⟩;obtain⟨b,off,rfl,hc⟩:=hq h0;clear hq;refine⟨b,off,rfl,fun j hj=>?_⟩;rw[hc j hj];simp[aoh,hj]
theorem ae0{W:World}{base:Nat}{e:TypeId}{v:Value}{t:List (List Int)}{xs:List Value}(h:W.ownsRow base e 1 v t.length xs)(hl:t.length<=9223372036854775807)
  (hx:∀i,i<t.length->IntsAt W (xs.getD i undef) (t.getD i [])):RowsAt W v t:=by
 obtain⟨a,cap,rfl,hq⟩:=own_cells h;refine⟨a,cap,rfl,hl,fun h0=>?_⟩;obtain⟨b,off,rfl,hc⟩:=hq h0;clear hq;exact⟨b,off,rfl,fun j hj=>⟨_,hc j hj,hx j hj⟩⟩
theorem below_append{B:Nat}{w wr w1:World}{e:TypeId}{size:Nat}{v:Value}{n:Nat}{xs:List Value}{o:Obj}(hB:Below B w wr)(hs:B<=wr.heap.size)(hown:wr.ownsRow B e size v n xs)
  (hg:(wr.alloc o).grownBy w1 v.ownBlock):Below B w w1:=
 (hB.alloc hs o).grown hg km (fun k e=>(hown.lt k e).1)
theorem a2n{α:Type}(xs:List α)(x d:α){i:Nat}(h:i<xs.length):(xs++[x]).getD i d=xs.getD i d:=by
 simp[aoh,apn h]
theorem a2o{α:Type}(xs:List α)(x d:α):(xs++[x]).getD xs.length d=x:=by
 simp[aoh]
end Go.Proofs.YtdfkaijeppdhaaaGreatDoor.Td
namespace Go.Proofs.YtdfkaijeppdhaaaGreatDoor.Td
def acc(f:Int->Int)(a:Int):Nat->Int
 |0=>0
 |n+1=>acc f a n+f (a+n)
def Per(f:Int->Int)(p:Int):Prop:=∀h,f (h+p)=f h
theorem ag0(f:Int->Int)(a:Int)(n m:Nat):acc f a (n+m)=acc f a n+acc f (a+n) m:=by
 induction m with
 |zero=>simp[acc]
 |succ m ih=>
  rw[show n+(m+1)=(n+m)+1 from rfl];simp only[acc];rw[ih,show a+((n+m:Nat):Int)=a+n+m from by omega];omega
theorem ajv(f:Int->Int)(a:Int)(n:Nat):acc f a (n+1)=f a+acc f (a+1) n:=by
 rw[show n+1=1+n from Nat.add_comm _ _,ag0];simp[acc]
theorem acc_bound(f:Int->Int)(B:Int)(hf:∀h, -B<=f h/\f h<=B)(a:Int)(n:Nat): -(B * n)<=acc f a n/\acc f a n<=B * n:=by
 induction n with
 |zero=>simp[acc]
 |succ n ih=>
  have h1:=hf (a+n);have e:B * ((n+1:Nat):Int)=B * n+B:=by rw[Int.natCast_add,Int.mul_add];simp
  simp only[acc];omega
theorem Per.neg{f:Int->Int}{p:Int}(h:Per f p):Per f (-p):=fun x=>by
 have:=h (x+ -p);rw[show x+ -p+p=x from by omega]at this;exact this.symm
theorem Per.add{f:Int->Int}{p q:Int}(h:Per f p)(k:Per f q):Per f (p+q):=fun x=>by
 rw[<-Int.add_assoc,k,h]
theorem Per.zero(f:Int->Int):Per f 0:=fun x=>by rw[Int.add_zero]
theorem Per.mulNat{f:Int->Int}{p:Int}(h:Per f p)(n:Nat):Per f (n * p):=by
 induction n with
 |zero=>simpa using Per.zero f
 |succ n ih=>
  rw[Int.natCast_add,apS];simpa using ih.add h
theorem Per.mul{f:Int->Int}{p:Int}(h:Per f p)(n:Int):Per f (n * p):=by
 rcases Int.le_total 0 n with hn|hn
 ·obtain⟨k,rfl⟩:=aoH hn;exact h.mulNat k
 obtain⟨k,hk⟩:=aoH (show 0<= -n by omega);have:=(h.mulNat k).neg
 rw[<-hk,Int.neg_mul,Int.neg_neg]at this;exact this
theorem Per.dvd{f:Int->Int}{p q:Int}(h:Per f p)(hd:p ∣ q):Per f q:=by
 obtain⟨c,rfl⟩:=hd;rw[aps];exact h.mul c
theorem Per.mod{f:Int->Int}{p:Int}(h:Per f p)(x:Int):f (x % p)=f x:=by
 have:=h.mul (x / p) (x % p);rw[<-this,Int.emod_add_ediv_mul x p]
theorem ah4{f:Int->Int}{r:Nat}(h:Per f r)(a:Int):acc f (a+1) r=acc f a r:=by
 have h1:=ajv f a r;simp only[acc]at h1;rw[h]at h1;omega
theorem a8p{f:Int->Int}{r:Nat}(h:Per f r)(a:Int)(k:Nat):acc f (a+k) r=acc f a r:=by
 induction k with
 |zero=>simp
 |succ k ih=>rw[<-ih,<-ah4 h (a+k)];congr 1;omega
theorem ajw{f:Int->Int}{r:Nat}(h:Per f r)(a b:Int):acc f a r=acc f b r:=by
 rcases Int.le_total a b with hab|hab
 ·obtain⟨k,hk⟩:=aoH (show 0<=b-a by omega);rw[show b=a+k from om,a8p h]
 obtain⟨k,hk⟩:=aoH (show 0<=a-b by omega);rw[show a=b+k from om,a8p h]
theorem ah5{f:Int->Int}{r:Nat}(h:Per f r)(a:Int)(q s:Nat):acc f a (q * r+s)=q * acc f 0 r+acc f a s:=by
 induction q with
 |zero=>simp
 |succ q ih=>
  have e:(q+1) * r+s=(q * r+s)+r:=by rw[aq7];omega
  rw[e,ag0,ih,ajw h (a+((q * r+s:Nat):Int)) 0,show ((q+1:Nat):Int)=(q:Int)+1 from rfl,apS];omega
theorem ajx{f:Int->Int}{r:Nat}(h:Per f r)(a:Int)(n:Nat):((n / r:Nat):Int) * acc f 0 r+acc f a (n % r)=acc f a n:=by
 rw[<-ah5 h];congr 1;rw[aq9];exact Nat.div_add_mod n r
def a42(f:Int->Int)(r b:Nat):Bool:=(List.range r).all fun h=>f h==f ((h:Int)+b)
def btFrom(f:Int->Int)(r:Nat):Nat->Nat->Nat
 |0,_=>r
 |n+1,b=>if r % b=0/\a42 f r b=true then b else btFrom f r n (b+1)
def bt(f:Int->Int)(r:Nat):Nat:=btFrom f r (r-1) 1
def wat(l:List Int)(h:Int):Int:=l.getD (h % (l.length:Int)).toNat 0
def spd(t:List (List Int))(h:Int):Int:=(t.map (wat · h)).sum
def rnd(t:List (List Int)):Nat:=t.foldl (fun r l=>Nat.lcm r l.length) 1
def a43(l:List Int):Bool:=decide (1<=l.length)&&decide (l.length<=12)&&l.all fun n=>decide (-100<=n)&&decide (n<=100)
def vld(t:List (List Int)):Bool:=decide (1<=t.length)&&decide (t.length<=4)&&t.all a43
structure Vld(t:List (List Int)):Prop where
 lo:1<=t.length
 hi:t.length<=4
 wave:∀l∈t,1<=l.length/\l.length<=12/\∀n∈l, -100<=n/\n<=100
theorem a2p(l:List Int):a43 l=true↔1<=l.length/\l.length<=12/\∀n∈l, -100<=n/\n<=100:=by
 simp[a43,and_assoc]
theorem vld_iff(t:List (List Int)):vld t=true↔Vld t:=by
 simp only[vld,Bool.and_eq_true,decide_eq_true_eq,ap6,a2p];exact⟨fun h=>⟨h.1.1,h.1.2,h.2⟩,fun h=>⟨⟨h.lo,h.hi⟩,h.wave⟩⟩
theorem a8q{l:List Int}(h:∀n∈l, -100<=n/\n<=100)(x:Int): -100<=wat l x/\wat l x<=100:=by
 unfold wat;rw[aoh];cases e:l[(x % (l.length:Int)).toNat]? with
 |none=>simp
 |some y=>simpa using h y (List.mem_of_getElem? e)
theorem amT(l:List Int):Per (wat l) l.length:=fun x=>by
 unfold wat;rw[Int.add_emod_right]
theorem amU(h:Int):spd [] h=0:=rfl
theorem a7k(l:List Int)(t:List (List Int))(h:Int):spd (l::t) h=wat l h+spd t h:=by simp[spd]
theorem ah6(t u:List (List Int))(h:Int):spd (t++u) h=spd t h+spd u h:=by simp[spd]
theorem a6a:∀(t:List (List Int)),(∀l∈t,∀n∈l, -100<=n/\n<=100)->∀h, -(100 * (t.length:Int))<=spd t h/\spd t h<=100 * t.length
 |[],_,h=>by simp[spd]
 |l::t,ht,h=>by
  have h1:=a8q (ht l oz) h;have h2:=a6a t (fun l hl=>ht l (by simp[hl])) h;rw[a7k,aom];omega
theorem Vld.bd{t:List (List Int)}(h:Vld t)(x:Int): -400<=spd t x/\spd t x<=400:=by
 have h1:=a6a t (fun l hl=>(h.wave l hl).2.2) x;have:=h.hi;omega
theorem a5K:∀(t:List (List Int)) (r:Nat),0<r->(∀l∈t,1<=l.length)->0<t.foldl (fun r l=>Nat.lcm r l.length) r
 |[],r,h,_=>h
 |l::t,r,h,ht=>a5K t _ (Nat.lcm_pos h (ht l oz)) (fun l hl=>ht l (by simp[hl]))
theorem a8r:∀(t:List (List Int)) (r:Nat),r ∣ t.foldl (fun r l=>Nat.lcm r l.length) r/\∀l∈t,l.length ∣ t.foldl (fun r l=>Nat.lcm r l.length) r
 |[],r=>⟨Nat.dvd_refl _,by simp⟩
 |l::t,r=>by
  obtain⟨h1,h2⟩:=a8r t (Nat.lcm r l.length);refine⟨Nat.dvd_trans (Nat.dvd_lcm_left _ _) h1,fun m hm=>?_⟩;rcases aov.1 hm with rfl|hm
  ·exact Nat.dvd_trans (Nat.dvd_lcm_right _ _) h1
  exact h2 m hm
theorem a4G:∀(t:List (List Int)) (r n:Nat),r ∣ n->(∀l∈t,l.length ∣ n)->t.foldl (fun r l=>Nat.lcm r l.length) r ∣ n
 |[],r,n,h,_=>h
 |l::t,r,n,h,ht=>a4G t _ n (Nat.lcm_dvd h (ht l oz)) (fun m hm=>ht m (by simp[hm]))
theorem Vld.rnd_pos{t:List (List Int)}(h:Vld t):0<rnd t:=a5K t 1 om (fun l hl=>(h.wave l hl).1)
theorem ae1{n:Nat}(h1:1<=n)(h2:n<=12):n ∣ 27720:=by
 have:∀m,m<12->(m+1) ∣ 27720:=by decide
 have:=this (n-1) om;rwa[show n-1+1=n from by omega]at this
theorem Vld.rnd_all{t:List (List Int)}(h:Vld t):rnd t ∣ 27720:=
 a4G t 1 27720 (Nat.one_dvd _) (fun l hl=>ae1 (h.wave l hl).1 (h.wave l hl).2.1)
theorem Vld.rnd_le{t:List (List Int)}(h:Vld t):rnd t<=27720:=Nat.le_of_dvd om h.rnd_all
theorem aaN{n:Nat}:∀(t:List (List Int)),(∀l∈t,l.length ∣ n)->Per (spd t) n
 |[],_=>fun x=>rfl
 |l::t,h=>fun x=>by
  rw[a7k,a7k,aaN t (fun m hm=>h m (by simp[hm])) x,(amT l).dvd (Int.ofNat_dvd.2 (h l oz)) x]
theorem ag1(t:List (List Int)):Per (spd t) (rnd t:Nat):=aaN t (a8r t 1).2
end Go.Proofs.YtdfkaijeppdhaaaGreatDoor.Td
