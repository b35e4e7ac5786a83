/- Part of the proof. -/
import Derived.Test.YtdfkaijeppdhaaaGreatDoorZHs15
set_option maxRecDepth 100000
set_option maxHeartbeats 8000000
set_option linter.unusedSimpArgs false
set_option linter.unusedVariables false

namespace Go.Proofs.YtdfkaijeppdhaaaGreatDoor
open Lib (hid)
open Proofs.Tryz Go.RowKit Go.Shelf
theorem acS:∀(r:List UInt8) (s:List (List UInt8)×List UInt8),∃t,(r.foldl a3l s).1=s.1++t
 |[],s=>⟨[],by simp⟩
 |b::r,s=>by
  obtain⟨t,ht⟩:=acS r (a3l s b);rw[apv,ht];unfold a3l;by_cases hb:(b==10)=true
  ·rw[if_pos hb];exact⟨[s.2]++t,by simp⟩
  rw[if_neg hb];exact⟨t,rfl⟩
theorem ai9(l r:List UInt8):∃t,(a1D (l++r)).1=(a1D l).1++t:=by
 unfold a1D;rw[apl];exact acS r _
structure RfIs(w:World)(P:Nat)(vs:Nat->Value)(b:a00):Prop where
 cells:w.heap[P]? =some (.cells #[.int .i64 0,vs 0,vs 1,vs 2,vs 3] 54 (0,0))
 list:∀i,i<4->ListAt w (vs i) (b i)
 high:∀i,i<4->∀g,(vs i).ownBlock=some g->P<g
 apart:∀i j,i<4->j<4->i≠j->∀g,(vs i).ownBlock=some g->(vs j).ownBlock≠some g
theorem RfIs.lt{w:World}{P:Nat}{vs:Nat->Value}{b:a00}(h:RfIs w P vs b):P<w.heap.size:=(aog.1 h.cells).1
theorem RfIs.at{w:World}{P:Nat}{vs:Nat->Value}{b:a00}(h:RfIs w P vs b)(hok:a02 b):RfAt w P 0 vs b:=⟨h.cells,fun i hi=>(h.list i hi).ents (by have:=(hok i hi).len;omega)⟩
theorem RfIs.below{w w':World}{P:Nat}{vs:Nat->Value}{b:a00}(h:RfIs w P vs b)(hb:Below w.heap.size w w'):RfIs w' P vs b:=
 ⟨(hb.block _ h.lt).trans h.cells,fun i hi=>(h.list i hi).keep fun k hk=>hb.block k ((h.list i hi).lt hk),h.high,h.apart⟩
theorem RfIs.cell{w:World}{P:Nat}{vs:Nat->Value}{b:a00}(h:RfIs w P vs b){i:Nat}(hi:i<4):w.cell? ⟨P,1+i,none⟩=some (vs i):=by
 rcases (show i=0\/i=1\/i=2\/i=3 by omega)with rfl|rfl|rfl|rfl<;>exact heap_cell h.cells rfl
theorem RfIs.slice{w:World}{P:Nat}{vs:Nat->Value}{b:a00}(h:RfIs w P vs b){p:Nat}(hp:p<4):∃a cap,vs p= .slice a (b p).length cap:=own_shape (h.list p hp)
theorem RfIs.next{P p:Nat}{vs:Nat->Value}{b:a00}{e:Ent}{W5 W6 W7:World}{v':Value}(h:RfIs W5 P vs b)(hp:p<4)(hx6:Below W5.heap.size W5 W6)(hR:AppKeeps (vs p) (b p) e W6 v' W7):
  RfIs (W7.setCell ⟨P,1+p,none⟩ v') P (a1m vs p v') (a0H b p e)/\(W7.cell? ⟨P,1+p,none⟩=some (vs p)/\W7.frozen? ⟨P,1+p,none⟩=false)/\∀n,n<=P->Below n W5 (W7.setCell ⟨P,1+p,none⟩ v'):=by
 have hPlt:=h.lt;have h56:=hx6.size;have h67:=hR.grown.size;have hne:∀i,i<4->∀g,(vs i).ownBlock=some g->g≠P:=fun i hi g hg e=>by have:=h.high i hi g hg;omega
 have hP7:W7.heap[P]? =some (.cells #[.int .i64 0,vs 0,vs 1,vs 2,vs 3] 54 (0,0)):=(hR.grown.block P om (fun e2=>hne p hp P e2.symm rfl)).trans ((hx6.block P hPlt).trans h.cells)
 have hset:∀k,k≠P->(W7.setCell ⟨P,1+p,none⟩ v').heap[k]? =W7.heap[k]? :=fun k hk=>aok _ _ _ k hk
 have hgk:∀g,v'.ownBlock=some g->P<g:=fun g hg=>by
  rcases hR.own with h1|⟨g',h1,h2⟩
  ·rw[h1]at hg;exact h.high p hp g hg
  rw[h1]at hg;injection hg with hg;omega
 refine⟨⟨?_,fun i hi=>?_,fun i hi g hg=>?_,fun i j hi hj hij g hg=>?_⟩,⟨?_,?_⟩,fun n hn=>?_⟩
 ·rw[a5H hP7];congr 1;unfold a1m;rcases (show p=0\/p=1\/p=2\/p=3 by omega)with rfl|rfl|rfl|rfl<;>simp
 ·by_cases hip:i=p
  ·subst hip;rw[a0D];unfold a0H;rw[a3n];exact hR.new.keep fun k hk=>hset k (by have:=hgk k hk;omega)
  rw[a0m _ _ hip];unfold a0H;rw[a2U _ _ hip];refine(h.list i hi).keep fun k hk=>?_
  have hklt:=(h.list i hi).lt hk
  exact(hset k (hne i hi k hk)).trans ((hR.grown.block k om (fun e2=>h.apart i p hi hp hip k hk e2.symm)).trans (hx6.block k hklt))
 ·by_cases hip:i=p
  ·subst hip;rw[a0D]at hg;exact hgk g hg
  rw[a0m _ _ hip]at hg;exact h.high i hi g hg
 ·have hnew:∀i,i<4->i≠p->∀g,(vs i).ownBlock=some g->v'.ownBlock≠some g:=fun i hi hip g hg h2=>by
   rcases hR.own with h1|⟨g',h1,h3⟩
   ·rw[h1]at h2;exact h.apart i p hi hp hip g hg h2
   rw[h1]at h2;injection h2 with h2
   have:=(h.list i hi).lt hg
   omega
  by_cases hip:i=p
  ·subst hip;rw[a0D]at hg;rw[a0m _ _ (Ne.symm hij)];exact fun h2=>hnew j hj (Ne.symm hij) g h2 hg
  rw[a0m _ _ hip]at hg;by_cases hjp:j=p
  ·subst hjp;rw[a0D];exact hnew i hi hip g hg
  rw[a0m _ _ hjp];exact h.apart i j hi hj hij g hg
 ·rcases (show p=0\/p=1\/p=2\/p=3 by omega)with rfl|rfl|rfl|rfl<;>exact heap_cell hP7 rfl
 ·simp[World.frozen?,hP7]
 have hb:Below n W5 W6:=hx6.mono om;exact(hb.grown hR.grown om (fun k e=>by have:=h.high p hp k e;omega)).setCell (p:=⟨P,1+p,none⟩) hn _
def a1i:Value:=.agg #[.slice none 0 0,.slice none 0 0,.slice none 0 0,.slice none 0 0]
def a5g(o:Option a00)(w:World)(e:Ending)(w':World):Prop:=
 (match o with
  |some b=>∃vs:Nat->Value,e= .returned (.tuple #[.agg #[vs 0,vs 1,vs 2,vs 3],.int .i64 0])/\a02 b/\∀i,i<4->ListAt w' (vs i) (b i)/\∀g,(vs i).ownBlock=some g->w.heap.size<=g
  |none=>e= .returned (.tuple #[a1i,.int .i64 3]))/\Below w.heap.size w w'
structure RcI(s:ByteArray)(w:World)(k f:Nat)(vs:Nat->Value)(b:a00)(wr:World):Prop where
 from_:f<=k
 cur:(a1D (s.data.toList.take k)).2=(s.data.toList.take k).drop f
 read:a1x a1G (a1D (s.data.toList.take k)).1=some b
 post:RfIs wr (w.heap.size+1) vs b
 ok:a02 b
 res:wr.heap[w.heap.size]? =some (.cells #[.slice none 0 0,.slice none 0 0,.slice none 0 0,.slice none 0 0] 52 (0,0))
 below:Below w.heap.size w wr
theorem RcI.more{s:ByteArray}{w wr:World}{k f:Nat}{vs:Nat->Value}{b:a00}(h:RcI s w k f vs b wr)(hk:k<s.size)(hb:s[k].toNat≠10):RcI s w (k+1) f vs b wr:=by
 have e:a1D (s.data.toList.take (k+1))=((a1D (s.data.toList.take k)).1,(a1D (s.data.toList.take k)).2++[s[k]]):=by
  rw[a2B hk,a97,a3l,if_neg];rw[beq_iff_eq];intro h2;exact hb ((u8_eq (n:=10) ox).1 h2)
 refine⟨by have:=h.from_;omega,?_,?_,h.post,h.ok,h.res,h.below⟩
 ·rw[e,h.cur,a2B hk,List.drop_append_of_le_length];rw[aoy,<-a05];have:=h.from_;omega
 rw[e];exact h.read
theorem RcI.line{s:ByteArray}{w wr:World}{k f:Nat}{vs:Nat->Value}{b:a00}(h:RcI s w k f vs b wr)(hk:k<s.size)(hb:s[k].toNat=10):
  a1D (s.data.toList.take (k+1))=((a1D (s.data.toList.take k)).1++[(s.data.toList.take k).drop f],[]):=by
 rw[a2B hk,a97,a3l,if_pos]
 ·rw[h.cur]
 rw[beq_iff_eq];exact(u8_eq (n:=10) ox).2 hb
theorem RcI.bad{s:ByteArray}{w wr:World}{k f:Nat}{vs:Nat->Value}{b:a00}(h:RcI s w k f vs b wr)(hk:k<s.size)(hb:s[k].toNat=10)(hl:a32 b ((s.data.toList.take k).drop f)=none):a2P s=none:=by
 obtain⟨t,ht⟩:=ai9 (s.data.toList.take (k+1)) (s.data.toList.drop (k+1));rw[ap9,h.line hk hb]at ht
 have h1:a1x a1G ((a1D (s.data.toList.take k)).1++[(s.data.toList.take k).drop f])=none:=by
  rw[a6q,h.read];simp only;rw[hl]
 unfold a2P;rw[ht,afb h1]
theorem RcI.next{s:ByteArray}{w wr w':World}{k f:Nat}{vs vs':Nat->Value}{b:a00}{e:Ent}(h:RcI s w k f vs b wr)(hk:k<s.size)(hb:s[k].toNat=10)(hl:a32 b ((s.data.toList.take k).drop f)=some e)
  (hp:RfIs w' (w.heap.size+1) vs' (a0H b (a07 e).toNat e))(hbl:Below (w.heap.size+1) wr w'):RcI s w (k+1) (k+1) vs' (a0H b (a07 e).toNat e) w':=by
 have hlt:=(aog.1 h.res).1
 refine⟨aof _,?_,?_,hp,abq (e:=e) h.ok (by unfold a3p;rw[if_pos (a7G hl)]),(hbl.block _ om).trans h.res,h.below.trans (hbl.mono om)⟩
 ·have e9:(s.data.toList.take (k+1)).drop (k+1)=[]:=apy (by rw[aoy];omega)
  rw[h.line hk hb,e9]
 rw[h.line hk hb,a6q,h.read];simp only;rw[hl]
theorem akt(b:a00)(l:List UInt8)(hok:a02 b):
  let c1:=a09 l;let c2:=a09 c1.2.1;let c3:=a09 c2.2.1
  let p:=a5I (a0A c1.1 1);let n:=a5I (a0A c2.1 2);let k:=a5I (a0A c3.1 7)
  (a32 b l=none/\(c3.2.2=false\/(c3.2.2=true/\(a0A c1.1 1).isSome=false)\/(c3.2.2=true/\(a0A c1.1 1).isSome=true/\(a0A c2.1 2).isSome=false)\/
   (c3.2.2=true/\(a0A c1.1 1).isSome=true/\(a0A c2.1 2).isSome=true/\((a0A c3.1 7).isSome=false\/(a0A c3.1 7).isSome=true/\
    (3<p\/p<=3/\(n≠(b p).length+1\/n=(b p).length+1/\(60<n\/n<=60/\(k<1\/1<=k/\(1000000<k\/k<=1000000/\(a0n (bsB c3.2.1)=false\/a0n (bsB c3.2.1)=true/\1<n/\(k:Int)<=a0o (b p)))))))))))\/
  (a32 b l=some ((p:Int),(n:Int),(k:Int),bsB c3.2.1)/\c3.2.2=true/\(a0A c1.1 1).isSome=true/\(a0A c2.1 2).isSome=true/\(a0A c3.1 7).isSome=true/\p<=3/\n=(b p).length+1/\n<=60/\1<=k/\k<=1000000/\a0n (bsB c3.2.1)=true/\(¬1<n\/1<n/\a0o (b p)<(k:Int))):=by
 intro c1 c2 c3 p n k
 have hun:a32 b l=match a0A c1.1 1,a0A c2.1 2,a0A c3.1 7 with
  |some p,some n,some k=>if c3.2.2=true/\p<=3/\n=(b p).length+1/\n<=60/\1<=k/\k<=1000000/\a0n (bsB c3.2.1)=true/\(1<n->a0o (b p)<k)then some ((p:Int),(n:Int),(k:Int),bsB c3.2.1)else none
  |_,_,_=>none:=rfl
 rw[hun];obtain⟨o1,ho1⟩:∃o,o=a0A c1.1 1:=⟨_,rfl⟩
 obtain⟨o2,ho2⟩:∃o,o=a0A c2.1 2:=⟨_,rfl⟩
 obtain⟨o3,ho3⟩:∃o,o=a0A c3.1 7:=⟨_,rfl⟩
 have hp:p=a5I o1:=by rw[ho1]
 have hn:n=a5I o2:=by rw[ho2]
 have hk:k=a5I o3:=by rw[ho3]
 rw[<-ho1,<-ho2,<-ho3];generalize a0n (bsB c3.2.1)=q at *;clear hun ho1 ho2 ho3;clear_value p n k c3
 cases h3:c3.2.2 with
 |false=>left;exact⟨by cases o1<;>cases o2<;>cases o3<;>simp,.inl rfl⟩
 | true=>
  cases o1 with
  |none=>left;exact⟨rfl,.inr (.inl ⟨rfl,rfl⟩)⟩
  | some p'=>
   cases o2 with
   |none=>left;exact⟨rfl,.inr (.inr (.inl ⟨rfl,rfl,rfl⟩))⟩
   | some n'=>
    cases o3 with
    |none=>left;exact⟨rfl,.inr (.inr (.inr ⟨rfl,rfl,rfl,.inl rfl⟩))⟩
    | some k'=>
     have e1:p=p':=hp;have e2:n=n':=hn;have e3:k=k':=hk;subst e1 e2 e3;simp only[apV,true_and];by_cases hc:p<=3/\n=(b p).length+1/\n<=60/\1<=k/\k<=1000000/\q=true/\(1<n->a0o (b p)<k)
     ·right;rw[if_pos hc];obtain⟨a1,a2,a3,a4,a5,a6,a7⟩:=hc;refine⟨rfl,a1,a2,a3,a4,a5,a6,?_⟩;by_cases h1:1<n
      ·exact .inr ⟨h1,a7 h1⟩
      exact .inl h1
     left;rw[if_neg hc];refine⟨rfl,.inr (.inr (.inr (.inr ?_)))⟩;cases q with
     |false=>
      simp only[Bool.false_eq_true,false_and,and_false,true_or,and_true];omega
     | true=>
      simp only[Bool.true_eq_false,false_or,true_and];by_cases h1:1<n
      ·by_cases h2:a0o (b p)<(k:Int)
       ·simp only[h1,h2,forall_const,true_and,and_true]at hc⊢;omega
       simp only[h1,true_and,true_implies]at hc⊢;omega
      simp only[h1,false_implies,and_true,false_and,and_false,or_false,true_and]at hc⊢;omega
def BadW (b:a00) (p n k:Nat) (sm x y z q:Bool):Prop:=sm=false\/(sm=true/\x=false)\/(sm=true/\x=true/\y=false)\/
   (sm=true/\x=true/\y=true/\(z=false\/z=true/\
    (3<p\/p<=3/\(n≠(b p).length+1\/n=(b p).length+1/\(60<n\/n<=60/\(k<1\/1<=k/\(1000000<k\/k<=1000000/\(q=false\/q=true/\1<n/\(k:Int)<=a0o (b p)))))))))
def amo(b:a00)(p n k:Nat)(sm x y z q:Bool):Prop:=sm=true/\x=true/\y=true/\z=true/\p<=3/\n=(b p).length+1/\n<=60/\1<=k/\k<=1000000/\q=true/\(¬1<n\/1<n/\a0o (b p)<(k:Int))
structure LineC(b:a00)(cur:List UInt8)(A R1 B R2 C L:ByteArray)(q1 q2 sm x y z q:Bool)(p n k:Nat):Prop where
 c1:∀W,Calls prog 67 #[.string (bsB cur)] W (adS A R1 q1 W)
 c2:∀W,Calls prog 67 #[.string R1] W (adS B R2 q2 W)
 c3:∀W,Calls prog 67 #[.string R2] W (adS C L sm W)
 n1:∀W,Calls prog 68 #[.string A,.int .i64 1] W (abG p x W)
 n2:∀W,Calls prog 68 #[.string B,.int .i64 2] W (abG n y W)
 n3:∀W,Calls prog 68 #[.string C,.int .i64 7] W (abG k z W)
 ln:∀W,Calls prog 69 #[.string L] W (agS q W)
 hp:p<10
 hn:n<100
 hk:k<10000000
 ways:(a32 b cur=none/\BadW b p n k sm x y z q)\/(a32 b cur=some ((p:Int),(n:Int),(k:Int),L)/\amo b p n k sm x y z q)
theorem aia(b:a00)(cur:List UInt8)(hok:a02 b)(hl:cur.length<=4000000000):∃A R1 B R2 C L q1 q2 sm x y z q p n k,LineC b cur A R1 B R2 C L q1 q2 sm x y z q p n k:=by
 have h1:=a40 cur;have h2:=a40 (a09 cur).2.1
 have h3:=a40 (a09 (a09 cur).2.1).2.1
 exact⟨bsB (a09 cur).1,bsB (a09 cur).2.1,bsB (a09 (a09 cur).2.1).1,bsB (a09 (a09 cur).2.1).2.1,bsB (a09 (a09 (a09 cur).2.1).2.1).1,bsB (a09 (a09 (a09 cur).2.1).2.1).2.1,
  (a09 cur).2.2,(a09 (a09 cur).2.1).2.2,(a09 (a09 (a09 cur).2.1).2.1).2.2,_,_,_,_,_,_,_,
  fun W=>a57 cur W hl,fun W=>a57 _ W om,fun W=>a57 _ W om,
  fun W=>a68 _ 1 W om om,fun W=>a68 _ 2 W om om,fun W=>a68 _ 7 W om om,
  fun W=>a1V _ W (by rw[bsB_size];omega),a8T,a8T,a8T,akt b cur hok⟩
theorem acT(s:ByteArray)(w:World)(hs:s.size<=4000000):Calls prog 41 #[.string s] w (a5g (a2P s) w):=by
 obtain⟨w2,hw2⟩:∃w2,w2=(w.alloc (.cells #[.slice none 0 0,.slice none 0 0,.slice none 0 0,.slice none 0 0] 52)).alloc (.cells #[.int .i64 0,.slice none 0 0,.slice none 0 0,.slice none 0 0,.slice none 0 0] 54):=⟨_,rfl⟩
 have HI0:Hid (RcI s w 0 0 (fun _=>.slice none 0 0) a1G w2):=hid (by
  rw[hw2];refine⟨aof _,by simp[a1D],by simp[a1D,a1x],⟨?_,fun i hi=>a2W _,fun i hi g hg=>by simp[Value.ownBlock]at hg,fun i j hi hj hij g hg=>by simp[Value.ownBlock]at hg⟩,a4b,?_,((aoi _ w).alloc (aof _) _).alloc oz _⟩
  ·have:=World.alloc_heap_new (w.alloc (.cells #[.slice none 0 0,.slice none 0 0,.slice none 0 0,.slice none 0 0] 52)) (.cells #[.int .i64 0,.slice none 0 0,.slice none 0 0,.slice none 0 0,.slice none 0 0] 54);rw[aoq]at this;exact this
  exact(aop _ _ _ oz).trans (World.alloc_heap_new w _))
 have HW2:=hid hw2;clear hw2;go_enter func41,ntmps41;go_wp2_with fail
 rw[<-HW2.out];go_loopw [5,6] (fun fr i wr=>∃(k f:Nat) (vs:Nat->Value) (b:a00),k<=s.size/\fr= .int .i64 f/\i= .int .i64 k/\Hid (RcI s w k f vs b wr)) (fun _ i _=>s.size-(intOf i).toNat)
 case atStart=>exact⟨0,0,_,_,aot _,rfl,rfl,HI0⟩
 case round=>
  obtain⟨k,f,vs,b,hk,rfl,rfl,HI⟩:=hrel;by_cases hlt:k<s.size
  ·have hlt2:(k:Int)<(s.size:Int):=om;by_cases h10:s[k].toNat=10
   ·have hne:((s[k].toNat:Int) != 10)=false:=by rw[h10];rfl
    have hf1:=HI.out.from_;have hf0:(0:Int)<=(f:Int):=om;have hf2:(f:Int)<=(k:Int):=om;have hf3:(k:Int)<=(s.size:Int):=om;obtain⟨cur,hcur⟩:∃cur,cur=(s.data.toList.take k).drop f:=⟨_,rfl⟩
    have HEX:Hid (s.extract f k=bsB cur):=hid (by
     apply ba_ext;rw[a1t,hcur];simp[ByteArray.data_extract,List.drop_take])
    have hcl:cur.length<=4000000000:=by
     rw[hcur,aoG,aoy,<-a05];omega
    obtain⟨A,R1,B,R2,C,L,q1,q2,sm,x,y,z,q,p,n,c,hc⟩:=aia b cur HI.out.ok hcl;have HLC:=hid hc;have HBAD:=hid (fun h=>HI.out.bad hlt h10 h);have HNEXT:=hid (fun w' vs' (e:Ent) hl hp hb=>HI.out.next (w':=w') (vs':=vs') (e:=e) hlt h10 hl hp hb);rw[<-hcur]at HBAD HNEXT;clear hcur hcl hc h10 hf1;go_wp2_with fail
    rw[HEX.out];refine(HLC.out.c1 _).mono ?_
    rintro e w1 ⟨rfl,hb1⟩;go_wp2_with fail
    refine(HLC.out.c2 _).mono ?_
    rintro e w2 ⟨rfl,hb2⟩;go_wp2_with fail
    refine(HLC.out.c3 _).mono ?_
    rintro e w3 ⟨rfl,hb3⟩;go_wp2_with fail
    refine(HLC.out.n1 _).mono ?_
    rintro e w4 ⟨rfl,rfl⟩;go_wp2_with fail
    refine(HLC.out.n2 _).mono ?_
    rintro e w4 ⟨rfl,rfl⟩;go_wp2_with fail
    refine(HLC.out.n3 _).mono ?_
    rintro e w4 ⟨rfl,rfl⟩;have HB23:=hid (below_trans (below_trans hb1 hb2) hb3);have HB3:=hid (HI.out.below.trans (HB23.out.mono HI.out.below.size));have HP3:=hid (HI.out.post.below HB23.out);have HR3:Hid (w3.heap[w.heap.size]? =some (.cells #[.slice none 0 0,.slice none 0 0,.slice none 0 0,.slice none 0 0] 52 (0,0))):=hid ((HB23.out.block _ (aog.1 HI.out.res).1).trans HI.out.res);have HOK:=hid HI.out.ok;clear hb1 hb2 hb3;rcases HLC.out.ways with⟨hbad,hw⟩|⟨hgood,hw⟩
    ·have HNO:=hid (HBAD.out hbad);have r0:=heap_cell (j:=0) HR3.out rfl;have r1:=heap_cell (j:=1) HR3.out rfl;have r2:=heap_cell (j:=2) HR3.out rfl;have r3:=heap_cell (j:=3) HR3.out rfl;have g0:∀j,w3.frozen? ⟨w.heap.size,j,none⟩=false:=fun j=>by have h9:=HR3.out;simp[World.frozen?,h9]
     clear hbad;unfold BadW at hw;rcases hw with rfl|⟨rfl,rfl⟩|⟨rfl,rfl,rfl⟩|⟨rfl,rfl,rfl,hw⟩
     ·go_wp2;refine bodyPost_ret (v:=.tuple #[a1i,.int .i64 3]) (by simp[results,results41,go_sem,a1i,r0,r1,r2,r3]) rfl ?_;rw[HNO.out];exact⟨rfl,(((HB3.out.setCell (p:=⟨w.heap.size,0,none⟩) (aof _) _).setCell (p:=⟨w.heap.size,1,none⟩) (aof _) _).setCell (p:=⟨w.heap.size,2,none⟩) (aof _) _).setCell (p:=⟨w.heap.size,3,none⟩) (aof _) _⟩
     ·go_wp2;refine bodyPost_ret (v:=.tuple #[a1i,.int .i64 3]) (by simp[results,results41,go_sem,a1i,r0,r1,r2,r3]) rfl ?_;rw[HNO.out];exact⟨rfl,(((HB3.out.setCell (p:=⟨w.heap.size,0,none⟩) (aof _) _).setCell (p:=⟨w.heap.size,1,none⟩) (aof _) _).setCell (p:=⟨w.heap.size,2,none⟩) (aof _) _).setCell (p:=⟨w.heap.size,3,none⟩) (aof _) _⟩
     ·go_wp2;refine bodyPost_ret (v:=.tuple #[a1i,.int .i64 3]) (by simp[results,results41,go_sem,a1i,r0,r1,r2,r3]) rfl ?_;rw[HNO.out];exact⟨rfl,(((HB3.out.setCell (p:=⟨w.heap.size,0,none⟩) (aof _) _).setCell (p:=⟨w.heap.size,1,none⟩) (aof _) _).setCell (p:=⟨w.heap.size,2,none⟩) (aof _) _).setCell (p:=⟨w.heap.size,3,none⟩) (aof _) _⟩
     rcases hw with rfl|⟨rfl,hw⟩
     ·go_wp2;refine bodyPost_ret (v:=.tuple #[a1i,.int .i64 3]) (by simp[results,results41,go_sem,a1i,r0,r1,r2,r3]) rfl ?_;rw[HNO.out];exact⟨rfl,(((HB3.out.setCell (p:=⟨w.heap.size,0,none⟩) (aof _) _).setCell (p:=⟨w.heap.size,1,none⟩) (aof _) _).setCell (p:=⟨w.heap.size,2,none⟩) (aof _) _).setCell (p:=⟨w.heap.size,3,none⟩) (aof _) _⟩
     rcases hw with hp3|⟨hp3,hw⟩
     ·have hp3i:(3:Int)<(p:Int):=om;clear hp3;go_wp2;refine bodyPost_ret (v:=.tuple #[a1i,.int .i64 3]) (by simp[results,results41,go_sem,a1i,r0,r1,r2,r3]) rfl ?_;rw[HNO.out];exact⟨rfl,(((HB3.out.setCell (p:=⟨w.heap.size,0,none⟩) (aof _) _).setCell (p:=⟨w.heap.size,1,none⟩) (aof _) _).setCell (p:=⟨w.heap.size,2,none⟩) (aof _) _).setCell (p:=⟨w.heap.size,3,none⟩) (aof _) _⟩
     have hp3i:¬(3:Int)<(p:Int):=om;have hp4:(p:Int)<4:=om;obtain⟨a,cap,hv⟩:=HP3.out.slice (p:=p) om;have cp:=HP3.out.cell (i:=p) om;rw[hv]at cp;have hlen:=(HOK.out p om).len
     obtain⟨len,hln⟩:∃len,len=(b p).length:=⟨_,rfl⟩
     have hw1:IntKind.i64.wrap ((len:Int)+1)=(len:Int)+1:=IntWalk.i64_in _ om;rw[<-hln]at hw cp hlen;have HVP:=hid hv;have HLN:=hid hln;clear hln hv;rcases hw with hnl|⟨hnl,hw⟩
     ·have hnn:((n:Int) != (len:Int)+1)=true:=by rw[bne_iff_ne];omega
      clear hnl;go_wp2;refine bodyPost_ret (v:=.tuple #[a1i,.int .i64 3]) (by simp[results,results41,go_sem,a1i,r0,r1,r2,r3]) rfl ?_;rw[HNO.out];exact⟨rfl,(((HB3.out.setCell (p:=⟨w.heap.size,0,none⟩) (aof _) _).setCell (p:=⟨w.heap.size,1,none⟩) (aof _) _).setCell (p:=⟨w.heap.size,2,none⟩) (aof _) _).setCell (p:=⟨w.heap.size,3,none⟩) (aof _) _⟩
     have hnn:((n:Int) != (len:Int)+1)=false:=by rw[bne_eq_false_iff_eq];omega
     rcases hw with hn60|⟨hn60,hw⟩
     ·have hn60i:(60:Int)<(n:Int):=om;clear hnl;go_wp2;refine bodyPost_ret (v:=.tuple #[a1i,.int .i64 3]) (by simp[results,results41,go_sem,a1i,r0,r1,r2,r3]) rfl ?_;rw[HNO.out];exact⟨rfl,(((HB3.out.setCell (p:=⟨w.heap.size,0,none⟩) (aof _) _).setCell (p:=⟨w.heap.size,1,none⟩) (aof _) _).setCell (p:=⟨w.heap.size,2,none⟩) (aof _) _).setCell (p:=⟨w.heap.size,3,none⟩) (aof _) _⟩
     have hn60i:¬(60:Int)<(n:Int):=om;rcases hw with hc1|⟨hc1,hw⟩
     ·have hc1i:(c:Int)<1:=om;clear hnl;go_wp2;refine bodyPost_ret (v:=.tuple #[a1i,.int .i64 3]) (by simp[results,results41,go_sem,a1i,r0,r1,r2,r3]) rfl ?_;rw[HNO.out];exact⟨rfl,(((HB3.out.setCell (p:=⟨w.heap.size,0,none⟩) (aof _) _).setCell (p:=⟨w.heap.size,1,none⟩) (aof _) _).setCell (p:=⟨w.heap.size,2,none⟩) (aof _) _).setCell (p:=⟨w.heap.size,3,none⟩) (aof _) _⟩
     have hc1i:¬(c:Int)<1:=om;rcases hw with hc2|⟨hc2,hw⟩
     ·have hc2i:(1000000:Int)<(c:Int):=om;clear hnl;go_wp2;refine bodyPost_ret (v:=.tuple #[a1i,.int .i64 3]) (by simp[results,results41,go_sem,a1i,r0,r1,r2,r3]) rfl ?_;rw[HNO.out];exact⟨rfl,(((HB3.out.setCell (p:=⟨w.heap.size,0,none⟩) (aof _) _).setCell (p:=⟨w.heap.size,1,none⟩) (aof _) _).setCell (p:=⟨w.heap.size,2,none⟩) (aof _) _).setCell (p:=⟨w.heap.size,3,none⟩) (aof _) _⟩
     have hc2i:¬(1000000:Int)<(c:Int):=om;rcases hw with rfl|⟨rfl,hn1,hlast⟩
     ·clear hnl;go_wp2_with fail
      refine(HLC.out.ln _).mono ?_
      rintro e w4 ⟨rfl,rfl⟩;go_wp2;refine bodyPost_ret (v:=.tuple #[a1i,.int .i64 3]) (by simp[results,results41,go_sem,a1i,r0,r1,r2,r3]) rfl ?_;rw[HNO.out];exact⟨rfl,(((HB3.out.setCell (p:=⟨w.heap.size,0,none⟩) (aof _) _).setCell (p:=⟨w.heap.size,1,none⟩) (aof _) _).setCell (p:=⟨w.heap.size,2,none⟩) (aof _) _).setCell (p:=⟨w.heap.size,3,none⟩) (aof _) _⟩
     obtain⟨j,hj⟩:∃j:Nat,n=j+2:=⟨n-2,om⟩
     have hjl:j+1=len:=om;have hn1i:(1:Int)<(n:Int):=om;have hwj:IntKind.i64.wrap ((n:Int)-2)=(j:Int):=by rw[IntWalk.i64_in _ om];omega
     obtain⟨g,off,cap2,hv2,_,_,d3,_⟩:=((HP3.out.list p om).ents (by rw[<-HLN.out];omega)).entry (k:=j) (by rw[<-HLN.out];omega)
     have hla:=a71 (l:=b p) (by rw[<-HLN.out];omega);rw[<-HLN.out,show len-1=j by omega]at hla;rw[<-hla]at d3;rw[HVP.out,<-HLN.out]at hv2;simp only[Value.slice.injEq,true_and]at hv2;obtain⟨rfl,rfl⟩:=hv2;have hjl2:(j:Int)<(len:Int):=om;generalize a0o (b p)=lc at *;have hg1:decide ((c:Int)<=lc)=true:=decide_eq_true hlast;clear hnl hla hj hjl;go_wp2_with fail
     refine(HLC.out.ln _).mono ?_
     rintro e w4 ⟨rfl,rfl⟩;go_wp2;refine bodyPost_ret (v:=.tuple #[a1i,.int .i64 3]) (by simp[results,results41,go_sem,a1i,r0,r1,r2,r3]) rfl ?_;rw[HNO.out];exact⟨rfl,(((HB3.out.setCell (p:=⟨w.heap.size,0,none⟩) (aof _) _).setCell (p:=⟨w.heap.size,1,none⟩) (aof _) _).setCell (p:=⟨w.heap.size,2,none⟩) (aof _) _).setCell (p:=⟨w.heap.size,3,none⟩) (aof _) _⟩
    have HLR:=hid hgood;clear hgood;unfold amo at hw;obtain⟨rfl,rfl,rfl,rfl,hp3,hnl,hn60,hc1,hc2,rfl,hlast⟩:=hw;have hp3i:¬(3:Int)<(p:Int):=om;have hp4:(p:Int)<4:=om;have hp4n:p<4:=om;obtain⟨a,cap,hv⟩:=HP3.out.slice hp4n;have cp:=HP3.out.cell hp4n;rw[hv]at cp;have hlen:=(HOK.out p hp4n).len
    obtain⟨len,hln⟩:∃len,len=(b p).length:=⟨_,rfl⟩
    have hw1:IntKind.i64.wrap ((len:Int)+1)=(len:Int)+1:=IntWalk.i64_in _ om;rw[<-hln]at hnl cp hlen;have HVP:=hid hv;have HLN:=hid hln;rw[<-hln]at HVP;clear hln hv;have hnn:((n:Int) != (len:Int)+1)=false:=by rw[bne_eq_false_iff_eq];omega
    have hn60i:¬(60:Int)<(n:Int):=om;have hc1i:¬(c:Int)<1:=om;have hc2i:¬(1000000:Int)<(c:Int):=om;obtain⟨en0,hen0⟩:∃en0:Ent,en0=((p:Int),(n:Int),(c:Int),L):=⟨_,rfl⟩
    have HEN:=hid hen0;rw[<-hen0]at HLR;clear hen0;obtain⟨W6,hW6⟩:∃W6,W6=(w3.alloc (.cells #[.int .i64 (p:Int),.int .i64 (n:Int),.int .i64 (c:Int),.string L] 43)).drew:=⟨_,rfl⟩
    have HX6:Hid (Below w3.heap.size w3 W6):=hid (by rw[hW6];exact((aoi _ _).alloc (aof _) _).drew);have HNW:Hid (W6.heap[w3.heap.size]? =some (.cells #[.int .i64 (p:Int),.int .i64 (n:Int),.int .i64 (c:Int),.string L] 43 (0,0))):=hid (by rw[hW6];exact World.alloc_heap_new w3 _);have HLP6:Hid (ListAt W6 (.slice a len cap) (b p)):=hid (by rw[<-HVP.out];exact(HP3.out.list p hp4n).keep fun k hk=>HX6.out.block k ((HP3.out.list p hp4n).lt hk));have HAP:=hid (fun ty=>a5A HLP6.out (by rw[<-HLN.out];omega) en0 ty ⟨w3.heap.size,0,none⟩ (a4Z HNW.out (by rw[HEN.out];rfl)));have HW6:=hid hW6;have HPN:=hid (fun v' W7 (hR:AppKeeps (.slice a len cap) (b p) en0 W6 v' W7)=>HP3.out.next (e:=en0) (v':=v') (W7:=W7) hp4n HX6.out (by rw[HVP.out];exact hR));rw[HVP.out]at HPN;clear hW6;rcases hlast with hn1|⟨hn1,hlast⟩
    ·have hn1i:¬(1:Int)<(n:Int):=om;have hnp:(0:Int)<(n:Int):=om;clear hnl;go_wp2_with fail
     refine(HLC.out.ln _).mono ?_
     rintro e w4 ⟨rfl,rfl⟩;have f0a:(w3.alloc (.cells #[.int .i64 (p:Int),.int .i64 (n:Int),.int .i64 (c:Int),.string L] 43)).cell? ⟨w.heap.size+1,1+p,none⟩=some (.slice a len cap):=keep_cell ((aoi _ _).alloc (aof _) _) cp
     go_wp2
     go_region_law (first
      |((rw[<-HW6.out];refine a0F oy _ _ _ oy (.slice a len cap) (.slice (some ⟨w3.heap.size,0,none⟩) 1 1) oy oy (AppKeeps (.slice a len cap) (b p) en0 W6) (HAP.out _) ?_;intro v' W7 hR;have HR:=hid (HPN.out v' W7 hR);obtain⟨g',cap',rfl⟩:=hR.is;obtain⟨c7,f7⟩:=HR.out.2.1;clear hR))
      |fail)
     all_goals go_wp2
     all_goals go_roundw
     all_goals first
      |(case rel=>exact⟨k+1,k+1,_,_,om,by go_num,by go_num,hid (HNEXT.out _ _ en0 HLR.out (by rw[show (a07 en0).toNat=p by rw[HEN.out];exact aoY p];exact HR.out.1) ((HB23.out.mono (Nat.succ_le_of_lt HI.out.post.lt |> fun h=>om)).trans (HR.out.2.2 _ (aof _))))⟩)
      |(case measure=>simp[intOf];omega)
    obtain⟨j,hj⟩:∃j:Nat,n=j+2:=⟨n-2,om⟩
    have hjl:j+1=len:=om;have hn1i:(1:Int)<(n:Int):=om;have hwj:IntKind.i64.wrap ((n:Int)-2)=(j:Int):=by rw[IntWalk.i64_in _ om];omega
    obtain⟨g,off,cap2,hv2,_,_,d3,_⟩:=((HP3.out.list p hp4n).ents (by rw[<-HLN.out];omega)).entry (k:=j) (by rw[<-HLN.out];omega)
    have hla:=a71 (l:=b p) (by rw[<-HLN.out];omega);rw[<-HLN.out,show len-1=j by omega]at hla;rw[<-hla]at d3;rw[HVP.out,<-HLN.out]at hv2;simp only[Value.slice.injEq,true_and]at hv2;obtain⟨rfl,rfl⟩:=hv2;have hjl2:(j:Int)<(len:Int):=om;obtain⟨lc,hlc⟩:∃lc,lc=a0o (b p):=⟨_,rfl⟩
    rw[<-hlc]at d3 hlast;have hg1:decide ((c:Int)<=lc)=false:=by rw[decide_eq_false];omega
    clear hnl hla hj hjl hlc;go_wp2_with fail
    refine(HLC.out.ln _).mono ?_
    rintro e w4 ⟨rfl,rfl⟩;have f0a:(w3.alloc (.cells #[.int .i64 (p:Int),.int .i64 (n:Int),.int .i64 (c:Int),.string L] 43)).cell? ⟨w.heap.size+1,1+p,none⟩=some (.slice (some ⟨g,off,none⟩) len cap):=keep_cell ((aoi _ _).alloc (aof _) _) cp
    go_wp2
    go_region_law (first
     |((rw[<-HW6.out];refine a0F oy _ _ _ oy (.slice (some ⟨g,off,none⟩) len cap) (.slice (some ⟨w3.heap.size,0,none⟩) 1 1) oy oy (AppKeeps (.slice (some ⟨g,off,none⟩) len cap) (b p) en0 W6) (HAP.out _) ?_;intro v' W7 hR;have HR:=hid (HPN.out v' W7 hR);obtain⟨g',cap',rfl⟩:=hR.is;obtain⟨c7,f7⟩:=HR.out.2.1;clear hR))
     |fail)
    all_goals go_wp2
    all_goals go_roundw
    all_goals first
     |(case rel=>exact⟨k+1,k+1,_,_,om,by go_num,by go_num,hid (HNEXT.out _ _ en0 HLR.out (by rw[show (a07 en0).toNat=p by rw[HEN.out];exact aoY p];exact HR.out.1) ((HB23.out.mono (Nat.succ_le_of_lt HI.out.post.lt |> fun h=>om)).trans (HR.out.2.2 _ (aof _))))⟩)
     |(case measure=>simp[intOf];omega)
   have hne:((s[k].toNat:Int) != 10)=true:=by rw[bne_iff_ne];omega
   have HI2:=hid (HI.out.more hlt h10);clear h10;go_wp2;go_roundw
   case rel=>exact⟨k+1,f,vs,b,om,rfl,by go_num,HI2⟩
   case measure=>simp[intOf];omega
  obtain rfl:k=s.size:=om;have htk:s.data.toList.take s.size=s.data.toList:=aou (by rw[<-a05];exact aof _)
  have HRD:Hid (a2P s=if a0z b=s then some b else none):=hid (by
   have h9:=HI.out.read;rw[htk]at h9;unfold a2P;rw[h9])
  have HTX:=hid (rtext_any (w.heap.size+1) 0 vs b wr (HI.out.post.at HI.out.ok) HI.out.ok);obtain⟨tb,htb⟩:∃tb,tb=a0z b:=⟨_,rfl⟩
  rw[<-htb]at HTX HRD;clear htk htb;go_wp2_with fail
  refine HTX.out.mono ?_;rintro e w3 ⟨rfl,hb3⟩;have HB3:=hid (HI.out.below.trans (hb3.mono HI.out.below.size));have HP3:=hid (HI.out.post.below hb3);have HR3:Hid (w3.heap[w.heap.size]? =some (.cells #[.slice none 0 0,.slice none 0 0,.slice none 0 0,.slice none 0 0] 52 (0,0))):=hid ((hb3.block _ (aog.1 HI.out.res).1).trans HI.out.res);have r0:=heap_cell (j:=0) HR3.out rfl;have r1:=heap_cell (j:=1) HR3.out rfl;have r2:=heap_cell (j:=2) HR3.out rfl;have r3:=heap_cell (j:=3) HR3.out rfl;have g0:∀j,w3.frozen? ⟨w.heap.size,j,none⟩=false:=fun j=>by have h9:=HR3.out;simp[World.frozen?,h9]
  clear hb3;by_cases hts:tb=s
  ·have hb:(tb.toList==s.toList)=true:=by rw[a54,decide_eq_true hts]
   have HNO:Hid (a2P s=some b):=hid (by rw[HRD.out,if_pos hts]);have HOK:=hid HI.out.ok;have HPH:=hid HP3.out;obtain⟨a0,k0,hq0⟩:=HP3.out.slice (p:=0) om;obtain⟨a1,k1,hq1⟩:=HP3.out.slice (p:=1) om;obtain⟨a2,k2,hq2⟩:=HP3.out.slice (p:=2) om;obtain⟨a3,k3,hq3⟩:=HP3.out.slice (p:=3) om;have x0:=HP3.out.cell (i:=0) om;have x1:=HP3.out.cell (i:=1) om;have x2:=HP3.out.cell (i:=2) om;have x3:=HP3.out.cell (i:=3) om;rw[hq0]at x0;rw[hq1]at x1;rw[hq2]at x2;rw[hq3]at x3;have HQ:=hid (And.intro hq0 (And.intro hq1 (And.intro hq2 hq3)));clear hq0 hq1 hq2 hq3 hts;go_wp2;refine bodyPost_ret (v:=.tuple #[.agg #[.slice a0 (b 0).length k0,.slice a1 (b 1).length k1,.slice a2 (b 2).length k2,.slice a3 (b 3).length k3],.int .i64 0]) (by simp[results,results41,go_sem,r0,r1,r2,r3]) rfl ?_;rw[HNO.out];refine⟨⟨vs,?_,HOK.out,fun i hi=>⟨?_,fun g hg=>?_⟩⟩,(((HB3.out.setCell (p:=⟨w.heap.size,0,none⟩) (aof _) _).setCell (p:=⟨w.heap.size,1,none⟩) (aof _) _).setCell (p:=⟨w.heap.size,2,none⟩) (aof _) _).setCell (p:=⟨w.heap.size,3,none⟩) (aof _) _⟩
   ·rw[HQ.out.1,HQ.out.2.1,HQ.out.2.2.1,HQ.out.2.2.2]
   ·refine(HPH.out.list i hi).keep fun k hk=>aal _ _ _ _ (by have:=HPH.out.high i hi k hk;omega)
   have:=HPH.out.high i hi g hg;omega
  have hb:(tb.toList==s.toList)=false:=by rw[a54,decide_eq_false hts]
  have HNO:Hid (a2P s=none):=hid (by rw[HRD.out,if_neg hts]);clear hts;go_wp2;refine bodyPost_ret (v:=.tuple #[a1i,.int .i64 3]) (by simp[results,results41,go_sem,a1i,r0,r1,r2,r3]) rfl ?_;rw[HNO.out];exact⟨rfl,(((HB3.out.setCell (p:=⟨w.heap.size,0,none⟩) (aof _) _).setCell (p:=⟨w.heap.size,1,none⟩) (aof _) _).setCell (p:=⟨w.heap.size,2,none⟩) (aof _) _).setCell (p:=⟨w.heap.size,3,none⟩) (aof _) _⟩
end Go.Proofs.YtdfkaijeppdhaaaGreatDoor
