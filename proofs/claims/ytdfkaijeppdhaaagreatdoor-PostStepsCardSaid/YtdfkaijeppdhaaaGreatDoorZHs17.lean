/- Part of the proof. -/
import Derived.Test.YtdfkaijeppdhaaaGreatDoorZHs16
import Derived.Test.YtdfkaijeppdhaaaGreatDoorChecked
import Derived.RangeFuncBound
import Derived.RangeFuncNested
import Derived.OwnWalkIn
import Derived.TacticsInMore
import Derived.LoopNIn
import Derived.LoopIn
set_option maxRecDepth 100000
set_option maxHeartbeats 8000000
set_option linter.unusedSimpArgs false
set_option linter.unusedVariables false

namespace Go.Proofs.YtdfkaijeppdhaaaGreatDoor
open Lib (hid)
open Proofs.Tryz Go.RowKit Go.Shelf
attribute [local go_sem] Oper.semAt_some
def a4o(x:Stp):Value:=.agg #[.int .i64 x.edit,.int .i64 x.i,.int .i64 x.k,.int .i64 x.cost]
def Kq(W W':World):Prop:=∀(b:Nat) cur e fr,(e=3\/e=253)->W.heap[b]? =some (Obj.cells cur e fr)->W'.heap[b]? =some (Obj.cells cur e fr)
theorem Kq.refl(W:World):Kq W W:=fun _ _ _ _ _ h=>h
theorem Kq.trans{A B C:World}(h:Kq A B)(k:Kq B C):Kq A C:=fun b cur e fr he x=>k b cur e fr he (h b cur e fr he x)
theorem Kq.put(W:World)(l:Nat)(o o':Obj)(h:W.heap[l]? =some o)(hc:o.isCells=false):Kq W (W.putObj l o'):=fun b cur e fr _ x=>by
 have hne:b≠l:=by
  rintro rfl;rw[h]at x;cases x
  simp[Obj.isCells]at hc
 exact(World.putObj_heap_other hne).trans x
theorem Kq.below{W W':World}(h:Below W.heap.size W W'):Kq W W':=fun b _ _ _ _ e=>(h.block b (aog.1 e).1).trans e
def StAt(s t:ByteArray)(i k bi bp bk:Nat)(W:World):Prop:=W.heap[bp]? =some (.cells #[.string s,.string t,.int .i64 1,.int .i64 1] 253 (0,0))/\W.heap[bi]? =some (.cells #[.int .i64 i] 3 (0,0))/\W.heap[bk]? =some (.cells #[.int .i64 k] 3 (0,0))
theorem StAt.kq{s t:ByteArray}{i k bi bp bk:Nat}{W W':World}(h:StAt s t i k bi bp bk W)(hk:Kq W W'):StAt s t i k bi bp bk W':=⟨hk _ _ _ _ (.inr rfl) h.1,hk _ _ _ _ (.inl rfl) h.2.1,hk _ _ _ _ (.inl rfl) h.2.2⟩
theorem StAt.below{s t:ByteArray}{i k bi bp bk:Nat}{W W':World}(h:StAt s t i k bi bp bk W)(hb:Below W.heap.size W W'):StAt s t i k bi bp bk W':=h.kq (Kq.below hb)
theorem StAt.cells{s t:ByteArray}{i k bi bp bk:Nat}{W:World}(h:StAt s t i k bi bp bk W):W.cell? ⟨bp,0,none⟩=some (.string s)/\W.cell? ⟨bp,1,none⟩=some (.string t)/\W.cell? ⟨bp,2,none⟩=some (.int .i64 1)/\W.cell? ⟨bp,3,none⟩=some (.int .i64 1)/\W.cell? ⟨bi,0,none⟩=some (.int .i64 i)/\W.cell? ⟨bk,0,none⟩=some (.int .i64 k):=
 ⟨heap_cell h.1 rfl,heap_cell h.1 rfl,heap_cell h.1 rfl,heap_cell h.1 rfl,heap_cell h.2.1 rfl,heap_cell h.2.2 rfl⟩
theorem a2t(s:ByteArray){i:Nat}(h:i<s.size):s.data.toList.getD i 0=s[i]:=by
 rw[aoh,aoj (by rw[<-a05];exact h)];rfl
theorem aaK{s t:List UInt8}{i k:Nat}{x:Stp}(hi:i<=s.length)(hk:k<=t.length)(h:x∈a0t s t i k):x.i<=s.length/\x.k<=t.length/\(i<x.i\/(x.i=i/\k<x.k))/\x.cost<=1:=by
 unfold a0t at h;rcases aoI.1 h with h|h
 ·split at h
  ·rw[apJ]at h;subst h;split<;>exact⟨by simp only;omega,by simp only;omega,by simp only;omega,by simp⟩
  simp at h
 rcases aoI.1 h with h|h
 ·split at h
  ·rw[apJ]at h;subst h;exact⟨by simp only;omega,by simp only;omega,by simp only;omega,by simp⟩
  simp at h
 split at h
 ·rw[apJ]at h;subst h;exact⟨by simp only;omega,by simp only;omega,.inr ⟨rfl,aoQ k⟩,by simp⟩
 simp at h
theorem afd(s t:List UInt8):a0t s t s.length t.length=[]:=by simp[a0t]
theorem afe{s:List UInt8}(t:List UInt8){i:Nat}(h:i<s.length):a0t s t i t.length=[⟨3,i+1,t.length,1⟩]:=by simp[a0t,h]
theorem adU(s:List UInt8){t:List UInt8}{k:Nat}(h:k<t.length):a0t s t s.length k=[⟨4,s.length,k+1,1⟩]:=by simp[a0t,h]
theorem aff{s t:List UInt8}{i k:Nat}(hi:i<s.length)(hk:k<t.length)(e:s.getD i 0=t.getD k 0):a0t s t i k=[⟨1,i+1,k+1,0⟩,⟨3,i+1,k,1⟩,⟨4,i,k+1,1⟩]:=by
 unfold a0t;rw[if_pos ⟨hi,hk⟩,if_pos hi,if_pos hk,if_pos e];rfl
theorem ad4{s t:List UInt8}{i k:Nat}(hi:i<s.length)(hk:k<t.length)(e:s.getD i 0≠t.getD k 0):a0t s t i k=[⟨2,i+1,k+1,1⟩,⟨3,i+1,k,1⟩,⟨4,i,k+1,1⟩]:=by
 unfold a0t;rw[if_pos ⟨hi,hk⟩,if_pos hi,if_pos hk,if_neg e];rfl
theorem a7g(w:World):w.grownBy w.drew none:=⟨rfl,rfl,rfl,aof _,fun _ _ _=>rfl⟩
theorem amQ(w:World):Below w.heap.size w w.drew:=(aoi _ _).drew
def a58(L:List Stp)(J Jx:List Stp->World->Prop)(e:Ending)(W':World):Prop:=(∃v,e= .returned v)/\((∃ys,ys=L/\J ys W')\/(∃pre:List Stp,True/\Jx pre W'))
def a7h(J Jx:List Stp->World->Prop)(pre:List Stp)(x:Stp)(W:World)(e:Ending)(W':World):Prop:=
 (e= .returned (.bool true)/\J (pre++[x]) W'/\Kq W W')\/(e= .returned (.bool false)/\Jx (pre++[x]) W')
theorem afg(l bi bp bk:Nat)(s t:ByteArray)(hs:s.size<=20)(ht:t.size<=20)(J Jx:List Stp->World->Prop)
  (W:World)(hP:StAt s t s.size t.size bi bp bk W)(h0:J [] W):
  CallsIn Fence.wide 3 prog 253 #[.func (.yield l) #[] #[],.pointer (some ⟨bi,0,none⟩),.pointer (some ⟨bp,0,none⟩),.pointer (some ⟨bk,0,none⟩)] W (a58 (a0t s.data.toList t.data.toList s.size t.size) J Jx):=by
 have HL:Hid (a0t s.data.toList t.data.toList s.size t.size=[]):=hid (by
  rw[a05 s,a05 t];exact afd _ _)
 rw[HL.out];obtain⟨c0,c1,c2,c3,ci,ck⟩:=hP.cells;have hd2:¬(t.size:Int)<(t.size:Int):=om;have hd1:¬(s.size:Int)<(s.size:Int):=om;clear hP;refine callsIn_of_wp func253 rfl trivial ?_ rfl;simp only[ntmps253,ape,aom,aow,Nat.reduceAdd,Nat.reduceSub,ap3,ap4,apf,ap7,aoM,aoA];gi_wp2;refine⟨(fun g hg=>nomatch hg),?_⟩;gi_wp2;go_end0
 exact⟨⟨_,rfl⟩,.inl ⟨_,rfl,h0⟩⟩
theorem afh(l bi bp bk:Nat)(s t:ByteArray)(i:Nat)(hi:i<s.size)(hs:s.size<=20)(ht:t.size<=20)(J Jx:List Stp->World->Prop)
  (hY:∀pre x W,x∈a0t s.data.toList t.data.toList i t.size->J pre W->pre.length<4->YieldAt Fence.wide 2 prog l #[a4o x] W (a7h J Jx pre x W))
  (W:World)(hP:StAt s t i t.size bi bp bk W)(h0:J [] W):
  CallsIn Fence.wide 3 prog 253 #[.func (.yield l) #[] #[],.pointer (some ⟨bi,0,none⟩),.pointer (some ⟨bp,0,none⟩),.pointer (some ⟨bk,0,none⟩)] W (a58 (a0t s.data.toList t.data.toList i t.size) J Jx):=by
 have HL:Hid (a0t s.data.toList t.data.toList i t.size=[⟨3,i+1,t.size,1⟩]):=hid (by
  rw[a05 t];exact afe _ (by rw[<-a05];exact hi))
 rw[HL.out]at hY⊢;have HP:=hid hP;obtain⟨c0,c1,c2,c3,ci,ck⟩:=hP.cells;have hd1:(i:Int)<(s.size:Int):=om;have hd2:¬(t.size:Int)<(t.size:Int):=om;have hw:IntKind.i64.wrap ((i:Int)+1)=(i:Int)+1:=IntWalk.i64_in _ om;clear hP;refine callsIn_of_wp func253 rfl trivial ?_ rfl;simp only[ntmps253,ape,aom,aow,Nat.reduceAdd,Nat.reduceSub,ap3,ap4,apf,ap7,aoM,aoA];obtain⟨fn,tmps,assign,body,hy,hR⟩:=hY [] ⟨3,i+1,t.size,1⟩ W oz h0 oz;rw[show a4o ⟨3,i+1,t.size,1⟩= .agg #[.int .i64 3,.int .i64 ((i:Int)+1),.int .i64 t.size,.int .i64 1]from rfl]at hy;gi_wp2;refine hR.mono ?_;clear hy hR;rintro e W3 (⟨rfl,hJ3,hk3⟩|⟨rfl,hJx3⟩);rotate_left
 ·gi_wp2;refine bodyPost_ret (results_none rfl _ _ _) rfl ?_;exact⟨⟨_,rfl⟩,.inr ⟨_,trivial,hJx3⟩⟩
 obtain⟨d0,d1,d2,d3,di,dk⟩:=(HP.out.kq hk3).cells
 clear c0 c1 c2 c3 ci ck hk3;gi_wp2;go_end0
 exact⟨⟨_,rfl⟩,.inl ⟨_,rfl,hJ3⟩⟩
theorem adV(l bi bp bk:Nat)(s t:ByteArray)(k:Nat)(hk:k<t.size)(hs:s.size<=20)(ht:t.size<=20)(J Jx:List Stp->World->Prop)
  (hY:∀pre x W,x∈a0t s.data.toList t.data.toList s.size k->J pre W->pre.length<4->YieldAt Fence.wide 2 prog l #[a4o x] W (a7h J Jx pre x W))
  (W:World)(hP:StAt s t s.size k bi bp bk W)(h0:J [] W):
  CallsIn Fence.wide 3 prog 253 #[.func (.yield l) #[] #[],.pointer (some ⟨bi,0,none⟩),.pointer (some ⟨bp,0,none⟩),.pointer (some ⟨bk,0,none⟩)] W (a58 (a0t s.data.toList t.data.toList s.size k) J Jx):=by
 have HL:Hid (a0t s.data.toList t.data.toList s.size k=[⟨4,s.size,k+1,1⟩]):=hid (by
  rw[a05 s];exact adU _ (by rw[<-a05];exact hk))
 rw[HL.out]at hY⊢;have HP:=hid hP;obtain⟨c0,c1,c2,c3,ci,ck⟩:=hP.cells;have hd1:(k:Int)<(t.size:Int):=om;have hd2:¬(s.size:Int)<(s.size:Int):=om;have hw:IntKind.i64.wrap ((k:Int)+1)=(k:Int)+1:=IntWalk.i64_in _ om;clear hP;refine callsIn_of_wp func253 rfl trivial ?_ rfl;simp only[ntmps253,ape,aom,aow,Nat.reduceAdd,Nat.reduceSub,ap3,ap4,apf,ap7,aoM,aoA];gi_wp2;refine⟨(fun g hg=>nomatch hg),?_⟩;obtain⟨fn,tmps,assign,body,hy,hR⟩:=hY [] ⟨4,s.size,k+1,1⟩ W oz h0 oz;rw[show a4o ⟨4,s.size,k+1,1⟩= .agg #[.int .i64 4,.int .i64 s.size,.int .i64 ((k:Int)+1),.int .i64 1]from rfl]at hy;gi_wp2;refine hR.mono ?_;clear hy hR;rintro e W3 (⟨rfl,hJ3,hk3⟩|⟨rfl,hJx3⟩);rotate_left
 ·gi_wp2;refine bodyPost_ret (results_none rfl _ _ _) rfl ?_;exact⟨⟨_,rfl⟩,.inr ⟨_,trivial,hJx3⟩⟩
 gi_wp2;go_end0
 exact⟨⟨_,rfl⟩,.inl ⟨_,rfl,hJ3⟩⟩
theorem afi(l bi bp bk:Nat)(s t:ByteArray)(i k:Nat)(hi:i<s.size)(hk:k<t.size)(hs:s.size<=20)(ht:t.size<=20)(J Jx:List Stp->World->Prop)
  (hY:∀pre x W,x∈a0t s.data.toList t.data.toList i k->J pre W->pre.length<4->YieldAt Fence.wide 2 prog l #[a4o x] W (a7h J Jx pre x W))
  (W:World)(hJ:AbidesFrom W.heap.size J)(hP:StAt s t i k bi bp bk W)(h0:J [] W):
  CallsIn Fence.wide 3 prog 253 #[.func (.yield l) #[] #[],.pointer (some ⟨bi,0,none⟩),.pointer (some ⟨bp,0,none⟩),.pointer (some ⟨bk,0,none⟩)] W (a58 (a0t s.data.toList t.data.toList i k) J Jx):=by
 have hd1:(i:Int)<(s.size:Int):=om;have hd2:(k:Int)<(t.size:Int):=om;have hi0:(0:Int)<=(i:Int):=om;have hk0:(0:Int)<=(k:Int):=om;have hwi:IntKind.i64.wrap ((i:Int)+1)=(i:Int)+1:=IntWalk.i64_in _ om;have hwk:IntKind.i64.wrap ((k:Int)+1)=(k:Int)+1:=IntWalk.i64_in _ om;have HP:=hid hP;obtain⟨c0,c1,c2,c3,ci,ck⟩:=hP.cells;clear hP;have HJ:=hid hJ;clear hJ;by_cases hb:s[i]=t[k]
 ·have HL:Hid (a0t s.data.toList t.data.toList i k=[⟨1,i+1,k+1,0⟩,⟨3,i+1,k,1⟩,⟨4,i,k+1,1⟩]):=hid (aff (by rw[<-a05];exact hi) (by rw[<-a05];exact hk) (by rw[a2t s hi,a2t t hk,hb]));rw[HL.out]at hY⊢;have hne:((s[i].toNat:Int) != (t[k].toNat:Int))=false:=by rw[hb];simp
  clear hb;refine callsIn_of_wp func253 rfl trivial ?_ rfl;simp only[ntmps253,ape,aom,aow,Nat.reduceAdd,Nat.reduceSub,ap3,ap4,apf,ap7,aoM,aoA];gi_wp2;obtain⟨W1,hW1⟩:∃W1,W1=W.alloc (.cells #[.int .i64 1,.int .i64 ((i:Int)+1),.int .i64 ((k:Int)+1),.int .i64 0] 291):=⟨_,rfl⟩
  rw[<-hW1];have hb1:Below W.heap.size W W1:=by rw[hW1];exact(aoi _ _).alloc (aof _) _
  have hj1:J [] W1:=by rw[hW1];exact HJ.out [] W _ none h0 (World.grownBy_alloc W _ none) (fun r e=>by cases e)
  have hP1:=HP.out.below hb1;have hx1:W1.heap[W.heap.size]? =some (.cells #[.int .i64 1,.int .i64 ((i:Int)+1),.int .i64 ((k:Int)+1),.int .i64 0] 291 (0,0)):=by rw[hW1];exact World.alloc_heap_new W _
  have hsz:Hid (W.heap.size<=W1.heap.size):=hid hb1.size;have HW1:=hid hW1;have HJ2:Hid (J [] W1.drew):=hid (HJ.out [] W1 _ none hj1 (a7g W1) (fun r e=>by cases e));clear hj1 hW1 c0 c1 c2 c3 ci ck;obtain⟨c0,c1,c2,c3,ci,ck⟩:=hP1.cells;have x0:=heap_cell (j:=0) hx1 rfl;have x1:=heap_cell (j:=1) hx1 rfl;have x2:=heap_cell (j:=2) hx1 rfl;have x3:=heap_cell (j:=3) hx1 rfl;have HX1:=hid hx1;have HP1:=hid hP1;have HB1:=hid hb1;clear hx1 hP1 hb1;gi_region
  have hj1d:J [] W1.drew:=HJ2.out;have HPW:=hid (HP1.out.below (amQ W1));obtain⟨fn,tmps,assign,body,hy,hR⟩:=hY [] ⟨1,i+1,k+1,0⟩ (W1.drew) oz hj1d oz;rw[show a4o ⟨1,i+1,k+1,0⟩= .agg #[.int .i64 1,.int .i64 ((i:Int)+1),.int .i64 ((k:Int)+1),.int .i64 0]from rfl]at hy;gi_wp2;refine hR.mono ?_;clear hy hR;rintro e W3 (⟨rfl,hJ3,hk3⟩|⟨rfl,hJx3⟩);rotate_left
  ·gi_wp2;refine bodyPost_ret (results_none rfl _ _ _) rfl ?_;exact⟨⟨_,rfl⟩,.inr ⟨_,trivial,hJx3⟩⟩
  have HP3:=hid (HPW.out.kq hk3);clear c0 c1 c2 c3 ci ck hk3;obtain⟨c0,c1,c2,c3,ci,ck⟩:=HP3.out.cells;obtain⟨fn,tmps,assign,body,hy,hR⟩:=hY ([]++[⟨1,i+1,k+1,0⟩]) ⟨3,i+1,k,1⟩ W3 oz hJ3 oz;rw[show a4o ⟨3,i+1,k,1⟩= .agg #[.int .i64 3,.int .i64 ((i:Int)+1),.int .i64 k,.int .i64 1]from rfl]at hy;gi_wp2;refine hR.mono ?_;clear hy hR;rintro e W4 (⟨rfl,hJ4,hk4⟩|⟨rfl,hJx4⟩);rotate_left
  ·gi_wp2;refine bodyPost_ret (results_none rfl _ _ _) rfl ?_;exact⟨⟨_,rfl⟩,.inr ⟨_,trivial,hJx4⟩⟩
  have HP4:=hid (HP3.out.kq hk4);clear c0 c1 c2 c3 ci ck hk4 hJ3;obtain⟨c0,c1,c2,c3,ci,ck⟩:=HP4.out.cells;obtain⟨fn,tmps,assign,body,hy,hR⟩:=hY ([]++[⟨1,i+1,k+1,0⟩]++[⟨3,i+1,k,1⟩]) ⟨4,i,k+1,1⟩ W4 oz hJ4 oz;rw[show a4o ⟨4,i,k+1,1⟩= .agg #[.int .i64 4,.int .i64 i,.int .i64 ((k:Int)+1),.int .i64 1]from rfl]at hy;gi_wp2;refine hR.mono ?_;clear hy hR;rintro e W5 (⟨rfl,hJ5,hk5⟩|⟨rfl,hJx5⟩)
  ·gi_wp2;go_end0
   exact⟨⟨_,rfl⟩,.inl ⟨_,rfl,hJ5⟩⟩
  gi_wp2;go_end0
  exact⟨⟨_,rfl⟩,.inr ⟨_,trivial,hJx5⟩⟩
 have HL:Hid (a0t s.data.toList t.data.toList i k=[⟨2,i+1,k+1,1⟩,⟨3,i+1,k,1⟩,⟨4,i,k+1,1⟩]):=hid (ad4 (by rw[<-a05];exact hi) (by rw[<-a05];exact hk) (by rw[a2t s hi,a2t t hk];exact hb));rw[HL.out]at hY⊢
 have hne:((s[i].toNat:Int) != (t[k].toNat:Int))=true:=by
  rw[bne_iff_ne];exact fun h=>hb (UInt8.toNat_inj.1 om)
 clear hb;refine callsIn_of_wp func253 rfl trivial ?_ rfl;simp only[ntmps253,ape,aom,aow,Nat.reduceAdd,Nat.reduceSub,ap3,ap4,apf,ap7,aoM,aoA];gi_wp2;obtain⟨W1,hW1⟩:∃W1,W1=W.alloc (.cells #[.int .i64 1,.int .i64 ((i:Int)+1),.int .i64 ((k:Int)+1),.int .i64 0] 291):=⟨_,rfl⟩
 rw[<-hW1];have hb1:Below W.heap.size W W1:=by rw[hW1];exact(aoi _ _).alloc (aof _) _
 have hj1:J [] W1:=by rw[hW1];exact HJ.out [] W _ none h0 (World.grownBy_alloc W _ none) (fun r e=>by cases e)
 have hP1:=HP.out.below hb1;have hx1:W1.heap[W.heap.size]? =some (.cells #[.int .i64 1,.int .i64 ((i:Int)+1),.int .i64 ((k:Int)+1),.int .i64 0] 291 (0,0)):=by rw[hW1];exact World.alloc_heap_new W _
 have hsz:Hid (W.heap.size<=W1.heap.size):=hid hb1.size;have HW1:=hid hW1;have HJ2:Hid (J [] W1.drew):=hid (HJ.out [] W1 _ none hj1 (a7g W1) (fun r e=>by cases e));clear hj1 hW1 c0 c1 c2 c3 ci ck;obtain⟨c0,c1,c2,c3,ci,ck⟩:=hP1.cells;have x0:=heap_cell (j:=0) hx1 rfl;have x1:=heap_cell (j:=1) hx1 rfl;have x2:=heap_cell (j:=2) hx1 rfl;have x3:=heap_cell (j:=3) hx1 rfl;have HX1:=hid hx1;have HP1:=hid hP1;have HB1:=hid hb1;clear hx1 hP1 hb1;gi_region
 rw[HW1.out];have hP2:StAt s t i k bi bp bk (W.alloc (.cells #[.int .i64 1,.int .i64 ((i:Int)+1),.int .i64 ((k:Int)+1),.int .i64 0] 291)):=by rw[<-HW1.out];exact HP1.out
 clear c0 c1 c2 c3 ci ck x0 x1 x2 x3;obtain⟨c0,c1,c2,c3,ci,ck⟩:=hP2.cells;clear hP2;have hbw:Below W.heap.size W (W.alloc (.cells #[.int .i64 2,.int .i64 ((i:Int)+1),.int .i64 ((k:Int)+1),.int .i64 1] 291)).drew:=((aoi _ _).alloc (aof _) _).drew
 have HPW:=hid (HP.out.below hbw);have hj1d:J [] (W.alloc (.cells #[.int .i64 2,.int .i64 ((i:Int)+1),.int .i64 ((k:Int)+1),.int .i64 1] 291)).drew:=HJ.out [] _ _ none (HJ.out [] W _ none h0 (World.grownBy_alloc W _ none) (fun r e=>by cases e)) (a7g _) (fun r e=>by cases e)
 clear hbw;obtain⟨fn,tmps,assign,body,hy,hR⟩:=hY [] ⟨2,i+1,k+1,1⟩ ((W.alloc (.cells #[.int .i64 2,.int .i64 ((i:Int)+1),.int .i64 ((k:Int)+1),.int .i64 1] 291)).drew) oz hj1d oz;rw[show a4o ⟨2,i+1,k+1,1⟩= .agg #[.int .i64 2,.int .i64 ((i:Int)+1),.int .i64 ((k:Int)+1),.int .i64 1]from rfl]at hy;gi_wp2;refine hR.mono ?_;clear hy hR;rintro e W3 (⟨rfl,hJ3,hk3⟩|⟨rfl,hJx3⟩);rotate_left
 ·gi_wp2;refine bodyPost_ret (results_none rfl _ _ _) rfl ?_;exact⟨⟨_,rfl⟩,.inr ⟨_,trivial,hJx3⟩⟩
 have HP3:=hid (HPW.out.kq hk3);clear c0 c1 c2 c3 ci ck hk3;obtain⟨c0,c1,c2,c3,ci,ck⟩:=HP3.out.cells;obtain⟨fn,tmps,assign,body,hy,hR⟩:=hY ([]++[⟨2,i+1,k+1,1⟩]) ⟨3,i+1,k,1⟩ W3 oz hJ3 oz;rw[show a4o ⟨3,i+1,k,1⟩= .agg #[.int .i64 3,.int .i64 ((i:Int)+1),.int .i64 k,.int .i64 1]from rfl]at hy;gi_wp2;refine hR.mono ?_;clear hy hR;rintro e W4 (⟨rfl,hJ4,hk4⟩|⟨rfl,hJx4⟩);rotate_left
 ·gi_wp2;refine bodyPost_ret (results_none rfl _ _ _) rfl ?_;exact⟨⟨_,rfl⟩,.inr ⟨_,trivial,hJx4⟩⟩
 have HP4:=hid (HP3.out.kq hk4);clear c0 c1 c2 c3 ci ck hk4 hJ3;obtain⟨c0,c1,c2,c3,ci,ck⟩:=HP4.out.cells;obtain⟨fn,tmps,assign,body,hy,hR⟩:=hY ([]++[⟨2,i+1,k+1,1⟩]++[⟨3,i+1,k,1⟩]) ⟨4,i,k+1,1⟩ W4 oz hJ4 oz;rw[show a4o ⟨4,i,k+1,1⟩= .agg #[.int .i64 4,.int .i64 i,.int .i64 ((k:Int)+1),.int .i64 1]from rfl]at hy;gi_wp2;refine hR.mono ?_;clear hy hR;rintro e W5 (⟨rfl,hJ5,hk5⟩|⟨rfl,hJx5⟩)
 ·gi_wp2;go_end0
  exact⟨⟨_,rfl⟩,.inl ⟨_,rfl,hJ5⟩⟩
 gi_wp2;go_end0
 exact⟨⟨_,rfl⟩,.inr ⟨_,trivial,hJx5⟩⟩
theorem ale(l bi bp bk:Nat)(s t:ByteArray)(i k:Nat)(hi:i<=s.size)(hk:k<=t.size)(hs:s.size<=20)(ht:t.size<=20)(J Jx:List Stp->World->Prop)
  (hY:∀pre x W,x∈a0t s.data.toList t.data.toList i k->J pre W->pre.length<4->YieldAt Fence.wide 2 prog l #[a4o x] W (a7h J Jx pre x W))
  (W:World)(hJ:AbidesFrom W.heap.size J)(hP:StAt s t i k bi bp bk W)(h0:J [] W):
  CallsIn Fence.wide 3 prog 253 #[.func (.yield l) #[] #[],.pointer (some ⟨bi,0,none⟩),.pointer (some ⟨bp,0,none⟩),.pointer (some ⟨bk,0,none⟩)] W (a58 (a0t s.data.toList t.data.toList i k) J Jx):=by
 rcases Nat.lt_or_eq_of_le hi with h1|rfl
 ·rcases Nat.lt_or_eq_of_le hk with h2|rfl
  ·exact afi l bi bp bk s t i k h1 h2 hs ht J Jx hY W hJ hP h0
  exact afh l bi bp bk s t i h1 hs ht J Jx hY W hP h0
 rcases Nat.lt_or_eq_of_le hk with h2|rfl
 ·exact adV l bi bp bk s t k h2 hs ht J Jx hY W hP h0
 exact afg l bi bp bk s t hs ht J Jx W hP h0
abbrev a6D(L:List Stp):={x:Stp // x∈L}
theorem afj(bi bp bk:Nat)(s t:ByteArray)(i k:Nat)(hi:i<=s.size)(hk:k<=t.size)(hs:s.size<=20)(ht:t.size<=20)(w:World)(hc:StAt s t i k bi bp bk w):
  SeqStopsK Fence.wide 3 prog 253 #[.pointer (some ⟨bi,0,none⟩),.pointer (some ⟨bp,0,none⟩),.pointer (some ⟨bk,0,none⟩)] (fun x:a6D (a0t s.data.toList t.data.toList i k)=>#[a4o x.1]) Kq (fun ys=>ys.map Subtype.val=a0t s.data.toList t.data.toList i k) (fun _=>True) 4 w:=fun l J Jx W hW hJ hJx hY h0=>by
 refine(ale l bi bp bk s t i k hi hk hs ht (fun ds W=>∃pre:List (a6D (a0t s.data.toList t.data.toList i k)),pre.map Subtype.val=ds/\J pre W) (fun ds W=>∃pre:List (a6D (a0t s.data.toList t.data.toList i k)),pre.map Subtype.val=ds/\Jx pre W) ?_ W ?_ (hc.below hW) ⟨[],rfl,h0⟩).mono ?_
 ·rintro _ x W1 hx ⟨pre,rfl,hj⟩ hl;refine(hY pre ⟨x,hx⟩ W1 hj (by simpa using hl)).mono ?_
  rintro e w' (⟨h1,h2,h3⟩|⟨h1,h2⟩)
  ·exact .inl ⟨h1,⟨_,by simp,h2⟩,h3⟩
  exact .inr ⟨h1,⟨_,by simp,h2⟩⟩
 ·rintro s A B row ⟨pre,h1,h2⟩ hg hr;exact⟨pre,h1,hJ pre A B row h2 hg hr⟩
 rintro e W' ⟨hv,⟨ys,rfl,pre,h1,h2⟩|⟨_,_,pre,_,h2⟩⟩
 ·exact⟨hv,.inl ⟨pre,h1,h2⟩⟩
 exact⟨hv,.inr ⟨pre,trivial,h2⟩⟩
def a5a(s t:ByteArray)(i k:Nat)(w:World):World:=((w.alloc (.cells #[.string s,.string t,.int .i64 1,.int .i64 1] 253)).alloc (.cells #[.int .i64 i] 3)).alloc (.cells #[.int .i64 k] 3)
theorem alf(s t:ByteArray)(i k:Nat)(w:World):
  CallsIn Fence.wide 3 prog 236 #[.agg #[.string s,.string t,.int .i64 1,.int .i64 1],.int .i64 i,.int .i64 k] w fun e w'=>e= .returned (.func (.func 253) #[] #[.pointer (some ⟨w.heap.size+1,0,none⟩),.pointer (some ⟨w.heap.size,0,none⟩),.pointer (some ⟨w.heap.size+2,0,none⟩)])/\w'=a5a s t i k w:=by
 unfold a5a;refine callsIn_wide.2 ?_;go_enter func236,ntmps236;go_wp2;go_ret;exact⟨rfl,rfl⟩
theorem adW(s t:ByteArray)(i k:Nat)(w:World):Below w.heap.size w (a5a s t i k w):=(((aoi _ w).alloc (aof _) _).alloc oz _).alloc km _
theorem afk(s t:ByteArray)(i k:Nat)(w:World):(a5a s t i k w).heap.size=w.heap.size+3:=by simp[a5a]
theorem ajp(s t:ByteArray)(i k:Nat)(w:World):StAt s t i k (w.heap.size+1) w.heap.size (w.heap.size+2) (a5a s t i k w):=by
 unfold a5a;have h1:=World.alloc_heap_new w (.cells #[.string s,.string t,.int .i64 1,.int .i64 1] 253);have h2:=World.alloc_heap_new (w.alloc (.cells #[.string s,.string t,.int .i64 1,.int .i64 1] 253)) (.cells #[.int .i64 i] 3);have h3:=World.alloc_heap_new ((w.alloc (.cells #[.string s,.string t,.int .i64 1,.int .i64 1] 253)).alloc (.cells #[.int .i64 i] 3)) (.cells #[.int .i64 k] 3);rw[aoq]at h2;rw[aoq,aoq]at h3;exact⟨(aop _ _ _ km).trans ((aop _ _ _ oz).trans h1),(aop _ _ _ oz).trans h2,h3⟩
end Go.Proofs.YtdfkaijeppdhaaaGreatDoor
