/- Part of the proof. -/
import Derived.Test.YtdfkaijeppdhaaaGreatDoorZHs24
import Derived.Test.YtdfkaijeppdhaaaGreatDoorZHs23
set_option maxRecDepth 100000
set_option maxHeartbeats 8000000

namespace Go.Proofs.YtdfkaijeppdhaaaGreatDoor.Td
open Lib (hid)
open Proofs.Tryz Go.RowKit Go.Shelf
attribute [local go_sem] Oper.semAt_some
def a15(c:UInt8):List UInt8->List (List UInt8)
 |[]=>[[]]
 |b::r=>if b==c then []::a15 c r else match a15 c r with
  |[]=>[[b]]
  |x::xs=>(b::x)::xs
theorem aaZ(c:UInt8):∀l:List UInt8,(Lib.indexByte l c= -1/\a15 c l=[l])\/(∃i:Nat,Lib.indexByte l c=i/\i<l.length/\a15 c l=l.take i::a15 c (l.drop (i+1)))
 |[]=>.inl ⟨rfl,rfl⟩
 | b::r=>by
  by_cases h:b=c
  ·subst h;exact .inr ⟨0,by simp[Lib.indexByte],by simp,by simp[a15]⟩
  have hb:(b==c)=false:=by simpa using h
  rcases aaZ c r with⟨h1,h2⟩|⟨i,h1,h2,h3⟩
  ·exact .inl ⟨by simp[Lib.indexByte,hb,h1],by simp[a15,hb,h2]⟩
  refine .inr ⟨i+1,?_,by simp[h2],?_⟩
  ·unfold Lib.indexByte;rw[hb,h1];have:((i:Int)== -1)=false:=by simp
   simp[this]
  rw[show a15 c (b::r)=match a15 c r with|[]=>[[b]]|x::xs=>(b::x)::xs by simp[a15,hb],h3];simp
def splitA(c:UInt8)(s:ByteArray):List ByteArray:=(a15 c s.data.toList).map fun l=>⟨l.toArray⟩
theorem ba_ext{s t:ByteArray}(h:s.data.toList=t.data.toList):s=t:=by
 cases s;cases t
 simp only[ByteArray.mk.injEq];exact Array.toList_inj.1 h
theorem ba_take(s:ByteArray)(i:Nat):s.extract 0 i=⟨(s.data.toList.take i).toArray⟩:=by
 apply ba_ext;simp[ByteArray.data_extract]
theorem ba_drop(s:ByteArray)(i:Nat):s.extract i s.size=⟨(s.data.toList.drop i).toArray⟩:=by
 apply ba_ext;simp only[ByteArray.data_extract,Array.toList_extract,List.extract_eq_take_drop];rw[aou];simp
theorem ahj(c:UInt8)(s:ByteArray):(Lib.indexByte s.data.toList c= -1/\splitA c s=[s])\/
  (∃i:Nat,Lib.indexByte s.data.toList c=i/\i<s.size/\splitA c s=s.extract 0 i::splitA c (s.extract (i+1) s.size)):=by
 rcases aaZ c s.data.toList with⟨h1,h2⟩|⟨i,h1,h2,h3⟩
 ·refine .inl ⟨h1,?_⟩
  unfold splitA;rw[h2];simp
 refine .inr ⟨i,h1,by simpa using h2,?_⟩
 unfold splitA;rw[h3,ba_take,ba_drop];simp
structure SqAt(bs:Nat)(c:UInt8)(s:ByteArray)(X:World):Prop where
 s:X.heap[bs]? =some (.cells #[.string s] 9 (0,0))
 sep:X.heap[bs+1]? =some (.cells #[.string ⟨#[c]⟩] 9 (0,0))
 sv:X.heap[bs+2]? =some (.cells #[.int .i64 0] 3 (0,0))
def sqK(bs:Nat)(k:Nat):Prop:=k=bs\/k=bs+1\/k=bs+2
def sqS(bs:Nat)(k:Nat):Prop:=k=bs
theorem SqAt.kept{bs:Nat}{c:UInt8}{s:ByteArray}{X X':World}(h:SqAt bs c s X)(hk:∀k,sqK bs k->X'.heap[k]? =X.heap[k]?):SqAt bs c s X':=
 ⟨(hk _ (.inl rfl)).trans h.s,(hk _ (.inr (.inl rfl))).trans h.sep,(hk _ (.inr (.inr rfl))).trans h.sv⟩
theorem SqAt.set{bs:Nat}{c:UInt8}{s:ByteArray}{X:World}(h:SqAt bs c s X)(t:ByteArray):SqAt bs c t (X.setCell ⟨bs,0,none⟩ (.string t)):=by
 refine⟨?_,(aok _ _ _ _ (by show bs+1≠bs;omega)).trans h.sep,(aok _ _ _ _ (by show bs+2≠bs;omega)).trans h.sv⟩;obtain⟨hlt,hk⟩:=aog.1 h.s;show (X.heap.modify bs _)[bs]? =_;rw[aoD (by rw[apm];exact hlt),ap0,hk];simp
theorem heap_cell{X:World}{b j:Nat}{A:Array Value}{T:TypeId}{fr:Nat×Nat}{v:Value}(h:X.heap[b]? =some (.cells A T fr))(hj:A[j]? =some v):X.cell? ⟨b,j,none⟩=some v:=by
 simp[World.cell?,h,hj]
def ae9(bs:Nat)(X:World):Nat:=match X.heap[bs]? with
 |some (Obj.cells A _ _)=>match A[0]? with
  |some (Value.string s)=>s.size
  |_=>0
 |_=>0
theorem act{bs:Nat}{c:UInt8}{s:ByteArray}{X:World}(h:SqAt bs c s X):ae9 bs X=s.size:=by
 unfold ae9;rw[h.s];rfl
theorem pre_snoc{α:Type}(p:List α)(x:α)(r:List α):p++[x]<+:p++x::r:=⟨r,by simp⟩
theorem a8x(n:Nat)(hn:1<=n)(bs:Nat)(c:UInt8)(s:ByteArray)(hs:s.size<=9223372036854775806):
  SeqOwn Fence.wide n prog 245 #[.pointer (some ⟨bs+1,0,none⟩),.pointer (some ⟨bs,0,none⟩),.pointer (some ⟨bs+2,0,none⟩)] Value.string (sqS bs) (sqK bs) (SqAt bs c s) (splitA c s):=by
 intro l J Jx W hJ hY hSt h0;obtain⟨xs,hxs⟩:∃xs,xs=splitA c s:=⟨_,rfl⟩
 rw[<-hxs]at hY⊢;have c1:W.cell? ⟨bs+1,0,none⟩=some (.string ⟨#[c]⟩):=heap_cell hSt.sep rfl;have hz:(1:Int)≠0:=by decide
 refine callsIn_of_wp func245 rfl trivial ?_ rfl;simp only[ntmps245,ape,aom,aow,Nat.reduceAdd,Nat.reduceSub,ap3,ap4,apf,ap7,aoM,aoA];have HST:=hid hSt;have H0:=hid h0;have HXS:=hid hxs;have HY:=hid hY;have HJ:=hid hJ;clear hSt h0 hxs hY hJ;gi_wp2;gi_loopw [7,8] (fun i f wr=>∃(pre:List ByteArray) (r:ByteArray),r.size<=s.size/\Hid (xs=pre++splitA c r)/\Hid (J pre wr)/\Hid (SqAt bs c r wr)) (fun _ _ wr=>ae9 bs wr)
 case atStart=>exact⟨[],s,aof _,HXS,H0,HST⟩
 case round=>
  obtain⟨pre,r,hr,hx,hj,hst⟩:=hrel;have d1:wr.cell? ⟨bs+1,0,none⟩=some (.string ⟨#[c]⟩):=heap_cell hst.out.sep rfl;have d2:wr.cell? ⟨bs,0,none⟩=some (.string r):=heap_cell hst.out.s rfl;have d3:wr.cell? ⟨bs+2,0,none⟩=some (.int .i64 0):=heap_cell hst.out.sv rfl;have d4:wr.frozen? ⟨bs,0,none⟩=false:=by simp[World.frozen?,hst.out.s]
  rcases ahj c r with⟨hi,he⟩|⟨i,hi,hlt,he⟩
  ·gi_wp2_with fail
   refine⟨trivial,callsIn_wide.2 ((Tryz.strings_Index_one r c wr).mono ?_)⟩;rintro e w' ⟨rfl,rfl⟩;rw[hi];obtain⟨fn,tmps,assign,body,hy,hR⟩:=HY.out pre r w' (by rw[hx.out,he];exact apH _) hj.out;gi_wp2;refine hR.mono ?_;rintro e W3 (⟨rfl,hJ3,hk3⟩|⟨rfl,hJx3⟩)
   ·gi_wp2;go_end0
    exact⟨⟨_,rfl⟩,.inl (by rw[hx.out,he];exact hJ3)⟩
   gi_wp2;go_end0
   exact⟨⟨_,rfl⟩,.inr ⟨_,by rw[hx.out,he];exact apH _,hJx3⟩⟩
  gi_wp2_with fail
  refine⟨trivial,callsIn_wide.2 ((Tryz.strings_Index_one r c wr).mono ?_)⟩;rintro e w' ⟨rfl,rfl⟩;rw[hi];obtain⟨fn,tmps,assign,body,hy,hR⟩:=HY.out pre (r.extract 0 i) w' (by rw[hx.out,he];exact pre_snoc _ _ _) hj.out;gi_wp2;refine hR.mono ?_;rintro e W3 (⟨rfl,hJ3,hk3⟩|⟨rfl,hJx3⟩)
  ·have hst3:=hst.out.kept hk3;have d1:W3.cell? ⟨bs+1,0,none⟩=some (.string ⟨#[c]⟩):=heap_cell hst3.sep rfl;have d2:W3.cell? ⟨bs,0,none⟩=some (.string r):=heap_cell hst3.s rfl;have d4:W3.frozen? ⟨bs,0,none⟩=false:=by simp[World.frozen?,hst3.s]
   gi_wp2;go_roundw
   case rel=>exact⟨pre++[r.extract 0 i],r.extract (i+1) r.size,by simp;omega,hid (by rw[hx.out,he];simp),hid (HJ.out _ _ _ (a2i _ _ _ _ rfl) hJ3),hid (hst3.set _)⟩
   case measure=>rw[act (hst3.set _),act hst.out];simp;omega
  gi_wp2;refine bodyPost_ret (results_none rfl _ _ _) rfl ?_;exact⟨⟨_,rfl⟩,.inr ⟨_,by rw[hx.out,he];exact pre_snoc _ _ _,hJx3⟩⟩
theorem a8y(s:ByteArray)(c:UInt8)(w:World):
  Calls prog 193 #[.string s,.string ⟨#[c]⟩] w fun e w'=>e= .returned (.func (.func 245) #[] #[.pointer (some ⟨w.heap.size+1,0,none⟩),.pointer (some ⟨w.heap.size,0,none⟩),.pointer (some ⟨w.heap.size+2,0,none⟩)])/\
   w'=((w.alloc (.cells #[.string s] 9)).alloc (.cells #[.string ⟨#[c]⟩] 9)).alloc (.cells #[.int .i64 0] 3):=by
 go_enter func193,ntmps193;go_wp2;go_ret;exact⟨rfl,rfl⟩
theorem aea(s:ByteArray)(c:UInt8)(w:World):
  SqAt w.heap.size c s (((w.alloc (.cells #[.string s] 9)).alloc (.cells #[.string ⟨#[c]⟩] 9)).alloc (.cells #[.int .i64 0] 3)):=by
 refine⟨(aop _ _ _ km).trans ((aop _ _ _ oz).trans (World.alloc_heap_new w _)),?_,?_⟩
 ·have:=World.alloc_heap_new (w.alloc (.cells #[.string s] 9)) (.cells #[.string ⟨#[c]⟩] 9);rw[aoq]at this;exact(aop _ _ _ oz).trans this
 have:=World.alloc_heap_new ((w.alloc (.cells #[.string s] 9)).alloc (.cells #[.string ⟨#[c]⟩] 9)) (.cells #[.int .i64 0] 3);rw[aoq,aoq]at this;exact this
theorem SqAt.below{bs:Nat}{c:UInt8}{s:ByteArray}{X X':World}(h:SqAt bs c s X)(hb:Below X.heap.size X X'):SqAt bs c s X':=by
 have lt:∀{k o},X.heap[k]? =some o->k<X.heap.size:=fun h=>(aog.1 h).1
 exact⟨(hb.block _ (lt h.s)).trans h.s,(hb.block _ (lt h.sep)).trans h.sep,(hb.block _ (lt h.sv)).trans h.sv⟩
end Go.Proofs.YtdfkaijeppdhaaaGreatDoor.Td
namespace Go.Proofs.YtdfkaijeppdhaaaGreatDoor.Td
open Go.RowKit Go.Shelf
def a8z(s:ByteArray):Option Int:=match Lib.atoiAll s.data.toList with
 | .ok n=>some n
 |_=>none
def allS{α β:Type}(f:α->Option β):List α->Option (List β)
 |[]=>some []
 |x::xs=>match f x,allS f xs with
  |some y,some ys=>some (y::ys)
  |_,_=>none
theorem allS_snoc{α β:Type}(f:α->Option β)(xs:List α)(x:α):allS f (xs++[x])=match allS f xs,f x with
  |some ys,some y=>some (ys++[y])
  |_,_=>none:=by
 induction xs with
 |nil=>simp only[aoM,allS];cases f x<;>rfl
 |cons z zs ih=>
  rw[aoA,allS,ih];cases h1:f z<;>cases h2:allS f zs<;>cases h3:f x<;>simp[allS,h1,h2]
theorem allS_bad{α β:Type}(f:α->Option β)(xs:List α){x:α}(hx:x∈xs)(h:f x=none):allS f xs=none:=by
 induction xs with
 |nil=>simp at hx
 |cons z zs ih=>
  rcases aov.1 hx with rfl|hx
  ·simp[allS,h]
  rw[allS,ih hx];cases f z<;>rfl
theorem allS_len{α β:Type}(f:α->Option β):∀(xs:List α) (ys:List β),allS f xs=some ys->ys.length=xs.length
 |[],ys,h=>by simp only[allS,Option.some.injEq]at h;subst h;rfl
 |x::xs,ys,h=>by
  rw[allS]at h;cases h1:f x<;>cases h2:allS f xs<;>simp[h1,h2]at h
  subst h;simp[allS_len f xs _ h2]
def abJ(s:ByteArray):Option (List Int):=allS a8z (splitA 44 s)
def abK(s:ByteArray):Option (List (List Int)):=allS abJ (splitA 59 s)
def parP(s:ByteArray):Option (List (List Int)):=if 240<s.size then none else match abK s with
 |none=>none
 |some t=>if vld t&&decide (a27 t=s.data.toList)then some t else none
def a0I:List UInt8->List (List Int)->List Int->Int->Int->Option (List (List Int))
 |[],d,c,n,g=>if 4<d.length+1\/12<=c.length then none else some (d++[c++[g * n]])
 |b::r,d,c,n,g=>if b=45 then a0I r d c n (-1)else if 48<=b.toNat/\b.toNat<=57 then a0I r d c (min (10 * n+(b.toNat-48:Nat)) 1000) g else
  if 4<d.length+1\/12<=c.length then none else if b=59 then a0I r (d++[c++[g * n]]) [] 0 1 else a0I r d (c++[g * n]) 0 1
def a1J(s:ByteArray):Option (List (List Int)):=match a0I s.data.toList [] [] 0 1 with
 |none=>none
 |some t=>if vld t&&decide (a27 t=s.data.toList)then some t else none
end Go.Proofs.YtdfkaijeppdhaaaGreatDoor.Td
