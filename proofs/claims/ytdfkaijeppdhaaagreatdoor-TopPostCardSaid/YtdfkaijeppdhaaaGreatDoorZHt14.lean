/- Part of the proof. -/
import Derived.Test.YtdfkaijeppdhaaaGreatDoorZHt13
set_option maxRecDepth 100000
set_option maxHeartbeats 8000000

namespace Go.Proofs.YtdfkaijeppdhaaaGreatDoor
open Go.RowKit Go.Shelf
open Lib (hid)
theorem a7H(s:ByteArray){k:Nat}(hlt:k<s.size)(h:a11 s[k].toNat=true):a01 s=false:=by
 unfold a01
 have:(s.data.toList.any fun c=>a11 c.toNat)=true:=by
  rw[<-amt k s.data.toList,drop_byte hlt];simp[h]
 rw[this];simp
theorem aeY(s:ByteArray)(h:(s.data.toList.take s.size).any (fun c=>a11 c.toNat)=false):a01 s=betw 1 s.size 8:=by
 unfold a01;rw[alG (by rw[<-a03];omega)]at h;rw[h];simp
theorem a0W(s:ByteArray)(w:World)(hs:s.size<=4000000000):Calls Tryz.prog 72 #[.string s] w (aoQ (a01 s) w):=by
 have HT0:Hid ((s.data.toList.take 0).any (fun c=>a11 c.toNat)=false):=hid (by simp);go_enter Tryz.func72,Tryz.ntmps72;go_wp2;go_loopw [3] (fun i wr=>∃k:Nat,k<=s.size/\k<=9/\i= .int .i64 k/\Hid ((s.data.toList.take k).any (fun c=>a11 c.toNat)=false)/\wr=w) (fun i _=>s.size-(intOf i).toNat)
 case atStart=>exact⟨0,by omega,by omega,rfl,HT0,rfl⟩
 case round=>
  obtain⟨k,hk,hk9,rfl,HT,rfl⟩:=hrel;by_cases hlt:k<s.size
  ·have hlt2:(k:Int)<(s.size:Int):=by omega
   by_cases hk8:k<=8
   ·have hk8i:(k:Int)<=8:=by omega
    by_cases h97:s[k].toNat<97
    ·have h97i:(s[k].toNat:Int)<97:=by omega
     have HB:=hid (a7H s hlt (by unfold a11;rw[decide_eq_true h97i];rfl));clear h97;go_wp2;go_ret;exact⟨by rw[HB.out];rfl,rfl⟩
    have h97i:¬(s[k].toNat:Int)<97:=by omega
    by_cases h122:122<s[k].toNat
    ·have h122i:(122:Int)<(s[k].toNat:Int):=by omega
     have HB:=hid (a7H s hlt (by unfold a11;rw[decide_eq_true h122i];simp));clear h97 h122;go_wp2;go_ret;exact⟨by rw[HB.out];rfl,rfl⟩
    have h122i:¬(122:Int)<(s[k].toNat:Int):=by omega
    have HT2:Hid ((s.data.toList.take (k+1)).any (fun c=>a11 c.toNat)=false):=hid (by
     rw[a3i hlt,List.any_append,HT.out];simp[a11];omega)
    clear h97 h122;go_wp2;go_roundw
    case rel=>exact⟨k+1,by omega,by omega,by go_num,HT2,trivial⟩
    case measure=>simp[intOf];omega
   have hk8i:¬(k:Int)<=8:=by omega
   have HE:Hid (a01 s=false):=hid (by
    unfold a01;rw[show betw 1 (s.size:Int) 8=false by rw[a7r];omega];rfl)
   have h1:(1:Int)<=(s.size:Int):=by omega
   have h8:¬(s.size:Int)<=8:=by omega
   go_wp2;go_ret;exact⟨by rw[HE.out];rfl,rfl⟩
  obtain rfl:k=s.size:=by omega
  have HE:=hid (aeY s HT.out);by_cases h1:1<=s.size
  ·have h1i:(1:Int)<=(s.size:Int):=by omega
   by_cases h8:s.size<=8
   ·have h8i:(s.size:Int)<=8:=by omega
    have HD:Hid (betw 1 (s.size:Int) 8=true):=hid (by rw[betw_iff];omega);go_wp2;go_ret;exact⟨by rw[HE.out,HD.out];rfl,rfl⟩
   have h8i:¬(s.size:Int)<=8:=by omega
   have HD:Hid (betw 1 (s.size:Int) 8=false):=hid (by rw[a7r];omega);go_wp2;go_ret;exact⟨by rw[HE.out,HD.out];rfl,rfl⟩
  have h1i:¬(1:Int)<=(s.size:Int):=by omega
  have HD:Hid (betw 1 (s.size:Int) 8=false):=hid (by rw[a7r];omega);go_wp2;go_ret;exact⟨by rw[HE.out,HD.out];rfl,rfl⟩
def aop(o:Option Int):Int:=o.getD 0
def a7t(o:Option Int)(w:World)(e:Ending)(w':World):Prop:=e= .returned (.tuple #[.int .i64 (aop o),.bool o.isSome])/\w=w'
theorem aeZ{s:ByteArray}(h0:0<s.size)(h:s[0].toNat=45):anM s.data.toList=match anI (s.data.toList.drop 1) 4 with
  |some n=>if 0<n then some (-(n:Int))else none
  |none=>none:=by
 have hb:s[0]=45:=(u8_eq (n:=45) (by decide)).2 h
 have:=drop_byte (s:=s) (k:=0) h0;rw[List.drop_zero,hb]at this;conv=>lhs;rw[this]
 rfl
theorem ahp{s:ByteArray}(h:¬(0<s.size/\∀h0:0<s.size,s[0].toNat=45)):anM s.data.toList=(anI s.data.toList 4).map fun n:Nat=>(n:Int):=by
 cases hl:s.data.toList with
 |nil=>rfl
 | cons b r=>
  have h0:0<s.size:=by rw[a03,hl];simp
  have hb:=drop_byte (s:=s) (k:=0) h0;rw[List.drop_zero,hl]at hb;injection hb with hb _
  unfold anM;split
  ·rename_i r' he
   exfalso;apply h;refine⟨h0,fun _=>?_⟩;rw[List.cons.injEq]at he;rw[<-hb,he.1];rfl
  rfl
theorem a5R(s:ByteArray)(w:World)(hs:s.size<=4000000000):Calls Tryz.prog 77 #[.string s] w (a7t (anM s.data.toList) w):=by
 by_cases h:0<s.size/\∀h0:0<s.size,s[0].toNat=45
 ·obtain⟨h0,h45⟩:=h;have h45:=h45 h0;have h0i:(0:Int)<(s.size:Int):=by omega
  have h1i:(1:Int)<=(s.size:Int):=by omega
  have hb:((s[0].toNat:Int)==45)=true:=by rw[beq_iff_eq];omega
  have HR:=hid (aeZ h0 h45);have HEX:=hid (ba_drop s 1);have HN:=hid (aho (s.data.toList.drop 1) 4 w (by omega) (by rw[alS,<-a03];omega));have hlt:aoF (anI (s.data.toList.drop 1) 4)<10^4:=akI;clear h45;generalize hd:s.data.toList.drop 1=l at *;clear hd;have hlt2:aoF (anI l 4)<10000:=hlt;clear hlt;cases hn:anI l 4 with
  |none=>
   rw[hn]at HR HN;have HR2:Hid (anM s.data.toList=none):=hid HR.out;clear hn hlt2;have HN2:Hid (Calls Tryz.prog 68 #[.string (bsB l),.int .i64 4] w (aoL 0 false w)):=hid HN.out;go_enter Tryz.func77,Tryz.ntmps77;go_wp2_with fail
   rw[HEX.out];refine HN2.out.mono ?_;rintro e w1 ⟨rfl,rfl⟩;go_wp2;go_ret2;exact⟨by rw[HR2.out];rfl,rfl⟩
  | some n=>
   rw[hn]at HR HN hlt2;have hn4:n<10000:=hlt2;have HN2:Hid (Calls Tryz.prog 68 #[.string (bsB l),.int .i64 4] w (aoL n true w)):=hid HN.out;have hw1:IntKind.i64.wrap (-(n:Int))= -(n:Int):=IntWalk.i64_in _ (by omega);clear hn hlt2;by_cases hp:0<n
   ·have hpi:(0:Int)<(n:Int):=by omega
    have HR2:Hid (anM s.data.toList=some (-(n:Int))):=hid (by rw[HR.out];simp only;rw[if_pos hp]);have HPP:=hid hp;clear hp;go_enter Tryz.func77,Tryz.ntmps77;go_wp2_with fail
    rw[HEX.out];refine HN2.out.mono ?_;rintro e w1 ⟨rfl,rfl⟩;go_wp2;go_ret2;exact⟨by rw[HR2.out];show Ending.returned (Value.tuple #[.int .i64 (-(n:Int)),.bool (decide (0<n))])=_;rw[decide_eq_true HPP.out];rfl,rfl⟩
   obtain rfl:n=0:=by omega
   have HR2:Hid (anM s.data.toList=none):=hid (by rw[HR.out];simp);clear hp hw1;go_enter Tryz.func77,Tryz.ntmps77;go_wp2_with fail
   rw[HEX.out];refine HN2.out.mono ?_;rintro e w1 ⟨rfl,rfl⟩;go_wp2;go_ret2;exact⟨by rw[HR2.out];rfl,rfl⟩
 have HR:=hid (ahp h)
 have HN:Hid (Calls Tryz.prog 68 #[.string s,.int .i64 4] w (a7t (anM s.data.toList) w)):=hid (by
  refine(a6L s 4 w (by omega) hs).mono ?_
  rintro e w1 ⟨rfl,rfl⟩;refine⟨?_,rfl⟩;rw[HR.out];cases anI s.data.toList 4<;>rfl)
 by_cases h0:0<s.size
 ·have h0i:(0:Int)<(s.size:Int):=by omega
  have hb:((s[0].toNat:Int)==45)=false:=by
   rw[beq_eq_false_iff_ne];intro e;exact h ⟨h0,fun _=>by omega⟩
  generalize anM s.data.toList=o at *;clear h;go_enter Tryz.func77,Tryz.ntmps77;go_wp2_with fail
  refine HN.out.mono ?_;rintro e w1 ⟨rfl,rfl⟩;go_wp2;go_ret2;exact⟨rfl,rfl⟩
 have h0i:¬(0:Int)<(s.size:Int):=by omega
 generalize anM s.data.toList=o at *;clear h;go_enter Tryz.func77,Tryz.ntmps77;go_wp2_with fail
 refine HN.out.mono ?_;rintro e w1 ⟨rfl,rfl⟩;go_wp2;go_ret2;exact⟨rfl,rfl⟩
structure TS(S B:Nat)(w w':World):Prop where
 os:w'.os=w.os
 tape:w'.tape=w.tape
 output:w'.output=w.output
 size:w.heap.size<=w'.heap.size
 block:∀k,k<w.heap.size->k<B->k≠S->w'.heap[k]? =w.heap[k]?
theorem TS.refl(S B:Nat)(w:World):TS S B w w:=⟨rfl,rfl,rfl,aly _,fun _ _ _ _=>rfl⟩
theorem TS.trans{S B:Nat}{a b c:World}(h:TS S B a b)(k:TS S B b c):TS S B a c:=
 ⟨k.os.trans h.os,k.tape.trans h.tape,k.output.trans h.output,alF h.size k.size,fun i hi h1 h2=>(k.block i (alJ hi h.size) h1 h2).trans (h.block i hi h1 h2)⟩
theorem TS.of_below{S B:Nat}{w w':World}(h:Below w.heap.size w w'):TS S B w w':=⟨h.os,h.tape,h.output,h.size,fun k hk _ _=>h.block k hk⟩
theorem TS.set{S B:Nat}{a b:World}(h:TS S B a b)(j:Nat)(v:Value):TS S B a (b.setCell ⟨S,j,none⟩ v):=
 ⟨h.os,h.tape,h.output,by rw[apF];exact h.size,fun k hk h1 h2=>(apE _ _ _ k h2).trans (h.block k hk h1 h2)⟩
theorem TS.set2{S B:Nat}{a b:World}(h:TS S B a b){g:Nat}(hg:B<=g)(j:Nat)(v:Value):TS S B a (b.setCell ⟨g,j,none⟩ v):=
 ⟨h.os,h.tape,h.output,by rw[apF];exact h.size,fun k hk h1 h2=>(apE _ _ _ k (by show k≠g;omega)).trans (h.block k hk h1 h2)⟩
theorem TS.below{S B:Nat}{w w':World}(h:TS S B w w')(hS:S<B)(hs:S<=w.heap.size):Below S w w':=⟨h.os,h.tape,h.output,h.size,fun k hk=>h.block k (by omega) (by omega) (by omega)⟩
structure Says3(w:World)(S B:Nat)(u v t:Value)(ns ts:List ByteArray)(ss:List Int):Prop where
 cells:w.heap[S]? =some (.cells #[u,v,t] 124 (0,0))
 names:w.ownsRow B 9 1 u ns.length (ns.map Value.string)
 texts:w.ownsRow B 9 1 v ts.length (ts.map Value.string)
 sums:w.ownsRow B 3 1 t ss.length (ss.map (Value.int .i64))
 apart:∀g,u.ownBlock=some g->v.ownBlock≠some g
 low:S<B
 size:B<=w.heap.size
def SaysAt(w:World)(S B:Nat)(l:List Rw):Prop:=∃u v t,Says3 w S B u v t (l.map fun x=>x.1) (l.map fun x=>x.2.1) (l.map fun x=>x.2.2)
section
variable{w w2:World}{S B:Nat}{u v t:Value}{ns ts:List ByteArray}{ss:List Int}
theorem Says3.lt(h:Says3 w S B u v t ns ts ss):S<w.heap.size:=(alx.1 h.cells).1
theorem a0f{w:World}{base:Nat}{e:TypeId}{size:Nat}{v:Value}{n:Nat}{xs:List Value}(h:w.ownsRow base e size v n xs){k:Nat}(hk:v.ownBlock=some k):base<=k/\k<w.heap.size:=h.lt k hk
theorem a2G{w:World}{b1 b2:Nat}{e1 e2:TypeId}{s1 s2:Nat}{v1 v2:Value}{n1 n2:Nat}{x1 x2:List Value}(h1:w.ownsRow b1 e1 s1 v1 n1 x1)(h2:w.ownsRow b2 e2 s2 v2 n2 x2)(he:e1≠e2){k:Nat}(hk:v1.ownBlock=some k):v2.ownBlock≠some k:=fun h=>by
 obtain⟨c1,h3⟩:=a4w h1 hk;obtain⟨c2,h4⟩:=a4w h2 h;rw[h3]at h4;simp only[Option.some.injEq,Obj.cells.injEq]at h4;exact he h4.2.1
theorem a2l:(9:Nat)≠3:=by decide
theorem a5S{W:World}{K:Nat}{a b c:Value}{t:TypeId}(h:W.heap[K]? =some (.cells #[a,b,c] t (0,0)))(i:Nat)(v:Value):(W.setCell ⟨K,i,none⟩ v).heap[K]? =some (.cells (#[a,b,c].setIfInBounds i v) t (0,0)):=by
 obtain⟨hlt,hk⟩:=alx.1 h;show (W.heap.modify K _)[K]? =_;rw[alP (by rw[amy];exact hlt),amc,hk];simp
theorem a6P{o:Option Nat}{ob:Obj}(x:Value)(j:Nat)(hS:S<w.heap.size)(hSB:S<B)(ho:∀k,o=some k->B<=k/\k<w.heap.size)(hg:(w.alloc ob).grownBy w2 o):
  w2.heap[S]? =w.heap[S]? /\(∀k,k<w.heap.size->k≠S->o≠some k->(w2.setCell ⟨S,j,none⟩ x).heap[k]? =w.heap[k]?)/\(∀k,k≠S->(w2.setCell ⟨S,j,none⟩ x).heap[k]? =w2.heap[k]?)/\TS S B w (w2.setCell ⟨S,j,none⟩ x):=by
 have hset:∀k,k≠S->(w2.setCell ⟨S,j,none⟩ x).heap[k]? =w2.heap[k]? :=fun k hk=>apE _ _ _ k hk
 have hal:∀k,k<w.heap.size->(w.alloc ob).heap[k]? =w.heap[k]? :=fun k hk=>apD _ _ _ (by omega)
 have hsz:(w.alloc ob).heap.size=w.heap.size+1:=by simp
 refine⟨?_,fun k hk h1 h2=>?_,hset,?_⟩
 ·exact(hg.block S (by omega) (fun e=>by have:=(ho S e.symm).1;omega)).trans (hal S hS)
 ·exact(hset k h1).trans ((hg.block k (by omega) (fun e=>h2 e.symm)).trans (hal k hk))
 have hsz2:=hg.size;exact(⟨hg.os,hg.tape,hg.output,by omega,fun k hk h1 h2=>(hg.block k (by omega) (fun e=>by have:=(ho k e.symm).1;omega)).trans (hal k hk)⟩:TS S B w w2).set j x
theorem Says3.name(h:Says3 w S B u v t ns ts ss){ob:Obj}{g cap:Nat}{n:ByteArray}(hr:w2.ownsRow B 9 1 (.slice (some ⟨g,0,none⟩) (ns.length+1) cap) (ns.length+1) (ns.map Value.string++[.string n]))
  (hg:(w.alloc ob).grownBy w2 u.ownBlock)(hat:u.ownBlock=some g\/g=w.heap.size+1):
  Says3 (w2.setCell ⟨S,0,none⟩ (.slice (some ⟨g,0,none⟩) (ns.length+1) cap)) S B (.slice (some ⟨g,0,none⟩) (ns.length+1) cap) v t (ns++[n]) ts ss/\(w2.cell? ⟨S,0,none⟩=some u/\w2.frozen? ⟨S,0,none⟩=false)/\TS S B w (w2.setCell ⟨S,0,none⟩ (.slice (some ⟨g,0,none⟩) (ns.length+1) cap)):=by
 obtain⟨h1,h2,h3,h4⟩:=a6P (.slice (some ⟨g,0,none⟩) (ns.length+1) cap) 0 h.lt h.low (fun k hk=>a0f h.names hk) hg;have hc2:=h1.trans h.cells;have hgS:B<=g:=(a0f hr (k:=g) rfl).1
 have hlow:=h.low;refine⟨⟨?_,?_,?_,?_,?_,h.low,alF h.size h4.size⟩,⟨heap_cell hc2 rfl,by simp[World.frozen?,hc2]⟩,h4⟩
 ·rw[a5S hc2];rfl
 ·rw[alQ,alA];exact a0v hr fun k hk=>h3 k (by have:k=g:=(by simpa [Value.ownBlock]using hk.symm);omega)
 ·exact a0v h.texts fun k hk=>h2 k (a0f h.texts hk).2 (by have:=(a0f h.texts hk).1;omega) (fun e=>h.apart k e hk)
 ·exact a0v h.sums fun k hk=>h2 k (a0f h.sums hk).2 (by have:=(a0f h.sums hk).1;omega) (a2G h.sums h.names (Ne.symm a2l) hk)
 intro k hk hk2;have:k=g:=by simpa [Value.ownBlock]using hk.symm
 subst this;rcases hat with h5|h5
 ·exact h.apart k h5 hk2
 have:=(a0f h.texts hk2).2;omega
theorem Says3.text(h:Says3 w S B u v t ns ts ss){ob:Obj}{g cap:Nat}{n:ByteArray}(hr:w2.ownsRow B 9 1 (.slice (some ⟨g,0,none⟩) (ts.length+1) cap) (ts.length+1) (ts.map Value.string++[.string n]))
  (hg:(w.alloc ob).grownBy w2 v.ownBlock)(hat:v.ownBlock=some g\/g=w.heap.size+1):
  Says3 (w2.setCell ⟨S,1,none⟩ (.slice (some ⟨g,0,none⟩) (ts.length+1) cap)) S B u (.slice (some ⟨g,0,none⟩) (ts.length+1) cap) t ns (ts++[n]) ss/\(w2.cell? ⟨S,1,none⟩=some v/\w2.frozen? ⟨S,1,none⟩=false)/\TS S B w (w2.setCell ⟨S,1,none⟩ (.slice (some ⟨g,0,none⟩) (ts.length+1) cap)):=by
 obtain⟨h1,h2,h3,h4⟩:=a6P (.slice (some ⟨g,0,none⟩) (ts.length+1) cap) 1 h.lt h.low (fun k hk=>a0f h.texts hk) hg;have hc2:=h1.trans h.cells;have hgS:B<=g:=(a0f hr (k:=g) rfl).1
 have hlow:=h.low;refine⟨⟨?_,?_,?_,?_,?_,h.low,alF h.size h4.size⟩,⟨heap_cell hc2 rfl,by simp[World.frozen?,hc2]⟩,h4⟩
 ·rw[a5S hc2];rfl
 ·exact a0v h.names fun k hk=>h2 k (a0f h.names hk).2 (by have:=(a0f h.names hk).1;omega) (h.apart k hk)
 ·rw[alQ,alA];exact a0v hr fun k hk=>h3 k (by have:k=g:=(by simpa [Value.ownBlock]using hk.symm);omega)
 ·exact a0v h.sums fun k hk=>h2 k (a0f h.sums hk).2 (by have:=(a0f h.sums hk).1;omega) (a2G h.sums h.texts (Ne.symm a2l) hk)
 intro k hk hk2;have:k=g:=by simpa [Value.ownBlock]using hk2.symm
 subst this;rcases hat with h5|h5
 ·exact h.apart k hk h5
 have:=(a0f h.names hk).2;omega
theorem Says3.sum(h:Says3 w S B u v t ns ts ss){ob:Obj}{g cap:Nat}{n:Int}(hr:w2.ownsRow B 3 1 (.slice (some ⟨g,0,none⟩) (ss.length+1) cap) (ss.length+1) (ss.map (Value.int .i64)++[.int .i64 n]))
  (hg:(w.alloc ob).grownBy w2 t.ownBlock):
  Says3 (w2.setCell ⟨S,2,none⟩ (.slice (some ⟨g,0,none⟩) (ss.length+1) cap)) S B u v (.slice (some ⟨g,0,none⟩) (ss.length+1) cap) ns ts (ss++[n])/\(w2.cell? ⟨S,2,none⟩=some t/\w2.frozen? ⟨S,2,none⟩=false)/\TS S B w (w2.setCell ⟨S,2,none⟩ (.slice (some ⟨g,0,none⟩) (ss.length+1) cap)):=by
 obtain⟨h1,h2,h3,h4⟩:=a6P (.slice (some ⟨g,0,none⟩) (ss.length+1) cap) 2 h.lt h.low (fun k hk=>a0f h.sums hk) hg;have hc2:=h1.trans h.cells;have hgS:B<=g:=(a0f hr (k:=g) rfl).1
 have hlow:=h.low;refine⟨⟨?_,?_,?_,?_,h.apart,h.low,alF h.size h4.size⟩,⟨heap_cell hc2 rfl,by simp[World.frozen?,hc2]⟩,h4⟩
 ·rw[a5S hc2];rfl
 ·exact a0v h.names fun k hk=>h2 k (a0f h.names hk).2 (by have:=(a0f h.names hk).1;omega) (a2G h.names h.sums a2l hk)
 ·exact a0v h.texts fun k hk=>h2 k (a0f h.texts hk).2 (by have:=(a0f h.texts hk).1;omega) (a2G h.texts h.sums a2l hk)
 rw[alQ,alA];exact a0v hr fun k hk=>h3 k (by have:k=g:=(by simpa [Value.ownBlock]using hk.symm);omega)
theorem Says3.cell(h:Says3 w S B u v t ns ts ss):w.cell? ⟨S,0,none⟩=some u/\w.cell? ⟨S,1,none⟩=some v/\w.cell? ⟨S,2,none⟩=some t/\∀j,w.frozen? ⟨S,j,none⟩=false:=
 ⟨heap_cell h.cells rfl,heap_cell h.cells rfl,heap_cell h.cells rfl,fun j=>by simp[World.frozen?,h.cells]⟩
end
theorem a94{l:List Rw}{n:ByteArray}{k:Nat}(hk:k<l.length)(h0:∀j (h:j<l.length),j<k->(l[j]).1≠n)(h1:(l[k]).1=n):anr n l=k/\anz l n=l:=by
 have e:=a3j n l k h0 (fun _=>h1) (by omega);refine⟨e,?_⟩;unfold anz;rw[e,if_pos hk]
theorem ac5{l:List Rw}{n:ByteArray}(h0:∀j (h:j<l.length),(l[j]).1≠n):anr n l=l.length/\anz l n=l++[(n,emp,0)]:=by
 have e:=a3j n l l.length (fun j h _=>h0 j h) (fun h=>by omega) (aly _);refine⟨e,?_⟩;unfold anz;rw[e,if_neg (by omega)]
def aoY(S B:Nat)(l:List Rw)(n:ByteArray)(w:World)(e:Ending)(w':World):Prop:=e= .returned (.int .i64 (anr n l:Nat))/\SaysAt w' S B (anz l n)/\TS S B w w'
theorem akJ(S B:Nat)(l:List Rw)(n:ByteArray)(w:World)(h:SaysAt w S B l)(hl:l.length<=1000):Calls Tryz.prog 74 #[.pointer (some ⟨S,0,none⟩),.string n] w (aoY S B l n w):=by
 obtain⟨u,v,t,h3⟩:=h;obtain⟨i0,hi0,hz0,hz1,hz2⟩:=info_parts Tryz.infoStr;obtain⟨i1,hi1,hy0,hy1,hy2⟩:=info_parts Tryz.infoInt;have H3:=hid h3;obtain⟨c0,c1,c2,fz⟩:=h3.cell;obtain⟨ua,uc,rfl⟩:=own_shape h3.names;obtain⟨va,vc,rfl⟩:=own_shape h3.texts;obtain⟨ta,tc,rfl⟩:=own_shape h3.sums;have HNL:Hid ((l.map fun x=>x.1).length=l.length):=hid (by simp);have HTL:Hid ((l.map fun x=>x.2.1).length=l.length):=hid (by simp);have HSL:Hid ((l.map fun x=>x.2.2).length=l.length):=hid (by simp);rw[HNL.out]at c0;rw[HTL.out]at c1;rw[HSL.out]at c2;have H3':=hid h3;obtain⟨len,hlen⟩:∃len,len=l.length:=⟨_,rfl⟩
 have HLEN:=hid hlen
 have HCELL:Hid (∀k (hk:k<l.length),w.cell? ⟨(Value.slice ua (l.map fun x=>x.1).length uc).ownBlock.getD 0,k,none⟩=some (.string (l[k]).1)/\∃g,ua=some ⟨g,0,none⟩):=hid (fun k hk=>by
  obtain⟨g,cap,hv,_,_⟩:=h3.names.form (by rw[HNL.out];omega);simp only[Value.slice.injEq]at hv;obtain⟨rfl,_,rfl⟩:=hv;refine⟨?_,g,rfl⟩;have:=h3.names.cellAt k (by rw[HNL.out];omega);show w.cell? ⟨g,k,none⟩=_;rw[this];simp[hk])
 rw[<-hlen]at c0 c1 c2 hl;clear h3 hlen;go_enter Tryz.func74,Tryz.ntmps74;go_wp2;go_loopw [5] (fun i wr=>∃k:Nat,k<=len/\i= .int .i64 k/\Hid (∀j (h:j<l.length),j<k->(l[j]).1≠n)/\wr=w) (fun i _=>len-(intOf i).toNat)
 case atStart=>exact⟨0,by omega,rfl,hid (fun j h hj=>by omega),rfl⟩
 case round=>
  obtain⟨k,hk,rfl,HT,rfl⟩:=hrel;by_cases hlt:k<len
  ·have hlt2:(k:Int)<(len:Int):=by omega
   have hkl:k<l.length:=by rw[<-HLEN.out];exact hlt
   obtain⟨hck,g,rfl⟩:=HCELL.out k hkl;have hc:wr.cell? ⟨g,k,none⟩=some (.string (l[k]).1):=hck;obtain⟨x,hx⟩:∃x,x=(l[k]).1:=⟨_,rfl⟩
   rw[<-hx]at hc;have HX:=hid hx;clear hck hx;by_cases hxn:x=n
   ·have hb:(x.toList==n.toList)=true:=by rw[a5l,decide_eq_true hxn]
    have HF:=hid (a94 hkl HT.out (HX.out.symm.trans hxn));clear hxn;go_wp2;go_ret;refine⟨?_,?_,TS.refl _ _ _⟩
    ·rw[HF.out.1];rfl
    rw[HF.out.2];exact⟨_,_,_,H3.out⟩
   have hb:(x.toList==n.toList)=false:=by rw[a5l,decide_eq_false hxn]
   have HT2:Hid (∀j (h:j<l.length),j<k+1->(l[j]).1≠n):=hid (fun j h hj=>by
    by_cases e:j=k
    ·subst e;rw[<-HX.out];exact hxn
    exact HT.out j h (by omega))
   clear hxn;go_wp2;go_roundw
   case rel=>exact⟨k+1,by omega,by go_num,HT2,trivial⟩
   case measure=>simp[intOf];omega
  obtain rfl:k=len:=by omega
  have HF:=hid (ac5 fun j h=>HT.out j h (by rw[HLEN.out];exact h))
  have HFIN:=hid (fun(w':World) (u v t:Value) (h:Says3 w' S B u v t (l.map (fun x=>x.1)++[n]) (l.map (fun x=>x.2.1)++[emp]) (l.map (fun x=>x.2.2)++[0]))=>show SaysAt w' S B (anz l n)from by
   rw[HF.out.2];exact⟨u,v,t,by rw[alQ,alQ,alQ];exact h⟩)
  have HR:Hid (Says3 wr S B (.slice ua k uc) (.slice va k vc) (.slice ta k tc) (l.map fun x=>x.1) (l.map fun x=>x.2.1) (l.map fun x=>x.2.2)):=hid (by
   have h9:=H3'.out;rw[HNL.out,HTL.out,HSL.out,<-HLEN.out]at h9;exact h9)
  rw[<-HLEN.out]at HNL HTL HSL;generalize (l.map fun x=>x.1)=ns at *;generalize (l.map fun x=>x.2.1)=ts at *;generalize (l.map fun x=>x.2.2)=ss at *;have HN0:Hid (wr.ownsRow B 9 1 (.slice ua k uc) k (ns.map Value.string)):=hid (by have h9:=HR.out.names;rw[HNL.out]at h9;exact h9);have hSlt:=HR.out.lt;have hBs:=HR.out.size;have HBS0:=hid hBs;clear H3 H3' HCELL c1 c2 HT;go_wp2_with (at_builtin;refine wpList_append_lies _ rfl _ _ 22 rfl B 9 i0 (.string ⟨#[]⟩) 1 16 Tryz.underlying22 hi0 hz0 hz1 hz2 rfl (by decide) _ _ _ rfl (HN0.out.alloc _) ⟨wr.heap.size,0,none⟩ 1 1 [.string n] rfl rfl ?c1 ?c2 (by decide) ?c4 ?c5 ?c6 (wr.heap.size+1) ?c7 ?_)
  case c1=>exact(a09 _ _ _)
  case c2=>intro u hu;simp at hu;subst hu;rfl
  case c4=>unfold maxLen;omega
  case c5=>omega
  case c6=>simp;omega
  case c7=>simp
  intro g1 cap1 w2 hown2 hgrow2 hat2 hlt2;have hN:=HR.out.name (ob:=.cells #[.string n] 9) (w2:=w2) (g:=g1) (cap:=cap1) (n:=n) (by rw[HNL.out];exact hown2) hgrow2 hat2;rw[HNL.out]at hN;obtain⟨hS1,⟨d0,d1⟩,hB1⟩:=hN;have HS1:=hid hS1;have HB1:=hid hB1;clear hown2 hgrow2 hat2 hlt2 hS1 hB1 HR HN0 c0 fz;obtain⟨e0,e1,e2,ez⟩:=HS1.out.cell;have HT1:Hid ((w2.setCell ⟨S,0,none⟩ (.slice (some ⟨g1,0,none⟩) (k+1) cap1)).ownsRow B 9 1 (.slice va k vc) k (ts.map Value.string)):=hid (by have h9:=HS1.out.texts;rw[HTL.out]at h9;exact h9);have hS2:S<w2.heap.size:=by have:=HS1.out.lt;rwa[apF]at this
  have hB2:B<=w2.heap.size:=by have:=HS1.out.size;rwa[apF]at this
  go_wp2_with (at_builtin;refine wpList_append_lies _ rfl _ _ 22 rfl B 9 i0 (.string ⟨#[]⟩) 1 16 Tryz.underlying22 hi0 hz0 hz1 hz2 rfl (by decide) _ _ _ rfl (HT1.out.alloc _) ⟨w2.heap.size,0,none⟩ 1 1 [.string ⟨#[]⟩] rfl rfl ?c1 ?c2 (by decide) ?c4 ?c5 ?c6 (w2.heap.size+1) ?c7 ?_)
  case c1=>intro j u hj;have h9:=a09 (w2.setCell ⟨S,0,none⟩ (.slice (some ⟨g1,0,none⟩) (k+1) cap1)) (.string ⟨#[]⟩) 9 j u hj;rw[apF]at h9;exact h9
  case c2=>intro u hu;simp at hu;subst hu;rfl
  case c4=>unfold maxLen;omega
  case c5=>omega
  case c6=>simp;omega
  case c7=>simp
  intro g2 cap2 w3 hown3 hgrow3 hat3 hlt3;have hN:=HS1.out.text (ob:=.cells #[.string ⟨#[]⟩] 9) (w2:=w3) (g:=g2) (cap:=cap2) (n:=⟨#[]⟩) (by rw[HTL.out];exact hown3) hgrow3 (by rw[apF];exact hat3);rw[HTL.out]at hN;obtain⟨hS1,⟨d2,d3⟩,hB1⟩:=hN;have HS2:=hid hS1;have HB2:=hid (HB1.out.trans hB1);clear hown3 hgrow3 hat3 hlt3 hS1 hB1 HB1 HS1 HT1 e0 e1 e2 ez d0 d1 hS2;obtain⟨e0,e1,e2,ez⟩:=HS2.out.cell;have HU1:Hid ((w3.setCell ⟨S,1,none⟩ (.slice (some ⟨g2,0,none⟩) (k+1) cap2)).ownsRow B 3 1 (.slice ta k tc) k (ss.map (Value.int .i64))):=hid (by have h9:=HS2.out.sums;rw[HSL.out]at h9;exact h9);have hS2:S<w3.heap.size:=by have:=HS2.out.lt;rwa[apF]at this
  have hB3:B<=w3.heap.size:=by have:=HS2.out.size;rwa[apF]at this
  go_wp2_with (at_builtin;refine wpList_append_lies _ rfl _ _ 122 rfl B 3 i1 (.int .i64 0) 1 8 Tryz.underlying122 hi1 hy0 hy1 hy2 rfl (by decide) _ _ _ rfl (HU1.out.alloc _) ⟨w3.heap.size,0,none⟩ 1 1 [.int .i64 0] rfl rfl ?c1 ?c2 (by decide) ?c4 ?c5 ?c6 (w3.heap.size+1) ?c7 ?_)
  case c1=>intro j u hj;have h9:=a09 (w3.setCell ⟨S,1,none⟩ (.slice (some ⟨g2,0,none⟩) (k+1) cap2)) (.int .i64 0) 3 j u hj;rw[apF]at h9;exact h9
  case c2=>intro u hu;simp at hu;subst hu;rfl
  case c4=>unfold maxLen;omega
  case c5=>omega
  case c6=>simp;omega
  case c7=>simp
  intro g3 cap3 w4 hown4 hgrow4 hat4 hlt4;have hN:=HS2.out.sum (ob:=.cells #[.int .i64 0] 3) (w2:=w4) (g:=g3) (cap:=cap3) (n:=0) (by rw[HSL.out];exact hown4) hgrow4;rw[HSL.out]at hN;obtain⟨hS1,⟨d4,d5⟩,hB1⟩:=hN;have HS3:=hid hS1;have HB3:=hid (HB2.out.trans hB1);clear hown4 hgrow4 hat4 hlt4 hS1 hB1 HB2 HS2 HU1 e0 e1 e2 ez d2 d3 hS2;obtain⟨e0,e1,e2,ez⟩:=HS3.out.cell;have hw1:IntKind.i64.wrap ((k:Int)+1-1)=(k:Int):=by rw[IntWalk.i64_in _ (by omega)];omega
  have hw2:IntKind.i64.wrap (k:Int)=(k:Int):=IntWalk.i64_in _ (by omega);go_wp2;go_ret;refine⟨?_,HFIN.out _ _ _ _ HS3.out,HB3.out⟩;rw[HF.out.1,<-HLEN.out];rfl
theorem ae3(l:List UInt8):bsB l=emp↔l=[]:=⟨fun h=>adN (m:=[]) h,fun h=>by rw[h];rfl⟩
structure DeedC(line V R N A:ByteArray)(q1 more:Bool):Prop where
 c1:∀W,Calls Tryz.prog 67 #[.string line] W (Cut3 V R q1 W)
 c2:∀W,Calls Tryz.prog 67 #[.string R] W (Cut3 N A more W)
 hN:N.size<=4000000
 hA:A.size<=4000000
 is:a29 line=if a0j line=false\/a01 N=false then none
  else if V=putW then (if A=emp then none else some (.put N A))
  else if V=dropW then (if more then none else some (.drop N))
  else if V=addW then (match anM A.data.toList with
   |some n=>some (.add N n)
   |none=>none)
  else none
theorem af0(line:ByteArray)(hl:line.size<=4000000):∃V R N A q1 more,DeedC line V R N A q1 more:=by
 have h1:=a5Q line.data.toList;have h2:=a5Q (anq line.data.toList).2.1
 have hs:=a03 line;refine⟨bsB (anq line.data.toList).1,bsB (anq line.data.toList).2.1,bsB (anq (anq line.data.toList).2.1).1,bsB (anq (anq line.data.toList).2.1).2.1,_,_,fun W=>ac3 line W (by omega),fun W=>aay _ W (by omega),by rw[bsB_size];omega,by rw[bsB_size];omega,?_⟩;unfold a29;simp only;by_cases e1:a0j line=false\/a01 (bsB (anq (anq line.data.toList).2.1).1)=false
 ·rw[if_pos e1,if_pos e1]
 rw[if_neg e1,if_neg e1];by_cases e2:bsB (anq line.data.toList).1=putW
 ·rw[if_pos e2,if_pos e2];by_cases e3:(anq (anq line.data.toList).2.1).2.1=[]
  ·rw[if_pos e3,if_pos ((ae3 _).2 e3)]
  rw[if_neg e3,if_neg (fun h=>e3 ((ae3 _).1 h))]
 rw[if_neg e2,if_neg e2];simp only[a1b];rfl
section
variable{w w2:World}{S B:Nat}{u v t:Value}{ns ts:List ByteArray}{ss:List Int}
theorem Says3.setText{g cap:Nat}(h:Says3 w S B u (.slice (some ⟨g,0,none⟩) ts.length cap) t ns ts ss)(i:Nat)(x:ByteArray):
  Says3 (w.setCell ⟨g,i,none⟩ (.string x)) S B u (.slice (some ⟨g,0,none⟩) ts.length cap) t ns (ts.set i x) ss/\TS S B w (w.setCell ⟨g,i,none⟩ (.string x)):=by
 have hgS:=(a0f h.texts (k:=g) rfl).1
 have hlow:=h.low;have hset:∀k,k≠g->(w.setCell ⟨g,i,none⟩ (.string x)).heap[k]? =w.heap[k]? :=fun k hk=>apE _ _ _ k hk
 refine⟨⟨(hset S (by omega)).trans h.cells,a0v h.names fun k hk=>hset k fun e=>h.apart k hk (by rw[e];rfl),?_,a0v h.sums fun k hk=>hset k fun e=>a2G h.sums h.texts (Ne.symm a2l) hk (by rw[e];rfl),h.apart,h.low,by rw[apF];exact h.size⟩,(TS.refl S B w).set2 hgS _ _⟩;rw[List.map_set,amk];exact(h.texts.stored i (.string x)).1
theorem Says3.setSum{g cap:Nat}(h:Says3 w S B u v (.slice (some ⟨g,0,none⟩) ss.length cap) ns ts ss)(i:Nat)(x:Int):
  Says3 (w.setCell ⟨g,i,none⟩ (.int .i64 x)) S B u v (.slice (some ⟨g,0,none⟩) ss.length cap) ns ts (ss.set i x)/\TS S B w (w.setCell ⟨g,i,none⟩ (.int .i64 x)):=by
 have hgS:=(a0f h.sums (k:=g) rfl).1
 have hlow:=h.low;have hset:∀k,k≠g->(w.setCell ⟨g,i,none⟩ (.int .i64 x)).heap[k]? =w.heap[k]? :=fun k hk=>apE _ _ _ k hk
 refine⟨⟨(hset S (by omega)).trans h.cells,a0v h.names fun k hk=>hset k fun e=>a2G h.names h.sums a2l hk (by rw[e];rfl),a0v h.texts fun k hk=>hset k fun e=>a2G h.texts h.sums a2l hk (by rw[e];rfl),?_,h.apart,h.low,by rw[apF];exact h.size⟩,(TS.refl S B w).set2 hgS _ _⟩;rw[List.map_set,amk];exact(h.sums.stored i (.int .i64 x)).1
end
theorem a4k{β:Type}(l:List Rw)(i:Nat)(f:Rw->Rw)(p:Rw->β)(hf:∀x,p (f x)=p x):(l.modify i f).map p=l.map p:=by
 apply List.ext_getElem (by simp);intro j h1 h2;simp only[List.getElem_map,an1];split
 ·rw[hf]
 rfl
theorem a95{β:Type}(l:List Rw)(i:Nat)(f:Rw->Rw)(p:Rw->β)(x:β)(hf:∀y,p (f y)=x):(l.modify i f).map p=(l.map p).set i x:=by
 apply List.ext_getElem (by simp);intro j h1 h2;simp only[List.getElem_map,an1,List.getElem_set];split
 ·rw[hf]
 rfl
structure NameAt(w:World)(S B:Nat)(l:List Rw)(i:Nat)(n:ByteArray)(g2 c2 g3 c3 len:Nat)(u:Value):Prop where
 says:Says3 w S B u (.slice (some ⟨g2,0,none⟩) len c2) (.slice (some ⟨g3,0,none⟩) len c3) (l.map fun x=>x.1) (l.map fun x=>x.2.1) (l.map fun x=>x.2.2)
 lt:i<len
 len:len=l.length
 text:w.cell? ⟨g2,i,none⟩=some (.string (a0a l n))
 sum:w.cell? ⟨g3,i,none⟩=some (.int .i64 (a0H l n))
 ft:∀j,w.frozen? ⟨g2,j,none⟩=false
 fs:∀j,w.frozen? ⟨g3,j,none⟩=false
theorem ae4{w:World}{S B:Nat}{l:List Rw}(h:SaysAt w S B l){n:ByteArray}(hi:anr n l<l.length):∃g2 c2 g3 c3 len u,NameAt w S B l (anr n l) n g2 c2 g3 c3 len u:=by
 obtain⟨u,v,t,h3⟩:=h;obtain⟨g2,c2,rfl,_⟩:=h3.texts.form (by simp;omega);obtain⟨g3,c3,rfl,_⟩:=h3.sums.form (by simp;omega);have e2:(l.map fun x=>x.2.1).length=l.length:=by simp
 have e3:(l.map fun x=>x.2.2).length=l.length:=by simp
 have ht:=h3.texts.cellAt (anr n l) (by rw[e2];omega);have hs:=h3.sums.cellAt (anr n l) (by rw[e3];omega);have hg:a1j l n=l[anr n l]:=by unfold a1j;rw[abs,alz hi];rfl
 refine⟨g2,c2,g3,c3,l.length,u,⟨?_,hi,rfl,?_,?_,fun j=>h3.texts.frozenAt j,fun j=>h3.sums.frozenAt j⟩⟩
 ·rw[e2,e3]at h3;exact h3
 ·rw[ht,a0a,hg];simp[hi]
 rw[hs,a0H,hg];simp[hi]
theorem NameAt.putT{w:World}{S B:Nat}{l:List Rw}{i:Nat}{n:ByteArray}{g2 c2 g3 c3 len:Nat}{u:Value}(h:NameAt w S B l i n g2 c2 g3 c3 len u)(x:ByteArray):SaysAt (w.setCell ⟨g2,i,none⟩ (.string x)) S B (a2n l i x)/\TS S B w (w.setCell ⟨g2,i,none⟩ (.string x)):=by
 have h9:=h.says;rw[show (Value.slice (some ⟨g2,0,none⟩) len c2)= .slice (some ⟨g2,0,none⟩) (l.map fun x=>x.2.1).length c2 by rw[h.len];simp]at h9;obtain⟨h1,h2⟩:=h9.setText i x;refine⟨⟨u,.slice (some ⟨g2,0,none⟩) (l.map fun x=>x.2.1).length c2,.slice (some ⟨g3,0,none⟩) len c3,?_⟩,h2⟩;have p1:=a4k l i (fun y=>(y.1,x,y.2.2)) (fun y=>y.1) (fun _=>rfl);have p2:=a95 l i (fun y=>(y.1,x,y.2.2)) (fun y=>y.2.1) x (fun _=>rfl);have p3:=a4k l i (fun y=>(y.1,x,y.2.2)) (fun y=>y.2.2) (fun _=>rfl);unfold a2n;rw[p1,p2,p3];exact h1
theorem NameAt.putS{w:World}{S B:Nat}{l:List Rw}{i:Nat}{n:ByteArray}{g2 c2 g3 c3 len:Nat}{u:Value}(h:NameAt w S B l i n g2 c2 g3 c3 len u)(x:Int):SaysAt (w.setCell ⟨g3,i,none⟩ (.int .i64 x)) S B (a4x l i x)/\TS S B w (w.setCell ⟨g3,i,none⟩ (.int .i64 x)):=by
 have h9:=h.says;rw[show (Value.slice (some ⟨g3,0,none⟩) len c3)= .slice (some ⟨g3,0,none⟩) (l.map fun x=>x.2.2).length c3 by rw[h.len];simp]at h9;obtain⟨h1,h2⟩:=h9.setSum i x;refine⟨⟨u,.slice (some ⟨g2,0,none⟩) len c2,.slice (some ⟨g3,0,none⟩) (l.map fun x=>x.2.2).length c3,?_⟩,h2⟩;have p1:=a4k l i (fun y=>(y.1,y.2.1,x)) (fun y=>y.1) (fun _=>rfl);have p2:=a4k l i (fun y=>(y.1,y.2.1,x)) (fun y=>y.2.1) (fun _=>rfl);have p3:=a95 l i (fun y=>(y.1,y.2.1,x)) (fun y=>y.2.2) x (fun _=>rfl);unfold a4x;rw[p1,p2,p3];exact h1
theorem a3D(l:List Rw)(n m:ByteArray):a0a (anz l n) m=a0a l m:=by unfold a0a;rw[a2E]
theorem a3E(l:List Rw)(n m:ByteArray):a0H (anz l n) m=a0H l m:=by unfold a0H;rw[a2E]
def AtN(S B:Nat)(l:List Rw)(n:ByteArray)(w:World)(e:Ending)(w':World):Prop:=∃g2 c2 g3 c3 len u,e= .returned (.int .i64 (anr n l:Nat))/\NameAt w' S B (anz l n) (anr n l) n g2 c2 g3 c3 len u/\TS S B w w'
theorem a3F(S B:Nat)(l:List Rw)(n:ByteArray)(w:World)(h:SaysAt w S B l)(hl:l.length<=1000):Calls Tryz.prog 74 #[.pointer (some ⟨S,0,none⟩),.string n] w (AtN S B l n w):=by
 refine(akJ S B l n w h hl).mono ?_
 rintro e w' ⟨rfl,h2,hb⟩;obtain⟨h3,h4⟩:=a7s l n;obtain⟨g2,c2,g3,c3,len,u,h5⟩:=ae4 h2 (n:=n) (by rw[h3];exact h4);rw[h3]at h5;exact⟨g2,c2,g3,c3,len,u,rfl,h5,hb⟩
theorem SaysAt.below{w w':World}{S B:Nat}{l:List Rw}(h:SaysAt w S B l)(hb:Below w.heap.size w w'):SaysAt w' S B l:=by
 obtain⟨u,v,t,h3⟩:=h;exact⟨u,v,t,(hb.block _ h3.lt).trans h3.cells,own_below h3.names hb,own_below h3.texts hb,own_below h3.sums hb,h3.apart,h3.low,alF h3.size hb.size⟩
theorem SaysAt.lt{w:World}{S B:Nat}{l:List Rw}(h:SaysAt w S B l):S<w.heap.size:=by obtain⟨u,v,t,h3⟩:=h;exact h3.lt
theorem ahq:(putW.toList==([112,117,116]:List UInt8))=true:=by kernel_rfl
theorem ajd:(dropW.toList==([112,117,116]:List UInt8))=false:=by kernel_rfl
theorem akK:(dropW.toList==([100,114,111,112]:List UInt8))=true:=by kernel_rfl
theorem aoZ:(addW.toList==([97,100,100]:List UInt8))=true:=by kernel_rfl
theorem a96:(emp.toList==([]:List UInt8))=true:=by kernel_rfl
theorem NameAt.below{w w':World}{S B:Nat}{l:List Rw}{i:Nat}{n:ByteArray}{g2 c2 g3 c3 len:Nat}{u:Value}(h:NameAt w S B l i n g2 c2 g3 c3 len u)(hb:Below w.heap.size w w'):NameAt w' S B l i n g2 c2 g3 c3 len u:=by
 have h3:Says3 w' S B u (.slice (some ⟨g2,0,none⟩) len c2) (.slice (some ⟨g3,0,none⟩) len c3) (l.map fun x=>x.1) (l.map fun x=>x.2.1) (l.map fun x=>x.2.2):=
  ⟨(hb.block _ h.says.lt).trans h.says.cells,own_below h.says.names hb,own_below h.says.texts hb,own_below h.says.sums hb,h.says.apart,h.says.low,alF h.says.size hb.size⟩
 have e2:(l.map fun x=>x.2.1).length=len:=by rw[h.len];simp
 have e3:(l.map fun x=>x.2.2).length=len:=by rw[h.len];simp
 have ht:=h3.texts;have hs:=h3.sums;rw[e2]at ht;rw[e3]at hs;exact⟨h3,h.lt,h.len,keep_cell hb h.text,keep_cell hb h.sum,fun j=>ht.frozenAt j,fun j=>hs.frozenAt j⟩
def a3a(S B:Nat)(l:List Rw)(line:ByteArray)(w:World)(e:Ending)(w':World):Prop:=
 e= .returned (.tuple #[.string (a1k l line).1.1,.int .i64 (a1k l line).1.2])/\SaysAt w' S B (a1k l line).2/\TS S B w w'
theorem a3k(S B:Nat)(l:List Rw)(line:ByteArray)(hs:line.size<=1000000)(w:World)(h:SaysAt w S B l)(hl:l.length<=900)(hsum:∀m, -100000000<=a0H l m/\a0H l m<=100000000):
  Calls Tryz.prog 60 #[.pointer (some ⟨S,0,none⟩),.string line] w (a3a S B l line w):=by
 obtain⟨V,R,N,A,q1,more,hd⟩:=af0 line (by omega);have HDC:=hid hd;have HS:=hid h;have hNs:=hd.hN;have hAs:=hd.hA;have HD:=hid hd.is;clear hd h;unfold a3a
 have HVX:Hid (a1k l line=match a29 line with
  |some (.put n t)=>((t,0),a2n (anz l n) (anr n l) t)
  |some (.drop n)=>if a0a l n=emp then ((emp,5),anz l n)else ((a0a l n,0),a2n (anz l n) (anr n l) emp)
  |some (.add n m)=>((itoaB (a0H l n+m),0),a4x (anz l n) (anr n l) (a0H l n+m))
  |_=>((emp,100),l)):=hid rfl
 obtain⟨r,hr⟩:∃r,r=a1k l line:=⟨_,rfl⟩
 rw[<-hr]at HVX⊢;clear hr;cases hq:a0j line with
 |false=>
  have HV:Hid (r=((emp,100),l)):=hid (by rw[HVX.out,HD.out,if_pos (.inl hq)]);go_enter Tryz.func60,Tryz.ntmps60;go_wp2_with fail
  refine(HDC.out.c1 _).mono ?_
  rintro e w1 ⟨rfl,hb1⟩;go_wp2_with fail
  refine(HDC.out.c2 _).mono ?_
  rintro e w2 ⟨rfl,hb2⟩;have HB2:=hid (below_trans hb1 hb2);have HS2:=hid (HS.out.below HB2.out);have HBS:Hid (TS S B w w2):=hid (TS.of_below HB2.out);clear hb1 hb2;go_wp2_with fail
  refine(a1F line w2 (by omega)).mono ?_
  rintro e w3 ⟨rfl,rfl⟩;rw[hq];go_wp2;go_ret2;exact⟨by rw[HV.out];rfl,by rw[HV.out];exact HS2.out,HBS.out⟩
 | true=>
  cases hn:a01 N with
  |false=>
   have HV:Hid (r=((emp,100),l)):=hid (by rw[HVX.out,HD.out,if_pos (.inr hn)]);go_enter Tryz.func60,Tryz.ntmps60;go_wp2_with fail
   refine(HDC.out.c1 _).mono ?_
   rintro e w1 ⟨rfl,hb1⟩;go_wp2_with fail
   refine(HDC.out.c2 _).mono ?_
   rintro e w2 ⟨rfl,hb2⟩;have HB2:=hid (below_trans hb1 hb2);have HS2:=hid (HS.out.below HB2.out);have HBS:Hid (TS S B w w2):=hid (TS.of_below HB2.out);clear hb1 hb2;go_wp2_with fail
   refine(a1F line w2 (by omega)).mono ?_
   rintro e w3 ⟨rfl,rfl⟩;rw[hq];go_wp2_with fail
   refine(a0W N w2 (by omega)).mono ?_
   rintro e w3 ⟨rfl,rfl⟩;rw[hn];go_wp2;go_ret2;exact⟨by rw[HV.out];rfl,by rw[HV.out];exact HS2.out,HBS.out⟩
  | true=>
   have HD2:Hid (a29 line=if V=putW then (if A=emp then none else some (.put N A))
    else if V=dropW then (if more then none else some (.drop N))
    else if V=addW then (match anM A.data.toList with
     |some n=>some (.add N n)
     |none=>none)
    else none):=hid (by rw[HD.out,if_neg (by rw[hq,hn];decide)])
   clear HD;by_cases h1:V=putW
   ·subst h1;have HD3:Hid (a29 line=if A=emp then none else some (.put N A)):=hid (by rw[HD2.out,if_pos rfl]);clear HD2;by_cases hA:A=emp
    ·have HV:Hid (r=((emp,100),l)):=hid (by rw[HVX.out,HD3.out,if_pos hA]);subst hA;have k1:=ahq;have k2:=a96;go_enter Tryz.func60,Tryz.ntmps60;go_wp2_with fail
     refine(HDC.out.c1 _).mono ?_
     rintro e w1 ⟨rfl,hb1⟩;go_wp2_with fail
     refine(HDC.out.c2 _).mono ?_
     rintro e w2 ⟨rfl,hb2⟩;have HB2:=hid (below_trans hb1 hb2);have HS2:=hid (HS.out.below HB2.out);have HBS:Hid (TS S B w w2):=hid (TS.of_below HB2.out);clear hb1 hb2;go_wp2_with fail
     refine(a1F line w2 (by omega)).mono ?_
     rintro e w3 ⟨rfl,rfl⟩;rw[hq];go_wp2_with fail
     refine(a0W N w2 (by omega)).mono ?_
     rintro e w3 ⟨rfl,rfl⟩;rw[hn];go_wp2;go_ret2;exact⟨by rw[HV.out];rfl,by rw[HV.out];exact HS2.out,HBS.out⟩
    have HV:Hid (r=((A,0),a2n (anz l N) (anr N l) A)):=hid (by rw[HVX.out,HD3.out,if_neg hA]);have hAe:(A.toList==([]:List UInt8))=false:=a0E (l:=[]) hA;clear hA HVX HD3;have k1:=ahq;go_enter Tryz.func60,Tryz.ntmps60;go_wp2_with fail
    refine(HDC.out.c1 _).mono ?_
    rintro e w1 ⟨rfl,hb1⟩;go_wp2_with fail
    refine(HDC.out.c2 _).mono ?_
    rintro e w2 ⟨rfl,hb2⟩;have HB2:=hid (below_trans hb1 hb2);have HS2:=hid (HS.out.below HB2.out);have HBS:Hid (TS S B w w2):=hid (TS.of_below HB2.out);clear hb1 hb2;go_wp2_with fail
    refine(a1F line w2 (by omega)).mono ?_
    rintro e w3 ⟨rfl,rfl⟩;rw[hq];go_wp2_with fail
    refine(a0W N w2 (by omega)).mono ?_
    rintro e w3 ⟨rfl,rfl⟩;rw[hn];go_wp2_with fail
    refine(a3F S B l N w2 HS2.out (by omega)).mono ?_
    rintro e w3 ⟨g2,k2,g3,k3,len,u,rfl,hna,hb3⟩;have HNA:=hid hna;have HB3:=hid (HBS.out.trans hb3);obtain⟨d0,d1,d2,dz⟩:=hna.says.cell;have hilt:=hna.lt;have htx:=hna.text;have hsm:=hna.sum;have fft:=hna.ft;have ffs:=hna.fs;rw[a3D]at htx;rw[a3E]at hsm;clear hna hb3;have hil:((anr N l:Nat):Int)<(len:Int):=by omega
    have HP:=hid (HNA.out.putT A);generalize anr N l=i at *;go_wp2;go_ret2;exact⟨by rw[HV.out];rfl,by rw[HV.out];exact HP.out.1,HB3.out.trans HP.out.2⟩
   have n1:(V.toList==([112,117,116]:List UInt8))=false:=a0E h1
   have HD3:Hid (a29 line=if V=dropW then (if more then none else some (.drop N))
    else if V=addW then (match anM A.data.toList with
     |some n=>some (.add N n)
     |none=>none)
    else none):=hid (by rw[HD2.out,if_neg h1])
   clear HD2 h1;by_cases h2:V=dropW
   ·subst h2;have k1:=ajd;have k2:=akK;have HD4:Hid (a29 line=if more then none else some (.drop N)):=hid (by rw[HD3.out,if_pos rfl]);clear HD3 n1;cases more with
    |true=>
     have HV:Hid (r=((emp,100),l)):=hid (by rw[HVX.out,HD4.out,if_pos rfl]);clear HVX HD4;go_enter Tryz.func60,Tryz.ntmps60;go_wp2_with fail
     refine(HDC.out.c1 _).mono ?_
     rintro e w1 ⟨rfl,hb1⟩;go_wp2_with fail
     refine(HDC.out.c2 _).mono ?_
     rintro e w2 ⟨rfl,hb2⟩;have HB2:=hid (below_trans hb1 hb2);have HS2:=hid (HS.out.below HB2.out);have HBS:Hid (TS S B w w2):=hid (TS.of_below HB2.out);clear hb1 hb2;go_wp2_with fail
     refine(a1F line w2 (by omega)).mono ?_
     rintro e w3 ⟨rfl,rfl⟩;rw[hq];go_wp2_with fail
     refine(a0W N w2 (by omega)).mono ?_
     rintro e w3 ⟨rfl,rfl⟩;rw[hn];go_wp2;go_ret2;exact⟨by rw[HV.out];rfl,by rw[HV.out];exact HS2.out,HBS.out⟩
    | false=>
     have HV0:Hid (r=if a0a l N=emp then ((emp,5),anz l N)else ((a0a l N,0),a2n (anz l N) (anr N l) emp)):=hid (by rw[HVX.out,HD4.out];rfl);clear HVX HD4;by_cases ht:a0a l N=emp
     ·have HV:Hid (r=((emp,5),anz l N)):=hid (by rw[HV0.out,if_pos ht]);have HT:=hid ht;clear ht HV0;have k3:=a96;go_enter Tryz.func60,Tryz.ntmps60;go_wp2_with fail
      refine(HDC.out.c1 _).mono ?_
      rintro e w1 ⟨rfl,hb1⟩;go_wp2_with fail
      refine(HDC.out.c2 _).mono ?_
      rintro e w2 ⟨rfl,hb2⟩;have HB2:=hid (below_trans hb1 hb2);have HS2:=hid (HS.out.below HB2.out);have HBS:Hid (TS S B w w2):=hid (TS.of_below HB2.out);clear hb1 hb2;go_wp2_with fail
      refine(a1F line w2 (by omega)).mono ?_
      rintro e w3 ⟨rfl,rfl⟩;rw[hq];go_wp2_with fail
      refine(a0W N w2 (by omega)).mono ?_
      rintro e w3 ⟨rfl,rfl⟩;rw[hn];go_wp2_with fail
      refine(a3F S B l N w2 HS2.out (by omega)).mono ?_
      rintro e w3 ⟨g2,k2,g3,k3,len,u,rfl,hna,hb3⟩;have HNA:=hid hna;have HB3:=hid (HBS.out.trans hb3);obtain⟨d0,d1,d2,dz⟩:=hna.says.cell;have hilt:=hna.lt;have htx:=hna.text;have hsm:=hna.sum;have fft:=hna.ft;have ffs:=hna.fs;rw[a3D]at htx;rw[a3E]at hsm;clear hna hb3;rw[HT.out]at htx;have hil:((anr N l:Nat):Int)<(len:Int):=by omega
      generalize anr N l=i at *;go_wp2;go_ret2;exact⟨by rw[HV.out];rfl,by rw[HV.out];exact⟨_,_,_,HNA.out.says⟩,HB3.out⟩
     have HV:Hid (r=((a0a l N,0),a2n (anz l N) (anr N l) emp)):=hid (by rw[HV0.out,if_neg ht]);have k3:((a0a l N).toList==([]:List UInt8))=false:=a0E (l:=[]) ht;clear ht HV0;go_enter Tryz.func60,Tryz.ntmps60;go_wp2_with fail
     refine(HDC.out.c1 _).mono ?_
     rintro e w1 ⟨rfl,hb1⟩;go_wp2_with fail
     refine(HDC.out.c2 _).mono ?_
     rintro e w2 ⟨rfl,hb2⟩;have HB2:=hid (below_trans hb1 hb2);have HS2:=hid (HS.out.below HB2.out);have HBS:Hid (TS S B w w2):=hid (TS.of_below HB2.out);clear hb1 hb2;go_wp2_with fail
     refine(a1F line w2 (by omega)).mono ?_
     rintro e w3 ⟨rfl,rfl⟩;rw[hq];go_wp2_with fail
     refine(a0W N w2 (by omega)).mono ?_
     rintro e w3 ⟨rfl,rfl⟩;rw[hn];go_wp2_with fail
     refine(a3F S B l N w2 HS2.out (by omega)).mono ?_
     rintro e w3 ⟨g2,k2,g3,k3,len,u,rfl,hna,hb3⟩;have HNA:=hid hna;have HB3:=hid (HBS.out.trans hb3);obtain⟨d0,d1,d2,dz⟩:=hna.says.cell;have hilt:=hna.lt;have htx:=hna.text;have hsm:=hna.sum;have fft:=hna.ft;have ffs:=hna.fs;rw[a3D]at htx;rw[a3E]at hsm;clear hna hb3;have hil:((anr N l:Nat):Int)<(len:Int):=by omega
     have HP:=hid (HNA.out.putT emp);generalize anr N l=i at *;generalize a0a l N=tx at *;go_wp2;go_ret2;exact⟨by rw[HV.out];rfl,by rw[HV.out];exact HP.out.1,HB3.out.trans HP.out.2⟩
   have n2:(V.toList==([100,114,111,112]:List UInt8))=false:=a0E h2;by_cases h3:V=addW
   ·subst h3;have k3:=aoZ
    have HD4:Hid (a29 line=match anM A.data.toList with
     |some n=>some (.add N n)
     |none=>none):=hid (by rw[HD3.out,if_neg h2,if_pos rfl])
    have HNU:=hid (fun W=>a5R A W (by omega));have HBD:=hid (hsum N);clear HD3 h2;cases hm:anM A.data.toList with
    |none=>
     rw[hm]at HD4 HNU;have HNU2:Hid (∀W,Calls Tryz.prog 77 #[.string A] W fun e w'=>e= .returned (.tuple #[.int .i64 0,.bool false])/\W=w'):=hid HNU.out;have HV:Hid (r=((emp,100),l)):=hid (by rw[HVX.out,HD4.out]);clear HVX HD4 hm HNU;go_enter Tryz.func60,Tryz.ntmps60;go_wp2_with fail
     refine(HDC.out.c1 _).mono ?_
     rintro e w1 ⟨rfl,hb1⟩;go_wp2_with fail
     refine(HDC.out.c2 _).mono ?_
     rintro e w2 ⟨rfl,hb2⟩;have HB2:=hid (below_trans hb1 hb2);have HS2:=hid (HS.out.below HB2.out);have HBS:Hid (TS S B w w2):=hid (TS.of_below HB2.out);clear hb1 hb2;go_wp2_with fail
     refine(a1F line w2 (by omega)).mono ?_
     rintro e w3 ⟨rfl,rfl⟩;rw[hq];go_wp2_with fail
     refine(a0W N w2 (by omega)).mono ?_
     rintro e w3 ⟨rfl,rfl⟩;rw[hn];go_wp2_with fail
     refine(HNU2.out _).mono ?_
     rintro e w3 ⟨rfl,rfl⟩;go_wp2;go_ret2;exact⟨by rw[HV.out];rfl,by rw[HV.out];exact HS2.out,HBS.out⟩
    | some m=>
     obtain⟨_,hm0,hm1⟩:=a6v hm;rw[hm]at HD4 HNU;have HNU2:Hid (∀W,Calls Tryz.prog 77 #[.string A] W fun e w'=>e= .returned (.tuple #[.int .i64 m,.bool true])/\W=w'):=hid HNU.out;have HV:Hid (r=((itoaB (a0H l N+m),0),a4x (anz l N) (anr N l) (a0H l N+m))):=hid (by rw[HVX.out,HD4.out]);clear HVX HD4 hm HNU;go_enter Tryz.func60,Tryz.ntmps60;go_wp2_with fail
     refine(HDC.out.c1 _).mono ?_
     rintro e w1 ⟨rfl,hb1⟩;go_wp2_with fail
     refine(HDC.out.c2 _).mono ?_
     rintro e w2 ⟨rfl,hb2⟩;have HB2:=hid (below_trans hb1 hb2);have HS2:=hid (HS.out.below HB2.out);have HBS:Hid (TS S B w w2):=hid (TS.of_below HB2.out);clear hb1 hb2;go_wp2_with fail
     refine(a1F line w2 (by omega)).mono ?_
     rintro e w3 ⟨rfl,rfl⟩;rw[hq];go_wp2_with fail
     refine(a0W N w2 (by omega)).mono ?_
     rintro e w3 ⟨rfl,rfl⟩;rw[hn];go_wp2_with fail
     refine(HNU2.out _).mono ?_
     rintro e w3 ⟨rfl,rfl⟩;go_wp2_with fail
     refine(a3F S B l N w2 HS2.out (by omega)).mono ?_
     rintro e w3 ⟨g2,k2,g3,k3,len,u,rfl,hna,hb3⟩;have HNA:=hid hna;have HB3:=hid (HBS.out.trans hb3);obtain⟨d0,d1,d2,dz⟩:=hna.says.cell;have hilt:=hna.lt;have htx:=hna.text;have hsm:=hna.sum;have fft:=hna.ft;have ffs:=hna.fs;rw[a3D]at htx;rw[a3E]at hsm;clear hna hb3;have hil:((anr N l:Nat):Int)<(len:Int):=by omega
     have HP:=hid ((HNA.out.below (apC _ _).drew).putS (a0H l N+m));have hb1:=HBD.out.1;have hb2:=HBD.out.2;generalize anr N l=i at *;generalize a0H l N=sm at *;have hw1:IntKind.i64.wrap (sm+m)=sm+m:=IntWalk.i64_in _ (by omega);have HDM:=hid (fun W=>a1M (sm+m) W (by omega) (by omega));have hgt:=(a0f HNA.out.says.sums (k:=g3) rfl).1
     have hlow:=HNA.out.says.low;have hne1:¬S=g3:=by omega
     have hne2:¬g3=S:=by omega
     clear hsum hgt hlow;go_wp2;go_region_law (fail)
     all_goals
      go_wp2_with fail
      refine(HDM.out _).mono ?_
      rintro e w4 ⟨rfl,hb4⟩;go_wp2;go_ret2;have hz:Below w3.heap.size w3 w3.drew:=(apC _ _).drew
      refine⟨by rw[HV.out];rfl,by rw[HV.out];exact HP.out.1.below hb4,(HB3.out.trans ((TS.of_below hz).trans HP.out.2)).trans (TS.of_below hb4)⟩
   have n3:(V.toList==([97,100,100]:List UInt8))=false:=a0E h3;have HV:Hid (r=((emp,100),l)):=hid (by rw[HVX.out,HD3.out,if_neg h2,if_neg h3]);clear HVX HD3 h2 h3;go_enter Tryz.func60,Tryz.ntmps60;go_wp2_with fail
   refine(HDC.out.c1 _).mono ?_
   rintro e w1 ⟨rfl,hb1⟩;go_wp2_with fail
   refine(HDC.out.c2 _).mono ?_
   rintro e w2 ⟨rfl,hb2⟩;have HB2:=hid (below_trans hb1 hb2);have HS2:=hid (HS.out.below HB2.out);have HBS:Hid (TS S B w w2):=hid (TS.of_below HB2.out);clear hb1 hb2;go_wp2_with fail
   refine(a1F line w2 (by omega)).mono ?_
   rintro e w3 ⟨rfl,rfl⟩;rw[hq];go_wp2_with fail
   refine(a0W N w2 (by omega)).mono ?_
   rintro e w3 ⟨rfl,rfl⟩;rw[hn];go_wp2;go_ret2;exact⟨by rw[HV.out];rfl,by rw[HV.out];exact HS2.out,HBS.out⟩
def a6Q(b:anl)(w:World)(e:Ending)(w':World):Prop:=∃B,e= .returned (.pointer (some ⟨w.heap.size,0,none⟩))/\SaysAt w' w.heap.size B (a0t (ann b) [])/\Below w.heap.size w w'
theorem af1{l:List Ent}{k:Nat}(h:k<l.length):a0t (l.take (k+1)) []=(a1k (a0t (l.take k) []) (a06 (l.getD k noE))).2:=by
 rw[alC h,a91];rw[abs,alz h];rfl
theorem a2H(l:List Ent)(h:l.length<=1000)(m:ByteArray): -100000000<=a0H (a0t l []) m/\a0H (a0t l []) m<=100000000:=by
 have h1:a0H (a0t l []) m=(a07 l).stk m:=by rw[<-a5O];rfl
 rw[h1];exact a3y l h m
theorem aje(w:World){w2:World}(hb:Below (w.heap.size+1) (w.alloc (.cells #[.slice none 0 0,.slice none 0 0,.slice none 0 0] 124)) w2):SaysAt w2 w.heap.size w2.heap.size []:=by
 have hsz:=hb.size;rw[apG]at hsz;exact⟨.slice none 0 0,.slice none 0 0,.slice none 0 0,(hb.block _ (by omega)).trans (World.alloc_heap_new w _),World.ownsRow_nil _ _ _ _,World.ownsRow_nil _ _ _ _,World.ownsRow_nil _ _ _ _,fun g hg=>by simp[Value.ownBlock]at hg,by omega,aly _⟩
theorem aaz(P:Nat)(n:Int)(vs:Nat->Value)(b:anl)(w:World)(h:RfAt w P n vs b)(hok:a02 b):
  Calls Tryz.prog 59 #[.pointer (some ⟨P,0,none⟩)] w (a6Q b w):=by
 obtain⟨w1,hw1⟩:∃w1,w1=w.alloc (.cells #[.slice none 0 0,.slice none 0 0,.slice none 0 0] 124):=⟨_,rfl⟩
 have HB1:Hid (Below w.heap.size w w1):=hid (by rw[hw1];exact(apC _ w).alloc (aly _) _);have HSZ1:Hid (w1.heap.size=w.heap.size+1):=hid (by rw[hw1,apG]);have HBK:=hid (a6M P n vs b w1 (h.below HB1.out) hok);have HBD:=hid (fun e (he:e∈ann b)=>a0q hok he);have hlen:(ann b).length<=240:=by rw[a0X];exact a1t hok
 have HW1:=hid hw1;unfold a6Q;generalize ann b=l at *;clear h hok hw1;go_enter Tryz.func59,Tryz.ntmps59;go_wp2_with fail
 rw[<-HW1.out];refine HBK.out.mono ?_;rintro e w2 ⟨v,rfl,hl,hhi,hb2⟩;have HN0:Hid (SaysAt w2 w.heap.size w2.heap.size []):=hid (aje w (by rw[HW1.out,apG]at hb2;exact hb2));have HE2:=hid (hl.ents (by omega));have HHI:=hid (fun k (hk:v.ownBlock=some k)=>And.intro (hhi k hk) (hl.lt hk));have HB2:=hid (HB1.out.trans (hb2.mono HB1.out.size));obtain⟨a,c,rfl⟩:=own_shape hl;obtain⟨n9,hn⟩:∃n,n=l.length:=⟨_,rfl⟩
 have HN:=hid hn;rw[<-hn]at hlen⊢;clear hn hl hb2 hhi;go_wp2_with fail
 go_loopw [5] (fun i wr=>∃k:Nat,k<=n9/\i= .int .i64 k/\Hid (SaysAt wr w.heap.size w2.heap.size (a0t (l.take k) []))/\Hid (TS w.heap.size w2.heap.size w2 wr)) (fun i _=>n9-(intOf i).toNat)
 case atStart=>exact⟨0,by omega,rfl,HN0,hid (TS.refl _ _ _)⟩
 case round=>
  obtain⟨k,hk,rfl,HS,HT⟩:=hrel;by_cases hlt:k<n9
  ·have hlt2:(k:Int)<(n9:Int):=by omega
   have hkl:k<l.length:=by rw[<-HN.out];exact hlt
   have HEW:Hid (EntsAt wr (.slice a l.length c) l):=hid (HE2.out.keep fun _ g hg=>HT.out.block g (HHI.out g hg).2 (HHI.out g hg).2 (by have h1:=(HHI.out g hg).1;have h2:=HSZ1.out;omega));obtain⟨g,o,cc,hv,_,_,_,p4⟩:=HEW.out.entry hkl;simp only[Value.slice.injEq]at hv;obtain⟨rfl,_,rfl⟩:=hv;have hmem:l.getD k noE∈l:=by rw[abs,alz hkl];exact alX hkl
   have hline:=a4h (HBD.out _ hmem).2.2.2
   rw[<-a03]at hline;have HTK:=hid (af1 hkl)
   have HDD:=hid (a3k w.heap.size w2.heap.size (a0t (l.take k) []) (a06 (l.getD k noE)) (by omega) wr HS.out (by
    have h9:=a2d (l.take k) [];rw[alL]at h9;simp only[alH]at h9;omega) (a2H _ (by rw[alL];omega)))
   generalize a06 (l.getD k noE)=s at *;clear hmem hline;go_wp2_with fail
   refine HDD.out.mono ?_;rintro e w3 ⟨rfl,hs3,ht3⟩;have HS3:Hid (SaysAt w3 w.heap.size w2.heap.size (a0t (l.take (k+1)) [])):=hid (by rw[HTK.out];exact hs3);have HT3:=hid (HT.out.trans ht3);clear hs3 ht3;go_wp2;go_roundw
   case rel=>exact⟨k+1,by omega,by go_num,HS3,HT3⟩
   case measure=>simp[intOf];omega
  obtain rfl:k=n9:=by omega
  have HTA:Hid (l.take k=l):=hid (alG (by rw[<-HN.out];exact aly _));go_wp2;go_ret;have h9:=HS.out;rw[HTA.out]at h9;exact⟨_,rfl,h9,HB2.out.trans (HT.out.below (by obtain⟨_,_,_,h8⟩:=h9;exact h8.low) HB2.out.size)⟩
end Go.Proofs.YtdfkaijeppdhaaaGreatDoor
