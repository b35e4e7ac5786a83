/- Part of the proof. -/
import Derived.Test.YtdfkaijeppdhaaaGreatDoorZHs13
set_option maxRecDepth 100000
set_option maxHeartbeats 8000000

namespace Go.Proofs.YtdfkaijeppdhaaaGreatDoor
open Lib (hid)
open Proofs.Tryz Go.RowKit Go.Shelf
theorem a9a(s:ByteArray){k:Nat}(hlt:k<s.size)(h:a1o s[k].toNat=true):a03 s=false:=by
 unfold a03
 have:(s.data.toList.any fun c=>a1o c.toNat)=true:=by
  rw[<-ap9 k s.data.toList,drop_byte hlt];simp[h]
 rw[this];simp
theorem agT(s:ByteArray)(h:(s.data.toList.take s.size).any (fun c=>a1o c.toNat)=false):a03 s=betw 1 s.size 8:=by
 unfold a03;rw[aou (by rw[<-a05];omega)]at h;rw[h];simp
theorem a1e(s:ByteArray)(w:World)(hs:s.size<=4000000000):Calls prog 72 #[.string s] w (agS (a03 s) w):=by
 have HT0:Hid ((s.data.toList.take 0).any (fun c=>a1o c.toNat)=false):=hid oz;go_enter func72,ntmps72;go_wp2;go_loopw [3] (fun i wr=>∃k:Nat,k<=s.size/\k<=9/\i= .int .i64 k/\Hid ((s.data.toList.take k).any (fun c=>a1o c.toNat)=false)/\wr=w) (fun i _=>s.size-(intOf i).toNat)
 case atStart=>exact⟨0,om,om,rfl,HT0,rfl⟩
 case round=>
  obtain⟨k,hk,hk9,rfl,HT,rfl⟩:=hrel;by_cases hlt:k<s.size
  ·have hlt2:(k:Int)<(s.size:Int):=om;by_cases hk8:k<=8
   ·have hk8i:(k:Int)<=8:=om;by_cases h97:s[k].toNat<97
    ·have h97i:(s[k].toNat:Int)<97:=om;have HB:=hid (a9a s hlt (by unfold a1o;rw[decide_eq_true h97i];rfl));clear h97;go_wp2;go_ret;exact⟨by rw[HB.out];rfl,rfl⟩
    have h97i:¬(s[k].toNat:Int)<97:=om;by_cases h122:122<s[k].toNat
    ·have h122i:(122:Int)<(s[k].toNat:Int):=om;have HB:=hid (a9a s hlt (by unfold a1o;rw[decide_eq_true h122i];simp));clear h97 h122;go_wp2;go_ret;exact⟨by rw[HB.out];rfl,rfl⟩
    have h122i:¬(122:Int)<(s[k].toNat:Int):=om
    have HT2:Hid ((s.data.toList.take (k+1)).any (fun c=>a1o c.toNat)=false):=hid (by
     rw[a2B hlt,List.any_append,HT.out];simp[a1o];omega)
    clear h97 h122;go_wp2;go_roundw
    case rel=>exact⟨k+1,om,om,by go_num,HT2,trivial⟩
    case measure=>simp[intOf];omega
   have hk8i:¬(k:Int)<=8:=om
   have HE:Hid (a03 s=false):=hid (by
    unfold a03;rw[show betw 1 (s.size:Int) 8=false by rw[a8R];omega];rfl)
   have h1:(1:Int)<=(s.size:Int):=om;have h8:¬(s.size:Int)<=8:=om;go_wp2;go_ret;exact⟨by rw[HE.out];rfl,rfl⟩
  obtain rfl:k=s.size:=om;have HE:=hid (agT s HT.out);by_cases h1:1<=s.size
  ·have h1i:(1:Int)<=(s.size:Int):=om;by_cases h8:s.size<=8
   ·have h8i:(s.size:Int)<=8:=om;have HD:Hid (betw 1 (s.size:Int) 8=true):=hid (by rw[betw_iff];omega);go_wp2;go_ret;exact⟨by rw[HE.out,HD.out];rfl,rfl⟩
   have h8i:¬(s.size:Int)<=8:=om;have HD:Hid (betw 1 (s.size:Int) 8=false):=hid (by rw[a8R];omega);go_wp2;go_ret;exact⟨by rw[HE.out,HD.out];rfl,rfl⟩
  have h1i:¬(1:Int)<=(s.size:Int):=om;have HD:Hid (betw 1 (s.size:Int) 8=false):=hid (by rw[a8R];omega);go_wp2;go_ret;exact⟨by rw[HE.out,HD.out];rfl,rfl⟩
def a8i(o:Option Int):Int:=o.getD 0
def a8U(o:Option Int)(w:World)(e:Ending)(w':World):Prop:=e= .returned (.tuple #[.int .i64 (a8i o),.bool o.isSome])/\w=w'
theorem agU{s:ByteArray}(h0:0<s.size)(h:s[0].toNat=45):a26 s.data.toList=match a0A (s.data.toList.drop 1) 4 with
  |some n=>if 0<n then some (-(n:Int))else none
  |none=>none:=by
 have hb:s[0]=45:=(u8_eq (n:=45) ox).2 h
 have:=drop_byte (s:=s) (k:=0) h0;rw[List.drop_zero,hb]at this;conv=>lhs;rw[this]
 rfl
theorem aji{s:ByteArray}(h:¬(0<s.size/\∀h0:0<s.size,s[0].toNat=45)):a26 s.data.toList=(a0A s.data.toList 4).map fun n:Nat=>(n:Int):=by
 cases hl:s.data.toList with
 |nil=>rfl
 | cons b r=>
  have h0:0<s.size:=by rw[a05,hl];simp
  have hb:=drop_byte (s:=s) (k:=0) h0;rw[List.drop_zero,hl]at hb;injection hb with hb _
  unfold a26;split
  ·rename_i r' he
   exfalso;apply h;refine⟨h0,fun _=>?_⟩;rw[List.cons.injEq]at he;rw[<-hb,he.1];rfl
  rfl
theorem a7c(s:ByteArray)(w:World)(hs:s.size<=4000000000):Calls prog 77 #[.string s] w (a8U (a26 s.data.toList) w):=by
 by_cases h:0<s.size/\∀h0:0<s.size,s[0].toNat=45
 ·obtain⟨h0,h45⟩:=h;have h45:=h45 h0;have h0i:(0:Int)<(s.size:Int):=om;have h1i:(1:Int)<=(s.size:Int):=om;have hb:((s[0].toNat:Int)==45)=true:=by rw[beq_iff_eq];omega
  have HR:=hid (agU h0 h45);have HEX:=hid (ba_drop s 1);have HN:=hid (a68 (s.data.toList.drop 1) 4 w om (by rw[aoG,<-a05];omega));have hlt:a5I (a0A (s.data.toList.drop 1) 4)<10^4:=a8T;clear h45;generalize hd:s.data.toList.drop 1=l at *;clear hd;have hlt2:a5I (a0A l 4)<10000:=hlt;clear hlt;cases hn:a0A l 4 with
  |none=>
   rw[hn]at HR HN;have HR2:Hid (a26 s.data.toList=none):=hid HR.out;clear hn hlt2;have HN2:Hid (Calls prog 68 #[.string (bsB l),.int .i64 4] w (abG 0 false w)):=hid HN.out;go_enter func77,ntmps77;go_wp2_with fail
   rw[HEX.out];refine HN2.out.mono ?_;rintro e w1 ⟨rfl,rfl⟩;go_wp2;go_ret2;exact⟨by rw[HR2.out];rfl,rfl⟩
  | some n=>
   rw[hn]at HR HN hlt2;have hn4:n<10000:=hlt2;have HN2:Hid (Calls prog 68 #[.string (bsB l),.int .i64 4] w (abG n true w)):=hid HN.out;have hw1:IntKind.i64.wrap (-(n:Int))= -(n:Int):=IntWalk.i64_in _ om;clear hn hlt2;by_cases hp:0<n
   ·have hpi:(0:Int)<(n:Int):=om;have HR2:Hid (a26 s.data.toList=some (-(n:Int))):=hid (by rw[HR.out];simp only;rw[if_pos hp]);have HPP:=hid hp;clear hp;go_enter func77,ntmps77;go_wp2_with fail
    rw[HEX.out];refine HN2.out.mono ?_;rintro e w1 ⟨rfl,rfl⟩;go_wp2;go_ret2;exact⟨by rw[HR2.out];show Ending.returned (Value.tuple #[.int .i64 (-(n:Int)),.bool (decide (0<n))])=_;rw[decide_eq_true HPP.out];rfl,rfl⟩
   obtain rfl:n=0:=om;have HR2:Hid (a26 s.data.toList=none):=hid (by rw[HR.out];simp);clear hp hw1;go_enter func77,ntmps77;go_wp2_with fail
   rw[HEX.out];refine HN2.out.mono ?_;rintro e w1 ⟨rfl,rfl⟩;go_wp2;go_ret2;exact⟨by rw[HR2.out];rfl,rfl⟩
 have HR:=hid (aji h)
 have HN:Hid (Calls prog 68 #[.string s,.int .i64 4] w (a8U (a26 s.data.toList) w)):=hid (by
  refine(a8f s 4 w om hs).mono ?_
  rintro e w1 ⟨rfl,rfl⟩;refine⟨?_,rfl⟩;rw[HR.out];cases a0A s.data.toList 4<;>rfl)
 by_cases h0:0<s.size
 ·have h0i:(0:Int)<(s.size:Int):=om
  have hb:((s[0].toNat:Int)==45)=false:=by
   rw[beq_eq_false_iff_ne];intro e;exact h ⟨h0,fun _=>om⟩
  generalize a26 s.data.toList=o at *;clear h;go_enter func77,ntmps77;go_wp2_with fail
  refine HN.out.mono ?_;rintro e w1 ⟨rfl,rfl⟩;go_wp2;go_ret2;exact⟨rfl,rfl⟩
 have h0i:¬(0:Int)<(s.size:Int):=om;generalize a26 s.data.toList=o at *;clear h;go_enter func77,ntmps77;go_wp2_with fail
 refine HN.out.mono ?_;rintro e w1 ⟨rfl,rfl⟩;go_wp2;go_ret2;exact⟨rfl,rfl⟩
structure TS(S B:Nat)(w w':World):Prop where
 os:w'.os=w.os
 tape:w'.tape=w.tape
 output:w'.output=w.output
 size:w.heap.size<=w'.heap.size
 block:∀k,k<w.heap.size->k<B->k≠S->w'.heap[k]? =w.heap[k]?
theorem TS.refl(S B:Nat)(w:World):TS S B w w:=⟨rfl,rfl,rfl,aof _,fun _ _ _ _=>rfl⟩
theorem TS.trans{S B:Nat}{a b c:World}(h:TS S B a b)(k:TS S B b c):TS S B a c:=
 ⟨k.os.trans h.os,k.tape.trans h.tape,k.output.trans h.output,aor h.size k.size,fun i hi h1 h2=>(k.block i (aox hi h.size) h1 h2).trans (h.block i hi h1 h2)⟩
theorem TS.of_below{S B:Nat}{w w':World}(h:Below w.heap.size w w'):TS S B w w':=⟨h.os,h.tape,h.output,h.size,fun k hk _ _=>h.block k hk⟩
theorem TS.set{S B:Nat}{a b:World}(h:TS S B a b)(j:Nat)(v:Value):TS S B a (b.setCell ⟨S,j,none⟩ v):=
 ⟨h.os,h.tape,h.output,by rw[aos];exact h.size,fun k hk h1 h2=>(aok _ _ _ k h2).trans (h.block k hk h1 h2)⟩
theorem TS.set2{S B:Nat}{a b:World}(h:TS S B a b){g:Nat}(hg:B<=g)(j:Nat)(v:Value):TS S B a (b.setCell ⟨g,j,none⟩ v):=
 ⟨h.os,h.tape,h.output,by rw[aos];exact h.size,fun k hk h1 h2=>(aok _ _ _ k (by show k≠g;omega)).trans (h.block k hk h1 h2)⟩
theorem TS.below{S B:Nat}{w w':World}(h:TS S B w w')(hS:S<B)(hs:S<=w.heap.size):Below S w w':=⟨h.os,h.tape,h.output,h.size,fun k hk=>h.block k om om om⟩
structure Says3(w:World)(S B:Nat)(u v t:Value)(ns ts:List ByteArray)(ss:List Int):Prop where
 cells:w.heap[S]? =some (.cells #[u,v,t] 124 (0,0))
 names:w.ownsRow B 9 1 u ns.length (ns.map Value.string)
 texts:w.ownsRow B 9 1 v ts.length (ts.map Value.string)
 sums:w.ownsRow B 3 1 t ss.length (ss.map (Value.int .i64))
 apart:∀g,u.ownBlock=some g->v.ownBlock≠some g
 low:S<B
 size:B<=w.heap.size
def SaysAt(w:World)(S B:Nat)(l:List Rw):Prop:=∃u v t,Says3 w S B u v t (l.map fun x=>x.1) (l.map fun x=>x.2.1) (l.map fun x=>x.2.2)
section
variable{w w2:World}{S B:Nat}{u v t:Value}{ns ts:List ByteArray}{ss:List Int}
theorem Says3.lt(h:Says3 w S B u v t ns ts ss):S<w.heap.size:=(aog.1 h.cells).1
theorem a0s{w:World}{base:Nat}{e:TypeId}{size:Nat}{v:Value}{n:Nat}{xs:List Value}(h:w.ownsRow base e size v n xs){k:Nat}(hk:v.ownBlock=some k):base<=k/\k<w.heap.size:=h.lt k hk
theorem a3w{w:World}{b1 b2:Nat}{e1 e2:TypeId}{s1 s2:Nat}{v1 v2:Value}{n1 n2:Nat}{x1 x2:List Value}(h1:w.ownsRow b1 e1 s1 v1 n1 x1)(h2:w.ownsRow b2 e2 s2 v2 n2 x2)(he:e1≠e2){k:Nat}(hk:v1.ownBlock=some k):v2.ownBlock≠some k:=fun h=>by
 obtain⟨c1,h3⟩:=a5F h1 hk;obtain⟨c2,h4⟩:=a5F h2 h;rw[h3]at h4;simp only[Option.some.injEq,Obj.cells.injEq]at h4;exact he h4.2.1
theorem a35:(9:Nat)≠3:=by decide
theorem a7d{W:World}{K:Nat}{a b c:Value}{t:TypeId}(h:W.heap[K]? =some (.cells #[a,b,c] t (0,0)))(i:Nat)(v:Value):(W.setCell ⟨K,i,none⟩ v).heap[K]? =some (.cells (#[a,b,c].setIfInBounds i v) t (0,0)):=by
 obtain⟨hlt,hk⟩:=aog.1 h;show (W.heap.modify K _)[K]? =_;rw[aoD (by rw[apm];exact hlt),ap0,hk];simp
theorem a8j{o:Option Nat}{ob:Obj}(x:Value)(j:Nat)(hS:S<w.heap.size)(hSB:S<B)(ho:∀k,o=some k->B<=k/\k<w.heap.size)(hg:(w.alloc ob).grownBy w2 o):
  w2.heap[S]? =w.heap[S]? /\(∀k,k<w.heap.size->k≠S->o≠some k->(w2.setCell ⟨S,j,none⟩ x).heap[k]? =w.heap[k]?)/\(∀k,k≠S->(w2.setCell ⟨S,j,none⟩ x).heap[k]? =w2.heap[k]?)/\TS S B w (w2.setCell ⟨S,j,none⟩ x):=by
 have hset:∀k,k≠S->(w2.setCell ⟨S,j,none⟩ x).heap[k]? =w2.heap[k]? :=fun k hk=>aok _ _ _ k hk
 have hal:∀k,k<w.heap.size->(w.alloc ob).heap[k]? =w.heap[k]? :=fun k hk=>aop _ _ _ om
 have hsz:(w.alloc ob).heap.size=w.heap.size+1:=by simp
 refine⟨?_,fun k hk h1 h2=>?_,hset,?_⟩
 ·exact(hg.block S om (fun e=>by have:=(ho S e.symm).1;omega)).trans (hal S hS)
 ·exact(hset k h1).trans ((hg.block k om (fun e=>h2 e.symm)).trans (hal k hk))
 have hsz2:=hg.size;exact(⟨hg.os,hg.tape,hg.output,om,fun k hk h1 h2=>(hg.block k om (fun e=>by have:=(ho k e.symm).1;omega)).trans (hal k hk)⟩:TS S B w w2).set j x
theorem Says3.name(h:Says3 w S B u v t ns ts ss){ob:Obj}{g cap:Nat}{n:ByteArray}(hr:w2.ownsRow B 9 1 (.slice (some ⟨g,0,none⟩) (ns.length+1) cap) (ns.length+1) (ns.map Value.string++[.string n]))
  (hg:(w.alloc ob).grownBy w2 u.ownBlock)(hat:u.ownBlock=some g\/g=w.heap.size+1):
  Says3 (w2.setCell ⟨S,0,none⟩ (.slice (some ⟨g,0,none⟩) (ns.length+1) cap)) S B (.slice (some ⟨g,0,none⟩) (ns.length+1) cap) v t (ns++[n]) ts ss/\(w2.cell? ⟨S,0,none⟩=some u/\w2.frozen? ⟨S,0,none⟩=false)/\TS S B w (w2.setCell ⟨S,0,none⟩ (.slice (some ⟨g,0,none⟩) (ns.length+1) cap)):=by
 obtain⟨h1,h2,h3,h4⟩:=a8j (.slice (some ⟨g,0,none⟩) (ns.length+1) cap) 0 h.lt h.low (fun k hk=>a0s h.names hk) hg;have hc2:=h1.trans h.cells;have hgS:B<=g:=(a0s hr (k:=g) rfl).1
 have hlow:=h.low;refine⟨⟨?_,?_,?_,?_,?_,h.low,aor h.size h4.size⟩,⟨heap_cell hc2 rfl,by simp[World.frozen?,hc2]⟩,h4⟩
 ·rw[a7d hc2];rfl
 ·rw[aoE,aol];exact a0O hr fun k hk=>h3 k (by have:k=g:=(by simpa [Value.ownBlock]using hk.symm);omega)
 ·exact a0O h.texts fun k hk=>h2 k (a0s h.texts hk).2 (by have:=(a0s h.texts hk).1;omega) (fun e=>h.apart k e hk)
 ·exact a0O h.sums fun k hk=>h2 k (a0s h.sums hk).2 (by have:=(a0s h.sums hk).1;omega) (a3w h.sums h.names (Ne.symm a35) hk)
 intro k hk hk2;have:k=g:=by simpa [Value.ownBlock]using hk.symm
 subst this;rcases hat with h5|h5
 ·exact h.apart k h5 hk2
 have:=(a0s h.texts hk2).2;omega
theorem Says3.text(h:Says3 w S B u v t ns ts ss){ob:Obj}{g cap:Nat}{n:ByteArray}(hr:w2.ownsRow B 9 1 (.slice (some ⟨g,0,none⟩) (ts.length+1) cap) (ts.length+1) (ts.map Value.string++[.string n]))
  (hg:(w.alloc ob).grownBy w2 v.ownBlock)(hat:v.ownBlock=some g\/g=w.heap.size+1):
  Says3 (w2.setCell ⟨S,1,none⟩ (.slice (some ⟨g,0,none⟩) (ts.length+1) cap)) S B u (.slice (some ⟨g,0,none⟩) (ts.length+1) cap) t ns (ts++[n]) ss/\(w2.cell? ⟨S,1,none⟩=some v/\w2.frozen? ⟨S,1,none⟩=false)/\TS S B w (w2.setCell ⟨S,1,none⟩ (.slice (some ⟨g,0,none⟩) (ts.length+1) cap)):=by
 obtain⟨h1,h2,h3,h4⟩:=a8j (.slice (some ⟨g,0,none⟩) (ts.length+1) cap) 1 h.lt h.low (fun k hk=>a0s h.texts hk) hg;have hc2:=h1.trans h.cells;have hgS:B<=g:=(a0s hr (k:=g) rfl).1
 have hlow:=h.low;refine⟨⟨?_,?_,?_,?_,?_,h.low,aor h.size h4.size⟩,⟨heap_cell hc2 rfl,by simp[World.frozen?,hc2]⟩,h4⟩
 ·rw[a7d hc2];rfl
 ·exact a0O h.names fun k hk=>h2 k (a0s h.names hk).2 (by have:=(a0s h.names hk).1;omega) (h.apart k hk)
 ·rw[aoE,aol];exact a0O hr fun k hk=>h3 k (by have:k=g:=(by simpa [Value.ownBlock]using hk.symm);omega)
 ·exact a0O h.sums fun k hk=>h2 k (a0s h.sums hk).2 (by have:=(a0s h.sums hk).1;omega) (a3w h.sums h.texts (Ne.symm a35) hk)
 intro k hk hk2;have:k=g:=by simpa [Value.ownBlock]using hk2.symm
 subst this;rcases hat with h5|h5
 ·exact h.apart k hk h5
 have:=(a0s h.names hk).2;omega
theorem Says3.sum(h:Says3 w S B u v t ns ts ss){ob:Obj}{g cap:Nat}{n:Int}(hr:w2.ownsRow B 3 1 (.slice (some ⟨g,0,none⟩) (ss.length+1) cap) (ss.length+1) (ss.map (Value.int .i64)++[.int .i64 n]))
  (hg:(w.alloc ob).grownBy w2 t.ownBlock):
  Says3 (w2.setCell ⟨S,2,none⟩ (.slice (some ⟨g,0,none⟩) (ss.length+1) cap)) S B u v (.slice (some ⟨g,0,none⟩) (ss.length+1) cap) ns ts (ss++[n])/\(w2.cell? ⟨S,2,none⟩=some t/\w2.frozen? ⟨S,2,none⟩=false)/\TS S B w (w2.setCell ⟨S,2,none⟩ (.slice (some ⟨g,0,none⟩) (ss.length+1) cap)):=by
 obtain⟨h1,h2,h3,h4⟩:=a8j (.slice (some ⟨g,0,none⟩) (ss.length+1) cap) 2 h.lt h.low (fun k hk=>a0s h.sums hk) hg;have hc2:=h1.trans h.cells;have hgS:B<=g:=(a0s hr (k:=g) rfl).1
 have hlow:=h.low;refine⟨⟨?_,?_,?_,?_,h.apart,h.low,aor h.size h4.size⟩,⟨heap_cell hc2 rfl,by simp[World.frozen?,hc2]⟩,h4⟩
 ·rw[a7d hc2];rfl
 ·exact a0O h.names fun k hk=>h2 k (a0s h.names hk).2 (by have:=(a0s h.names hk).1;omega) (a3w h.names h.sums a35 hk)
 ·exact a0O h.texts fun k hk=>h2 k (a0s h.texts hk).2 (by have:=(a0s h.texts hk).1;omega) (a3w h.texts h.sums a35 hk)
 rw[aoE,aol];exact a0O hr fun k hk=>h3 k (by have:k=g:=(by simpa [Value.ownBlock]using hk.symm);omega)
theorem Says3.cell(h:Says3 w S B u v t ns ts ss):w.cell? ⟨S,0,none⟩=some u/\w.cell? ⟨S,1,none⟩=some v/\w.cell? ⟨S,2,none⟩=some t/\∀j,w.frozen? ⟨S,j,none⟩=false:=
 ⟨heap_cell h.cells rfl,heap_cell h.cells rfl,heap_cell h.cells rfl,fun j=>by simp[World.frozen?,h.cells]⟩
end
theorem aaG{l:List Rw}{n:ByteArray}{k:Nat}(hk:k<l.length)(h0:∀j (h:j<l.length),j<k->(l[j]).1≠n)(h1:(l[k]).1=n):a0g n l=k/\a0G l n=l:=by
 have e:=a4g n l k h0 (fun _=>h1) om;refine⟨e,?_⟩;unfold a0G;rw[e,if_pos hk]
theorem adT{l:List Rw}{n:ByteArray}(h0:∀j (h:j<l.length),(l[j]).1≠n):a0g n l=l.length/\a0G l n=l++[(n,emp,0)]:=by
 have e:=a4g n l l.length (fun j h _=>h0 j h) (fun h=>om) (aof _);refine⟨e,?_⟩;unfold a0G;rw[e,if_neg om]
def anA(S B:Nat)(l:List Rw)(n:ByteArray)(w:World)(e:Ending)(w':World):Prop:=e= .returned (.int .i64 (a0g n l:Nat))/\SaysAt w' S B (a0G l n)/\TS S B w w'
theorem amG(S B:Nat)(l:List Rw)(n:ByteArray)(w:World)(h:SaysAt w S B l)(hl:l.length<=1000):Calls prog 74 #[.pointer (some ⟨S,0,none⟩),.string n] w (anA S B l n w):=by
 obtain⟨u,v,t,h3⟩:=h;obtain⟨i0,hi0,hz0,hz1,hz2⟩:=info_parts Tryz.infoStr;obtain⟨i1,hi1,hy0,hy1,hy2⟩:=info_parts Tryz.infoInt;have H3:=hid h3;obtain⟨c0,c1,c2,fz⟩:=h3.cell;obtain⟨ua,uc,rfl⟩:=own_shape h3.names;obtain⟨va,vc,rfl⟩:=own_shape h3.texts;obtain⟨ta,tc,rfl⟩:=own_shape h3.sums;have HNL:Hid ((l.map fun x=>x.1).length=l.length):=hid oz;have HTL:Hid ((l.map fun x=>x.2.1).length=l.length):=hid oz;have HSL:Hid ((l.map fun x=>x.2.2).length=l.length):=hid oz;rw[HNL.out]at c0;rw[HTL.out]at c1;rw[HSL.out]at c2;have H3':=hid h3;obtain⟨len,hlen⟩:∃len,len=l.length:=⟨_,rfl⟩
 have HLEN:=hid hlen
 have HCELL:Hid (∀k (hk:k<l.length),w.cell? ⟨(Value.slice ua (l.map fun x=>x.1).length uc).ownBlock.getD 0,k,none⟩=some (.string (l[k]).1)/\∃g,ua=some ⟨g,0,none⟩):=hid (fun k hk=>by
  obtain⟨g,cap,hv,_,_⟩:=h3.names.form (by rw[HNL.out];omega);simp only[Value.slice.injEq]at hv;obtain⟨rfl,_,rfl⟩:=hv;refine⟨?_,g,rfl⟩;have:=h3.names.cellAt k (by rw[HNL.out];omega);show w.cell? ⟨g,k,none⟩=_;rw[this];simp[hk])
 rw[<-hlen]at c0 c1 c2 hl;clear h3 hlen;go_enter func74,ntmps74;go_wp2;go_loopw [5] (fun i wr=>∃k:Nat,k<=len/\i= .int .i64 k/\Hid (∀j (h:j<l.length),j<k->(l[j]).1≠n)/\wr=w) (fun i _=>len-(intOf i).toNat)
 case atStart=>exact⟨0,om,rfl,hid (fun j h hj=>om),rfl⟩
 case round=>
  obtain⟨k,hk,rfl,HT,rfl⟩:=hrel;by_cases hlt:k<len
  ·have hlt2:(k:Int)<(len:Int):=om;have hkl:k<l.length:=by rw[<-HLEN.out];exact hlt
   obtain⟨hck,g,rfl⟩:=HCELL.out k hkl;have hc:wr.cell? ⟨g,k,none⟩=some (.string (l[k]).1):=hck;obtain⟨x,hx⟩:∃x,x=(l[k]).1:=⟨_,rfl⟩
   rw[<-hx]at hc;have HX:=hid hx;clear hck hx;by_cases hxn:x=n
   ·have hb:(x.toList==n.toList)=true:=by rw[a54,decide_eq_true hxn]
    have HF:=hid (aaG hkl HT.out (HX.out.symm.trans hxn));clear hxn;go_wp2;go_ret;refine⟨?_,?_,TS.refl _ _ _⟩
    ·rw[HF.out.1];rfl
    rw[HF.out.2];exact⟨_,_,_,H3.out⟩
   have hb:(x.toList==n.toList)=false:=by rw[a54,decide_eq_false hxn]
   have HT2:Hid (∀j (h:j<l.length),j<k+1->(l[j]).1≠n):=hid (fun j h hj=>by
    by_cases e:j=k
    ·subst e;rw[<-HX.out];exact hxn
    exact HT.out j h om)
   clear hxn;go_wp2;go_roundw
   case rel=>exact⟨k+1,om,by go_num,HT2,trivial⟩
   case measure=>simp[intOf];omega
  obtain rfl:k=len:=om;have HF:=hid (adT fun j h=>HT.out j h (by rw[HLEN.out];exact h))
  have HFIN:=hid (fun(w':World) (u v t:Value) (h:Says3 w' S B u v t (l.map (fun x=>x.1)++[n]) (l.map (fun x=>x.2.1)++[emp]) (l.map (fun x=>x.2.2)++[0]))=>show SaysAt w' S B (a0G l n)from by
   rw[HF.out.2];exact⟨u,v,t,by rw[aoE,aoE,aoE];exact h⟩)
  have HR:Hid (Says3 wr S B (.slice ua k uc) (.slice va k vc) (.slice ta k tc) (l.map fun x=>x.1) (l.map fun x=>x.2.1) (l.map fun x=>x.2.2)):=hid (by
   have h9:=H3'.out;rw[HNL.out,HTL.out,HSL.out,<-HLEN.out]at h9;exact h9)
  rw[<-HLEN.out]at HNL HTL HSL;generalize (l.map fun x=>x.1)=ns at *;generalize (l.map fun x=>x.2.1)=ts at *;generalize (l.map fun x=>x.2.2)=ss at *;have HN0:Hid (wr.ownsRow B 9 1 (.slice ua k uc) k (ns.map Value.string)):=hid (by have h9:=HR.out.names;rw[HNL.out]at h9;exact h9);have hSlt:=HR.out.lt;have hBs:=HR.out.size;have HBS0:=hid hBs;clear H3 H3' HCELL c1 c2 HT;go_wp2_with (at_builtin;refine wpList_append_lies _ rfl _ _ 22 rfl B 9 i0 (.string ⟨#[]⟩) 1 16 underlying22 hi0 hz0 hz1 hz2 rfl ox _ _ _ rfl (HN0.out.alloc _) ⟨wr.heap.size,0,none⟩ 1 1 [.string n] rfl rfl ?c1 ?c2 ox ?c4 ?c5 ?c6 (wr.heap.size+1) ?c7 ?_)
  case c1=>exact(a0h _ _ _)
  case c2=>intro u hu;simp at hu;subst hu;rfl
  case c4=>unfold maxLen;omega
  case c5=>omega
  case c6=>simp;omega
  case c7=>simp
  intro g1 cap1 w2 hown2 hgrow2 hat2 hlt2;have hN:=HR.out.name (ob:=.cells #[.string n] 9) (w2:=w2) (g:=g1) (cap:=cap1) (n:=n) (by rw[HNL.out];exact hown2) hgrow2 hat2;rw[HNL.out]at hN;obtain⟨hS1,⟨d0,d1⟩,hB1⟩:=hN;have HS1:=hid hS1;have HB1:=hid hB1;clear hown2 hgrow2 hat2 hlt2 hS1 hB1 HR HN0 c0 fz;obtain⟨e0,e1,e2,ez⟩:=HS1.out.cell;have HT1:Hid ((w2.setCell ⟨S,0,none⟩ (.slice (some ⟨g1,0,none⟩) (k+1) cap1)).ownsRow B 9 1 (.slice va k vc) k (ts.map Value.string)):=hid (by have h9:=HS1.out.texts;rw[HTL.out]at h9;exact h9);have hS2:S<w2.heap.size:=by have:=HS1.out.lt;rwa[aos]at this
  have hB2:B<=w2.heap.size:=by have:=HS1.out.size;rwa[aos]at this
  go_wp2_with (at_builtin;refine wpList_append_lies _ rfl _ _ 22 rfl B 9 i0 (.string ⟨#[]⟩) 1 16 underlying22 hi0 hz0 hz1 hz2 rfl ox _ _ _ rfl (HT1.out.alloc _) ⟨w2.heap.size,0,none⟩ 1 1 [.string ⟨#[]⟩] rfl rfl ?c1 ?c2 ox ?c4 ?c5 ?c6 (w2.heap.size+1) ?c7 ?_)
  case c1=>intro j u hj;have h9:=a0h (w2.setCell ⟨S,0,none⟩ (.slice (some ⟨g1,0,none⟩) (k+1) cap1)) (.string ⟨#[]⟩) 9 j u hj;rw[aos]at h9;exact h9
  case c2=>intro u hu;simp at hu;subst hu;rfl
  case c4=>unfold maxLen;omega
  case c5=>omega
  case c6=>simp;omega
  case c7=>simp
  intro g2 cap2 w3 hown3 hgrow3 hat3 hlt3;have hN:=HS1.out.text (ob:=.cells #[.string ⟨#[]⟩] 9) (w2:=w3) (g:=g2) (cap:=cap2) (n:=⟨#[]⟩) (by rw[HTL.out];exact hown3) hgrow3 (by rw[aos];exact hat3);rw[HTL.out]at hN;obtain⟨hS1,⟨d2,d3⟩,hB1⟩:=hN;have HS2:=hid hS1;have HB2:=hid (HB1.out.trans hB1);clear hown3 hgrow3 hat3 hlt3 hS1 hB1 HB1 HS1 HT1 e0 e1 e2 ez d0 d1 hS2;obtain⟨e0,e1,e2,ez⟩:=HS2.out.cell;have HU1:Hid ((w3.setCell ⟨S,1,none⟩ (.slice (some ⟨g2,0,none⟩) (k+1) cap2)).ownsRow B 3 1 (.slice ta k tc) k (ss.map (Value.int .i64))):=hid (by have h9:=HS2.out.sums;rw[HSL.out]at h9;exact h9);have hS2:S<w3.heap.size:=by have:=HS2.out.lt;rwa[aos]at this
  have hB3:B<=w3.heap.size:=by have:=HS2.out.size;rwa[aos]at this
  go_wp2_with (at_builtin;refine wpList_append_lies _ rfl _ _ 122 rfl B 3 i1 (.int .i64 0) 1 8 underlying122 hi1 hy0 hy1 hy2 rfl ox _ _ _ rfl (HU1.out.alloc _) ⟨w3.heap.size,0,none⟩ 1 1 [.int .i64 0] rfl rfl ?c1 ?c2 ox ?c4 ?c5 ?c6 (w3.heap.size+1) ?c7 ?_)
  case c1=>intro j u hj;have h9:=a0h (w3.setCell ⟨S,1,none⟩ (.slice (some ⟨g2,0,none⟩) (k+1) cap2)) (.int .i64 0) 3 j u hj;rw[aos]at h9;exact h9
  case c2=>intro u hu;simp at hu;subst hu;rfl
  case c4=>unfold maxLen;omega
  case c5=>omega
  case c6=>simp;omega
  case c7=>simp
  intro g3 cap3 w4 hown4 hgrow4 hat4 hlt4;have hN:=HS2.out.sum (ob:=.cells #[.int .i64 0] 3) (w2:=w4) (g:=g3) (cap:=cap3) (n:=0) (by rw[HSL.out];exact hown4) hgrow4;rw[HSL.out]at hN;obtain⟨hS1,⟨d4,d5⟩,hB1⟩:=hN;have HS3:=hid hS1;have HB3:=hid (HB2.out.trans hB1);clear hown4 hgrow4 hat4 hlt4 hS1 hB1 HB2 HS2 HU1 e0 e1 e2 ez d2 d3 hS2;obtain⟨e0,e1,e2,ez⟩:=HS3.out.cell;have hw1:IntKind.i64.wrap ((k:Int)+1-1)=(k:Int):=by rw[IntWalk.i64_in _ om];omega
  have hw2:IntKind.i64.wrap (k:Int)=(k:Int):=IntWalk.i64_in _ om;go_wp2;go_ret;refine⟨?_,HFIN.out _ _ _ _ HS3.out,HB3.out⟩;rw[HF.out.1,<-HLEN.out];rfl
theorem afW(l:List UInt8):bsB l=emp↔l=[]:=⟨fun h=>afJ (m:=[]) h,fun h=>by rw[h];rfl⟩
structure DeedC(line V R N A:ByteArray)(q1 more:Bool):Prop where
 c1:∀W,Calls prog 67 #[.string line] W (adS V R q1 W)
 c2:∀W,Calls prog 67 #[.string R] W (adS N A more W)
 hN:N.size<=4000000
 hA:A.size<=4000000
 is:a2N line=if a0n line=false\/a03 N=false then none
  else if V=putW then (if A=emp then none else some (.put N A))
  else if V=dropW then (if more then none else some (.drop N))
  else if V=addW then (match a26 A.data.toList with
   |some n=>some (.add N n)
   |none=>none)
  else none
theorem agV(line:ByteArray)(hl:line.size<=4000000):∃V R N A q1 more,DeedC line V R N A q1 more:=by
 have h1:=a40 line.data.toList;have h2:=a40 (a09 line.data.toList).2.1
 have hs:=a05 line;refine⟨bsB (a09 line.data.toList).1,bsB (a09 line.data.toList).2.1,bsB (a09 (a09 line.data.toList).2.1).1,bsB (a09 (a09 line.data.toList).2.1).2.1,_,_,fun W=>adQ line W om,fun W=>a57 _ W om,by rw[bsB_size];omega,by rw[bsB_size];omega,?_⟩;unfold a2N;simp only;by_cases e1:a0n line=false\/a03 (bsB (a09 (a09 line.data.toList).2.1).1)=false
 ·rw[if_pos e1,if_pos e1]
 rw[if_neg e1,if_neg e1];by_cases e2:bsB (a09 line.data.toList).1=putW
 ·rw[if_pos e2,if_pos e2];by_cases e3:(a09 (a09 line.data.toList).2.1).2.1=[]
  ·rw[if_pos e3,if_pos ((afW _).2 e3)]
  rw[if_neg e3,if_neg (fun h=>e3 ((afW _).1 h))]
 rw[if_neg e2,if_neg e2];simp only[a1t];rfl
section
variable{w w2:World}{S B:Nat}{u v t:Value}{ns ts:List ByteArray}{ss:List Int}
theorem Says3.setText{g cap:Nat}(h:Says3 w S B u (.slice (some ⟨g,0,none⟩) ts.length cap) t ns ts ss)(i:Nat)(x:ByteArray):
  Says3 (w.setCell ⟨g,i,none⟩ (.string x)) S B u (.slice (some ⟨g,0,none⟩) ts.length cap) t ns (ts.set i x) ss/\TS S B w (w.setCell ⟨g,i,none⟩ (.string x)):=by
 have hgS:=(a0s h.texts (k:=g) rfl).1
 have hlow:=h.low;have hset:∀k,k≠g->(w.setCell ⟨g,i,none⟩ (.string x)).heap[k]? =w.heap[k]? :=fun k hk=>aok _ _ _ k hk
 refine⟨⟨(hset S om).trans h.cells,a0O h.names fun k hk=>hset k fun e=>h.apart k hk (by rw[e];rfl),?_,a0O h.sums fun k hk=>hset k fun e=>a3w h.sums h.texts (Ne.symm a35) hk (by rw[e];rfl),h.apart,h.low,by rw[aos];exact h.size⟩,(TS.refl S B w).set2 hgS _ _⟩;rw[List.map_set,ap8];exact(h.texts.stored i (.string x)).1
theorem Says3.setSum{g cap:Nat}(h:Says3 w S B u v (.slice (some ⟨g,0,none⟩) ss.length cap) ns ts ss)(i:Nat)(x:Int):
  Says3 (w.setCell ⟨g,i,none⟩ (.int .i64 x)) S B u v (.slice (some ⟨g,0,none⟩) ss.length cap) ns ts (ss.set i x)/\TS S B w (w.setCell ⟨g,i,none⟩ (.int .i64 x)):=by
 have hgS:=(a0s h.sums (k:=g) rfl).1
 have hlow:=h.low;have hset:∀k,k≠g->(w.setCell ⟨g,i,none⟩ (.int .i64 x)).heap[k]? =w.heap[k]? :=fun k hk=>aok _ _ _ k hk
 refine⟨⟨(hset S om).trans h.cells,a0O h.names fun k hk=>hset k fun e=>a3w h.names h.sums a35 hk (by rw[e];rfl),a0O h.texts fun k hk=>hset k fun e=>a3w h.texts h.sums a35 hk (by rw[e];rfl),?_,h.apart,h.low,by rw[aos];exact h.size⟩,(TS.refl S B w).set2 hgS _ _⟩;rw[List.map_set,ap8];exact(h.sums.stored i (.int .i64 x)).1
end
theorem a5p{β:Type}(l:List Rw)(i:Nat)(f:Rw->Rw)(p:Rw->β)(hf:∀x,p (f x)=p x):(l.modify i f).map p=l.map p:=by
 apply List.ext_getElem oz;intro j h1 h2;simp only[List.getElem_map,apP];split
 ·rw[hf]
 rfl
theorem aaH{β:Type}(l:List Rw)(i:Nat)(f:Rw->Rw)(p:Rw->β)(x:β)(hf:∀y,p (f y)=x):(l.modify i f).map p=(l.map p).set i x:=by
 apply List.ext_getElem oz;intro j h1 h2;simp only[List.getElem_map,apP,List.getElem_set];split
 ·rw[hf]
 rfl
structure NameAt(w:World)(S B:Nat)(l:List Rw)(i:Nat)(n:ByteArray)(g2 c2 g3 c3 len:Nat)(u:Value):Prop where
 says:Says3 w S B u (.slice (some ⟨g2,0,none⟩) len c2) (.slice (some ⟨g3,0,none⟩) len c3) (l.map fun x=>x.1) (l.map fun x=>x.2.1) (l.map fun x=>x.2.2)
 lt:i<len
 len:len=l.length
 text:w.cell? ⟨g2,i,none⟩=some (.string (a0j l n))
 sum:w.cell? ⟨g3,i,none⟩=some (.int .i64 (a0X l n))
 ft:∀j,w.frozen? ⟨g2,j,none⟩=false
 fs:∀j,w.frozen? ⟨g3,j,none⟩=false
theorem afX{w:World}{S B:Nat}{l:List Rw}(h:SaysAt w S B l){n:ByteArray}(hi:a0g n l<l.length):∃g2 c2 g3 c3 len u,NameAt w S B l (a0g n l) n g2 c2 g3 c3 len u:=by
 obtain⟨u,v,t,h3⟩:=h;obtain⟨g2,c2,rfl,_⟩:=h3.texts.form km;obtain⟨g3,c3,rfl,_⟩:=h3.sums.form km;have e2:(l.map fun x=>x.2.1).length=l.length:=by simp
 have e3:(l.map fun x=>x.2.2).length=l.length:=by simp
 have ht:=h3.texts.cellAt (a0g n l) (by rw[e2];omega);have hs:=h3.sums.cellAt (a0g n l) (by rw[e3];omega);have hg:a1O l n=l[a0g n l]:=by unfold a1O;rw[aoh,aoj hi];rfl
 refine⟨g2,c2,g3,c3,l.length,u,⟨?_,hi,rfl,?_,?_,fun j=>h3.texts.frozenAt j,fun j=>h3.sums.frozenAt j⟩⟩
 ·rw[e2,e3]at h3;exact h3
 ·rw[ht,a0j,hg];simp[hi]
 rw[hs,a0X,hg];simp[hi]
theorem NameAt.putT{w:World}{S B:Nat}{l:List Rw}{i:Nat}{n:ByteArray}{g2 c2 g3 c3 len:Nat}{u:Value}(h:NameAt w S B l i n g2 c2 g3 c3 len u)(x:ByteArray):SaysAt (w.setCell ⟨g2,i,none⟩ (.string x)) S B (a38 l i x)/\TS S B w (w.setCell ⟨g2,i,none⟩ (.string x)):=by
 have h9:=h.says;rw[show (Value.slice (some ⟨g2,0,none⟩) len c2)= .slice (some ⟨g2,0,none⟩) (l.map fun x=>x.2.1).length c2 by rw[h.len];simp]at h9;obtain⟨h1,h2⟩:=h9.setText i x;refine⟨⟨u,.slice (some ⟨g2,0,none⟩) (l.map fun x=>x.2.1).length c2,.slice (some ⟨g3,0,none⟩) len c3,?_⟩,h2⟩;have p1:=a5p l i (fun y=>(y.1,x,y.2.2)) (fun y=>y.1) (fun _=>rfl);have p2:=aaH l i (fun y=>(y.1,x,y.2.2)) (fun y=>y.2.1) x (fun _=>rfl);have p3:=a5p l i (fun y=>(y.1,x,y.2.2)) (fun y=>y.2.2) (fun _=>rfl);unfold a38;rw[p1,p2,p3];exact h1
theorem NameAt.putS{w:World}{S B:Nat}{l:List Rw}{i:Nat}{n:ByteArray}{g2 c2 g3 c3 len:Nat}{u:Value}(h:NameAt w S B l i n g2 c2 g3 c3 len u)(x:Int):SaysAt (w.setCell ⟨g3,i,none⟩ (.int .i64 x)) S B (a5G l i x)/\TS S B w (w.setCell ⟨g3,i,none⟩ (.int .i64 x)):=by
 have h9:=h.says;rw[show (Value.slice (some ⟨g3,0,none⟩) len c3)= .slice (some ⟨g3,0,none⟩) (l.map fun x=>x.2.2).length c3 by rw[h.len];simp]at h9;obtain⟨h1,h2⟩:=h9.setSum i x;refine⟨⟨u,.slice (some ⟨g2,0,none⟩) len c2,.slice (some ⟨g3,0,none⟩) (l.map fun x=>x.2.2).length c3,?_⟩,h2⟩;have p1:=a5p l i (fun y=>(y.1,y.2.1,x)) (fun y=>y.1) (fun _=>rfl);have p2:=a5p l i (fun y=>(y.1,y.2.1,x)) (fun y=>y.2.1) (fun _=>rfl);have p3:=aaH l i (fun y=>(y.1,y.2.1,x)) (fun y=>y.2.2) x (fun _=>rfl);unfold a5G;rw[p1,p2,p3];exact h1
theorem a4D(l:List Rw)(n m:ByteArray):a0j (a0G l n) m=a0j l m:=by unfold a0j;rw[a3u]
theorem a4E(l:List Rw)(n m:ByteArray):a0X (a0G l n) m=a0X l m:=by unfold a0X;rw[a3u]
def AtN(S B:Nat)(l:List Rw)(n:ByteArray)(w:World)(e:Ending)(w':World):Prop:=∃g2 c2 g3 c3 len u,e= .returned (.int .i64 (a0g n l:Nat))/\NameAt w' S B (a0G l n) (a0g n l) n g2 c2 g3 c3 len u/\TS S B w w'
theorem a4F(S B:Nat)(l:List Rw)(n:ByteArray)(w:World)(h:SaysAt w S B l)(hl:l.length<=1000):Calls prog 74 #[.pointer (some ⟨S,0,none⟩),.string n] w (AtN S B l n w):=by
 refine(amG S B l n w h hl).mono ?_
 rintro e w' ⟨rfl,h2,hb⟩;obtain⟨h3,h4⟩:=a8S l n;obtain⟨g2,c2,g3,c3,len,u,h5⟩:=afX h2 (n:=n) (by rw[h3];exact h4);rw[h3]at h5;exact⟨g2,c2,g3,c3,len,u,rfl,h5,hb⟩
theorem SaysAt.below{w w':World}{S B:Nat}{l:List Rw}(h:SaysAt w S B l)(hb:Below w.heap.size w w'):SaysAt w' S B l:=by
 obtain⟨u,v,t,h3⟩:=h;exact⟨u,v,t,(hb.block _ h3.lt).trans h3.cells,own_below h3.names hb,own_below h3.texts hb,own_below h3.sums hb,h3.apart,h3.low,aor h3.size hb.size⟩
theorem SaysAt.lt{w:World}{S B:Nat}{l:List Rw}(h:SaysAt w S B l):S<w.heap.size:=by obtain⟨u,v,t,h3⟩:=h;exact h3.lt
theorem ajj:(putW.toList==([112,117,116]:List UInt8))=true:=ot
theorem al8:(dropW.toList==([112,117,116]:List UInt8))=false:=ot
theorem amH:(dropW.toList==([100,114,111,112]:List UInt8))=true:=ot
theorem anB:(addW.toList==([97,100,100]:List UInt8))=true:=ot
theorem aaI:(emp.toList==([]:List UInt8))=true:=ot
theorem NameAt.below{w w':World}{S B:Nat}{l:List Rw}{i:Nat}{n:ByteArray}{g2 c2 g3 c3 len:Nat}{u:Value}(h:NameAt w S B l i n g2 c2 g3 c3 len u)(hb:Below w.heap.size w w'):NameAt w' S B l i n g2 c2 g3 c3 len u:=by
 have h3:Says3 w' S B u (.slice (some ⟨g2,0,none⟩) len c2) (.slice (some ⟨g3,0,none⟩) len c3) (l.map fun x=>x.1) (l.map fun x=>x.2.1) (l.map fun x=>x.2.2):=
  ⟨(hb.block _ h.says.lt).trans h.says.cells,own_below h.says.names hb,own_below h.says.texts hb,own_below h.says.sums hb,h.says.apart,h.says.low,aor h.says.size hb.size⟩
 have e2:(l.map fun x=>x.2.1).length=len:=by rw[h.len];simp
 have e3:(l.map fun x=>x.2.2).length=len:=by rw[h.len];simp
 have ht:=h3.texts;have hs:=h3.sums;rw[e2]at ht;rw[e3]at hs;exact⟨h3,h.lt,h.len,keep_cell hb h.text,keep_cell hb h.sum,fun j=>ht.frozenAt j,fun j=>hs.frozenAt j⟩
def a41(S B:Nat)(l:List Rw)(line:ByteArray)(w:World)(e:Ending)(w':World):Prop:=
 e= .returned (.tuple #[.string (a1P l line).1.1,.int .i64 (a1P l line).1.2])/\SaysAt w' S B (a1P l line).2/\TS S B w w'
theorem a4h(S B:Nat)(l:List Rw)(line:ByteArray)(hs:line.size<=1000000)(w:World)(h:SaysAt w S B l)(hl:l.length<=900)(hsum:∀m, -100000000<=a0X l m/\a0X l m<=100000000):
  Calls prog 60 #[.pointer (some ⟨S,0,none⟩),.string line] w (a41 S B l line w):=by
 obtain⟨V,R,N,A,q1,more,hd⟩:=agV line om;have HDC:=hid hd;have HS:=hid h;have hNs:=hd.hN;have hAs:=hd.hA;have HD:=hid hd.is;clear hd h;unfold a41
 have HVX:Hid (a1P l line=match a2N line with
  |some (.put n t)=>((t,0),a38 (a0G l n) (a0g n l) t)
  |some (.drop n)=>if a0j l n=emp then ((emp,5),a0G l n)else ((a0j l n,0),a38 (a0G l n) (a0g n l) emp)
  |some (.add n m)=>((itoaB (a0X l n+m),0),a5G (a0G l n) (a0g n l) (a0X l n+m))
  |_=>((emp,100),l)):=hid rfl
 obtain⟨r,hr⟩:∃r,r=a1P l line:=⟨_,rfl⟩
 rw[<-hr]at HVX⊢;clear hr;cases hq:a0n line with
 |false=>
  have HV:Hid (r=((emp,100),l)):=hid (by rw[HVX.out,HD.out,if_pos (.inl hq)]);go_enter func60,ntmps60;go_wp2_with fail
  refine(HDC.out.c1 _).mono ?_
  rintro e w1 ⟨rfl,hb1⟩;go_wp2_with fail
  refine(HDC.out.c2 _).mono ?_
  rintro e w2 ⟨rfl,hb2⟩;have HB2:=hid (below_trans hb1 hb2);have HS2:=hid (HS.out.below HB2.out);have HBS:Hid (TS S B w w2):=hid (TS.of_below HB2.out);clear hb1 hb2;go_wp2_with fail
  refine(a1V line w2 om).mono ?_
  rintro e w3 ⟨rfl,rfl⟩;rw[hq];go_wp2;go_ret2;exact⟨by rw[HV.out];rfl,by rw[HV.out];exact HS2.out,HBS.out⟩
 | true=>
  cases hn:a03 N with
  |false=>
   have HV:Hid (r=((emp,100),l)):=hid (by rw[HVX.out,HD.out,if_pos (.inr hn)]);go_enter func60,ntmps60;go_wp2_with fail
   refine(HDC.out.c1 _).mono ?_
   rintro e w1 ⟨rfl,hb1⟩;go_wp2_with fail
   refine(HDC.out.c2 _).mono ?_
   rintro e w2 ⟨rfl,hb2⟩;have HB2:=hid (below_trans hb1 hb2);have HS2:=hid (HS.out.below HB2.out);have HBS:Hid (TS S B w w2):=hid (TS.of_below HB2.out);clear hb1 hb2;go_wp2_with fail
   refine(a1V line w2 om).mono ?_
   rintro e w3 ⟨rfl,rfl⟩;rw[hq];go_wp2_with fail
   refine(a1e N w2 om).mono ?_
   rintro e w3 ⟨rfl,rfl⟩;rw[hn];go_wp2;go_ret2;exact⟨by rw[HV.out];rfl,by rw[HV.out];exact HS2.out,HBS.out⟩
  | true=>
   have HD2:Hid (a2N line=if V=putW then (if A=emp then none else some (.put N A))
    else if V=dropW then (if more then none else some (.drop N))
    else if V=addW then (match a26 A.data.toList with
     |some n=>some (.add N n)
     |none=>none)
    else none):=hid (by rw[HD.out,if_neg (by rw[hq,hn];decide)])
   clear HD;by_cases h1:V=putW
   ·subst h1;have HD3:Hid (a2N line=if A=emp then none else some (.put N A)):=hid (by rw[HD2.out,if_pos rfl]);clear HD2;by_cases hA:A=emp
    ·have HV:Hid (r=((emp,100),l)):=hid (by rw[HVX.out,HD3.out,if_pos hA]);subst hA;have k1:=ajj;have k2:=aaI;go_enter func60,ntmps60;go_wp2_with fail
     refine(HDC.out.c1 _).mono ?_
     rintro e w1 ⟨rfl,hb1⟩;go_wp2_with fail
     refine(HDC.out.c2 _).mono ?_
     rintro e w2 ⟨rfl,hb2⟩;have HB2:=hid (below_trans hb1 hb2);have HS2:=hid (HS.out.below HB2.out);have HBS:Hid (TS S B w w2):=hid (TS.of_below HB2.out);clear hb1 hb2;go_wp2_with fail
     refine(a1V line w2 om).mono ?_
     rintro e w3 ⟨rfl,rfl⟩;rw[hq];go_wp2_with fail
     refine(a1e N w2 om).mono ?_
     rintro e w3 ⟨rfl,rfl⟩;rw[hn];go_wp2;go_ret2;exact⟨by rw[HV.out];rfl,by rw[HV.out];exact HS2.out,HBS.out⟩
    have HV:Hid (r=((A,0),a38 (a0G l N) (a0g N l) A)):=hid (by rw[HVX.out,HD3.out,if_neg hA]);have hAe:(A.toList==([]:List UInt8))=false:=a0W (l:=[]) hA;clear hA HVX HD3;have k1:=ajj;go_enter func60,ntmps60;go_wp2_with fail
    refine(HDC.out.c1 _).mono ?_
    rintro e w1 ⟨rfl,hb1⟩;go_wp2_with fail
    refine(HDC.out.c2 _).mono ?_
    rintro e w2 ⟨rfl,hb2⟩;have HB2:=hid (below_trans hb1 hb2);have HS2:=hid (HS.out.below HB2.out);have HBS:Hid (TS S B w w2):=hid (TS.of_below HB2.out);clear hb1 hb2;go_wp2_with fail
    refine(a1V line w2 om).mono ?_
    rintro e w3 ⟨rfl,rfl⟩;rw[hq];go_wp2_with fail
    refine(a1e N w2 om).mono ?_
    rintro e w3 ⟨rfl,rfl⟩;rw[hn];go_wp2_with fail
    refine(a4F S B l N w2 HS2.out om).mono ?_
    rintro e w3 ⟨g2,k2,g3,k3,len,u,rfl,hna,hb3⟩;have HNA:=hid hna;have HB3:=hid (HBS.out.trans hb3);obtain⟨d0,d1,d2,dz⟩:=hna.says.cell;have hilt:=hna.lt;have htx:=hna.text;have hsm:=hna.sum;have fft:=hna.ft;have ffs:=hna.fs;rw[a4D]at htx;rw[a4E]at hsm;clear hna hb3;have hil:((a0g N l:Nat):Int)<(len:Int):=om;have HP:=hid (HNA.out.putT A);generalize a0g N l=i at *;go_wp2;go_ret2;exact⟨by rw[HV.out];rfl,by rw[HV.out];exact HP.out.1,HB3.out.trans HP.out.2⟩
   have n1:(V.toList==([112,117,116]:List UInt8))=false:=a0W h1
   have HD3:Hid (a2N line=if V=dropW then (if more then none else some (.drop N))
    else if V=addW then (match a26 A.data.toList with
     |some n=>some (.add N n)
     |none=>none)
    else none):=hid (by rw[HD2.out,if_neg h1])
   clear HD2 h1;by_cases h2:V=dropW
   ·subst h2;have k1:=al8;have k2:=amH;have HD4:Hid (a2N line=if more then none else some (.drop N)):=hid (by rw[HD3.out,if_pos rfl]);clear HD3 n1;cases more with
    |true=>
     have HV:Hid (r=((emp,100),l)):=hid (by rw[HVX.out,HD4.out,if_pos rfl]);clear HVX HD4;go_enter func60,ntmps60;go_wp2_with fail
     refine(HDC.out.c1 _).mono ?_
     rintro e w1 ⟨rfl,hb1⟩;go_wp2_with fail
     refine(HDC.out.c2 _).mono ?_
     rintro e w2 ⟨rfl,hb2⟩;have HB2:=hid (below_trans hb1 hb2);have HS2:=hid (HS.out.below HB2.out);have HBS:Hid (TS S B w w2):=hid (TS.of_below HB2.out);clear hb1 hb2;go_wp2_with fail
     refine(a1V line w2 om).mono ?_
     rintro e w3 ⟨rfl,rfl⟩;rw[hq];go_wp2_with fail
     refine(a1e N w2 om).mono ?_
     rintro e w3 ⟨rfl,rfl⟩;rw[hn];go_wp2;go_ret2;exact⟨by rw[HV.out];rfl,by rw[HV.out];exact HS2.out,HBS.out⟩
    | false=>
     have HV0:Hid (r=if a0j l N=emp then ((emp,5),a0G l N)else ((a0j l N,0),a38 (a0G l N) (a0g N l) emp)):=hid (by rw[HVX.out,HD4.out];rfl);clear HVX HD4;by_cases ht:a0j l N=emp
     ·have HV:Hid (r=((emp,5),a0G l N)):=hid (by rw[HV0.out,if_pos ht]);have HT:=hid ht;clear ht HV0;have k3:=aaI;go_enter func60,ntmps60;go_wp2_with fail
      refine(HDC.out.c1 _).mono ?_
      rintro e w1 ⟨rfl,hb1⟩;go_wp2_with fail
      refine(HDC.out.c2 _).mono ?_
      rintro e w2 ⟨rfl,hb2⟩;have HB2:=hid (below_trans hb1 hb2);have HS2:=hid (HS.out.below HB2.out);have HBS:Hid (TS S B w w2):=hid (TS.of_below HB2.out);clear hb1 hb2;go_wp2_with fail
      refine(a1V line w2 om).mono ?_
      rintro e w3 ⟨rfl,rfl⟩;rw[hq];go_wp2_with fail
      refine(a1e N w2 om).mono ?_
      rintro e w3 ⟨rfl,rfl⟩;rw[hn];go_wp2_with fail
      refine(a4F S B l N w2 HS2.out om).mono ?_
      rintro e w3 ⟨g2,k2,g3,k3,len,u,rfl,hna,hb3⟩;have HNA:=hid hna;have HB3:=hid (HBS.out.trans hb3);obtain⟨d0,d1,d2,dz⟩:=hna.says.cell;have hilt:=hna.lt;have htx:=hna.text;have hsm:=hna.sum;have fft:=hna.ft;have ffs:=hna.fs;rw[a4D]at htx;rw[a4E]at hsm;clear hna hb3;rw[HT.out]at htx;have hil:((a0g N l:Nat):Int)<(len:Int):=om;generalize a0g N l=i at *;go_wp2;go_ret2;exact⟨by rw[HV.out];rfl,by rw[HV.out];exact⟨_,_,_,HNA.out.says⟩,HB3.out⟩
     have HV:Hid (r=((a0j l N,0),a38 (a0G l N) (a0g N l) emp)):=hid (by rw[HV0.out,if_neg ht]);have k3:((a0j l N).toList==([]:List UInt8))=false:=a0W (l:=[]) ht;clear ht HV0;go_enter func60,ntmps60;go_wp2_with fail
     refine(HDC.out.c1 _).mono ?_
     rintro e w1 ⟨rfl,hb1⟩;go_wp2_with fail
     refine(HDC.out.c2 _).mono ?_
     rintro e w2 ⟨rfl,hb2⟩;have HB2:=hid (below_trans hb1 hb2);have HS2:=hid (HS.out.below HB2.out);have HBS:Hid (TS S B w w2):=hid (TS.of_below HB2.out);clear hb1 hb2;go_wp2_with fail
     refine(a1V line w2 om).mono ?_
     rintro e w3 ⟨rfl,rfl⟩;rw[hq];go_wp2_with fail
     refine(a1e N w2 om).mono ?_
     rintro e w3 ⟨rfl,rfl⟩;rw[hn];go_wp2_with fail
     refine(a4F S B l N w2 HS2.out om).mono ?_
     rintro e w3 ⟨g2,k2,g3,k3,len,u,rfl,hna,hb3⟩;have HNA:=hid hna;have HB3:=hid (HBS.out.trans hb3);obtain⟨d0,d1,d2,dz⟩:=hna.says.cell;have hilt:=hna.lt;have htx:=hna.text;have hsm:=hna.sum;have fft:=hna.ft;have ffs:=hna.fs;rw[a4D]at htx;rw[a4E]at hsm;clear hna hb3;have hil:((a0g N l:Nat):Int)<(len:Int):=om;have HP:=hid (HNA.out.putT emp);generalize a0g N l=i at *;generalize a0j l N=tx at *;go_wp2;go_ret2;exact⟨by rw[HV.out];rfl,by rw[HV.out];exact HP.out.1,HB3.out.trans HP.out.2⟩
   have n2:(V.toList==([100,114,111,112]:List UInt8))=false:=a0W h2;by_cases h3:V=addW
   ·subst h3;have k3:=anB
    have HD4:Hid (a2N line=match a26 A.data.toList with
     |some n=>some (.add N n)
     |none=>none):=hid (by rw[HD3.out,if_neg h2,if_pos rfl])
    have HNU:=hid (fun W=>a7c A W om);have HBD:=hid (hsum N);clear HD3 h2;cases hm:a26 A.data.toList with
    |none=>
     rw[hm]at HD4 HNU;have HNU2:Hid (∀W,Calls prog 77 #[.string A] W fun e w'=>e= .returned (.tuple #[.int .i64 0,.bool false])/\W=w'):=hid HNU.out;have HV:Hid (r=((emp,100),l)):=hid (by rw[HVX.out,HD4.out]);clear HVX HD4 hm HNU;go_enter func60,ntmps60;go_wp2_with fail
     refine(HDC.out.c1 _).mono ?_
     rintro e w1 ⟨rfl,hb1⟩;go_wp2_with fail
     refine(HDC.out.c2 _).mono ?_
     rintro e w2 ⟨rfl,hb2⟩;have HB2:=hid (below_trans hb1 hb2);have HS2:=hid (HS.out.below HB2.out);have HBS:Hid (TS S B w w2):=hid (TS.of_below HB2.out);clear hb1 hb2;go_wp2_with fail
     refine(a1V line w2 om).mono ?_
     rintro e w3 ⟨rfl,rfl⟩;rw[hq];go_wp2_with fail
     refine(a1e N w2 om).mono ?_
     rintro e w3 ⟨rfl,rfl⟩;rw[hn];go_wp2_with fail
     refine(HNU2.out _).mono ?_
     rintro e w3 ⟨rfl,rfl⟩;go_wp2;go_ret2;exact⟨by rw[HV.out];rfl,by rw[HV.out];exact HS2.out,HBS.out⟩
    | some m=>
     obtain⟨_,hm0,hm1⟩:=a7U hm;rw[hm]at HD4 HNU;have HNU2:Hid (∀W,Calls prog 77 #[.string A] W fun e w'=>e= .returned (.tuple #[.int .i64 m,.bool true])/\W=w'):=hid HNU.out;have HV:Hid (r=((itoaB (a0X l N+m),0),a5G (a0G l N) (a0g N l) (a0X l N+m))):=hid (by rw[HVX.out,HD4.out]);clear HVX HD4 hm HNU;go_enter func60,ntmps60;go_wp2_with fail
     refine(HDC.out.c1 _).mono ?_
     rintro e w1 ⟨rfl,hb1⟩;go_wp2_with fail
     refine(HDC.out.c2 _).mono ?_
     rintro e w2 ⟨rfl,hb2⟩;have HB2:=hid (below_trans hb1 hb2);have HS2:=hid (HS.out.below HB2.out);have HBS:Hid (TS S B w w2):=hid (TS.of_below HB2.out);clear hb1 hb2;go_wp2_with fail
     refine(a1V line w2 om).mono ?_
     rintro e w3 ⟨rfl,rfl⟩;rw[hq];go_wp2_with fail
     refine(a1e N w2 om).mono ?_
     rintro e w3 ⟨rfl,rfl⟩;rw[hn];go_wp2_with fail
     refine(HNU2.out _).mono ?_
     rintro e w3 ⟨rfl,rfl⟩;go_wp2_with fail
     refine(a4F S B l N w2 HS2.out om).mono ?_
     rintro e w3 ⟨g2,k2,g3,k3,len,u,rfl,hna,hb3⟩;have HNA:=hid hna;have HB3:=hid (HBS.out.trans hb3);obtain⟨d0,d1,d2,dz⟩:=hna.says.cell;have hilt:=hna.lt;have htx:=hna.text;have hsm:=hna.sum;have fft:=hna.ft;have ffs:=hna.fs;rw[a4D]at htx;rw[a4E]at hsm;clear hna hb3;have hil:((a0g N l:Nat):Int)<(len:Int):=om;have HP:=hid ((HNA.out.below (aoi _ _).drew).putS (a0X l N+m));have hb1:=HBD.out.1;have hb2:=HBD.out.2;generalize a0g N l=i at *;generalize a0X l N=sm at *;have hw1:IntKind.i64.wrap (sm+m)=sm+m:=IntWalk.i64_in _ om;have HDM:=hid (fun W=>a2m (sm+m) W om om);have hgt:=(a0s HNA.out.says.sums (k:=g3) rfl).1
     have hlow:=HNA.out.says.low;have hne1:¬S=g3:=om;have hne2:¬g3=S:=om;clear hsum hgt hlow;go_wp2;go_region_law (fail)
     all_goals
      go_wp2_with fail
      refine(HDM.out _).mono ?_
      rintro e w4 ⟨rfl,hb4⟩;go_wp2;go_ret2;have hz:Below w3.heap.size w3 w3.drew:=(aoi _ _).drew
      refine⟨by rw[HV.out];rfl,by rw[HV.out];exact HP.out.1.below hb4,(HB3.out.trans ((TS.of_below hz).trans HP.out.2)).trans (TS.of_below hb4)⟩
   have n3:(V.toList==([97,100,100]:List UInt8))=false:=a0W h3;have HV:Hid (r=((emp,100),l)):=hid (by rw[HVX.out,HD3.out,if_neg h2,if_neg h3]);clear HVX HD3 h2 h3;go_enter func60,ntmps60;go_wp2_with fail
   refine(HDC.out.c1 _).mono ?_
   rintro e w1 ⟨rfl,hb1⟩;go_wp2_with fail
   refine(HDC.out.c2 _).mono ?_
   rintro e w2 ⟨rfl,hb2⟩;have HB2:=hid (below_trans hb1 hb2);have HS2:=hid (HS.out.below HB2.out);have HBS:Hid (TS S B w w2):=hid (TS.of_below HB2.out);clear hb1 hb2;go_wp2_with fail
   refine(a1V line w2 om).mono ?_
   rintro e w3 ⟨rfl,rfl⟩;rw[hq];go_wp2_with fail
   refine(a1e N w2 om).mono ?_
   rintro e w3 ⟨rfl,rfl⟩;rw[hn];go_wp2;go_ret2;exact⟨by rw[HV.out];rfl,by rw[HV.out];exact HS2.out,HBS.out⟩
def a8k(b:a00)(w:World)(e:Ending)(w':World):Prop:=∃B,e= .returned (.pointer (some ⟨w.heap.size,0,none⟩))/\SaysAt w' w.heap.size B (a0M (a06 b) [])/\Below w.heap.size w w'
theorem agW{l:List Ent}{k:Nat}(h:k<l.length):a0M (l.take (k+1)) []=(a1P (a0M (l.take k) []) (a0b (l.getD k noE))).2:=by
 rw[aon h,aaD];rw[aoh,aoj h];rfl
theorem a3x(l:List Ent)(h:l.length<=1000)(m:ByteArray): -100000000<=a0X (a0M l []) m/\a0X (a0M l []) m<=100000000:=by
 have h1:a0X (a0M l []) m=(a0e l).stk m:=by rw[<-a7a];rfl
 rw[h1];exact a4x l h m
theorem al9(w:World){w2:World}(hb:Below (w.heap.size+1) (w.alloc (.cells #[.slice none 0 0,.slice none 0 0,.slice none 0 0] 124)) w2):SaysAt w2 w.heap.size w2.heap.size []:=by
 have hsz:=hb.size;rw[aoq]at hsz;exact⟨.slice none 0 0,.slice none 0 0,.slice none 0 0,(hb.block _ om).trans (World.alloc_heap_new w _),World.ownsRow_nil _ _ _ _,World.ownsRow_nil _ _ _ _,World.ownsRow_nil _ _ _ _,fun g hg=>by simp[Value.ownBlock]at hg,om,aof _⟩
theorem ack(P:Nat)(n:Int)(vs:Nat->Value)(b:a00)(w:World)(h:RfAt w P n vs b)(hok:a02 b):
  Calls prog 59 #[.pointer (some ⟨P,0,none⟩)] w (a8k b w):=by
 obtain⟨w1,hw1⟩:∃w1,w1=w.alloc (.cells #[.slice none 0 0,.slice none 0 0,.slice none 0 0] 124):=⟨_,rfl⟩
 have HB1:Hid (Below w.heap.size w w1):=hid (by rw[hw1];exact(aoi _ w).alloc (aof _) _);have HSZ1:Hid (w1.heap.size=w.heap.size+1):=hid (by rw[hw1,aoq]);have HBK:=hid (a8g P n vs b w1 (h.below HB1.out) hok);have HBD:=hid (fun e (he:e∈a06 b)=>a0y hok he);have hlen:(a06 b).length<=240:=by rw[a1j];exact a1X hok
 have HW1:=hid hw1;unfold a8k;generalize a06 b=l at *;clear h hok hw1;go_enter func59,ntmps59;go_wp2_with fail
 rw[<-HW1.out];refine HBK.out.mono ?_;rintro e w2 ⟨v,rfl,hl,hhi,hb2⟩;have HN0:Hid (SaysAt w2 w.heap.size w2.heap.size []):=hid (al9 w (by rw[HW1.out,aoq]at hb2;exact hb2));have HE2:=hid (hl.ents om);have HHI:=hid (fun k (hk:v.ownBlock=some k)=>And.intro (hhi k hk) (hl.lt hk));have HB2:=hid (HB1.out.trans (hb2.mono HB1.out.size));obtain⟨a,c,rfl⟩:=own_shape hl;obtain⟨n9,hn⟩:∃n,n=l.length:=⟨_,rfl⟩
 have HN:=hid hn;rw[<-hn]at hlen⊢;clear hn hl hb2 hhi;go_wp2_with fail
 go_loopw [5] (fun i wr=>∃k:Nat,k<=n9/\i= .int .i64 k/\Hid (SaysAt wr w.heap.size w2.heap.size (a0M (l.take k) []))/\Hid (TS w.heap.size w2.heap.size w2 wr)) (fun i _=>n9-(intOf i).toNat)
 case atStart=>exact⟨0,om,rfl,HN0,hid (TS.refl _ _ _)⟩
 case round=>
  obtain⟨k,hk,rfl,HS,HT⟩:=hrel;by_cases hlt:k<n9
  ·have hlt2:(k:Int)<(n9:Int):=om;have hkl:k<l.length:=by rw[<-HN.out];exact hlt
   have HEW:Hid (EntsAt wr (.slice a l.length c) l):=hid (HE2.out.keep fun _ g hg=>HT.out.block g (HHI.out g hg).2 (HHI.out g hg).2 (by have h1:=(HHI.out g hg).1;have h2:=HSZ1.out;omega));obtain⟨g,o,cc,hv,_,_,_,p4⟩:=HEW.out.entry hkl;simp only[Value.slice.injEq]at hv;obtain⟨rfl,_,rfl⟩:=hv;have hmem:l.getD k noE∈l:=by rw[aoh,aoj hkl];exact aoZ hkl
   have hline:=a5m (HBD.out _ hmem).2.2.2
   rw[<-a05]at hline;have HTK:=hid (agW hkl)
   have HDD:=hid (a4h w.heap.size w2.heap.size (a0M (l.take k) []) (a0b (l.getD k noE)) om wr HS.out (by
    have h9:=a2S (l.take k) [];rw[aoy]at h9;simp only[aow]at h9;omega) (a3x _ (by rw[aoy];omega)))
   generalize a0b (l.getD k noE)=s at *;clear hmem hline;go_wp2_with fail
   refine HDD.out.mono ?_;rintro e w3 ⟨rfl,hs3,ht3⟩;have HS3:Hid (SaysAt w3 w.heap.size w2.heap.size (a0M (l.take (k+1)) [])):=hid (by rw[HTK.out];exact hs3);have HT3:=hid (HT.out.trans ht3);clear hs3 ht3;go_wp2;go_roundw
   case rel=>exact⟨k+1,om,by go_num,HS3,HT3⟩
   case measure=>simp[intOf];omega
  obtain rfl:k=n9:=om;have HTA:Hid (l.take k=l):=hid (aou (by rw[<-HN.out];exact aof _));go_wp2;go_ret;have h9:=HS.out;rw[HTA.out]at h9;exact⟨_,rfl,h9,HB2.out.trans (HT.out.below (by obtain⟨_,_,_,h8⟩:=h9;exact h8.low) HB2.out.size)⟩
end Go.Proofs.YtdfkaijeppdhaaaGreatDoor
