/- Texts of this claim, laid together: Sb, Sc, Sd, Sg. -/
import Derived.Test.YtdfkaijeppdhaaaGreatDoorZHp36
import Derived.Test.YtdfkaijeppdhaaaGreatDoorZHp37
import Derived.Test.YtdfkaijeppdhaaaGreatDoorZHp27
import Derived.Deep.AppendLies
import Derived.Deep.RegionLaw

set_option maxRecDepth 100000
set_option maxHeartbeats 8000000
set_option linter.unusedSimpArgs false
set_option linter.unusedVariables false

namespace Go.Proofs.YtdfkaijeppdhaaaGreatDoor
open Go.RowKit Go.Shelf
open Lib (hid)
theorem a7e(s:ByteArray){k:Nat}(hlt:k<s.size)(h:a0S s[k].toNat=true):a01 s=false:=by
 unfold a01
 have:(s.data.toList.any fun c=>a0S c.toNat)=true:=by
  rw[<-List.take_append_drop k s.data.toList,drop_byte hlt];simp[h]
 rw[this];simp
theorem aeI(s:ByteArray)(h:(s.data.toList.take s.size).any (fun c=>a0S c.toNat)=false):a01 s=betw 1 s.size 8:=by
 unfold a01;rw[List.take_of_length_le (by rw[<-a03];omega)]at h;rw[h];simp
theorem a0M(s:ByteArray)(w:World)(hs:s.size<=4000000000):Calls Tryz.prog 72 #[.string s] w (Bool1 (a01 s) w):=by
 have HT0:Hid ((s.data.toList.take 0).any (fun c=>a0S c.toNat)=false):=hid (by simp);go_enter Tryz.func72,Tryz.ntmps72;go_wp2;go_loopw [3] (fun i wr=>∃k:Nat,k<=s.size/\k<=9/\i= .int .i64 k/\Hid ((s.data.toList.take k).any (fun c=>a0S c.toNat)=false)/\wr=w) (fun i _=>s.size-(intOf i).toNat)
 case atStart=>exact⟨0,by omega,by omega,rfl,HT0,rfl⟩
 case round=>
  obtain⟨k,hk,hk9,rfl,HT,rfl⟩:=hrel;by_cases hlt:k<s.size
  ·have hlt2:(k:Int)<(s.size:Int):=by omega
   by_cases hk8:k<=8
   ·have hk8i:(k:Int)<=8:=by omega
    by_cases h97:s[k].toNat<97
    ·have h97i:(s[k].toNat:Int)<97:=by omega
     have HB:=hid (a7e s hlt (by unfold a0S;rw[decide_eq_true h97i];rfl));clear h97;go_wp2;go_ret;exact⟨by rw[HB.out];rfl,rfl⟩
    have h97i:¬(s[k].toNat:Int)<97:=by omega
    by_cases h122:122<s[k].toNat
    ·have h122i:(122:Int)<(s[k].toNat:Int):=by omega
     have HB:=hid (a7e s hlt (by unfold a0S;rw[decide_eq_true h122i];simp));clear h97 h122;go_wp2;go_ret;exact⟨by rw[HB.out];rfl,rfl⟩
    have h122i:¬(122:Int)<(s[k].toNat:Int):=by omega
    have HT2:Hid ((s.data.toList.take (k+1)).any (fun c=>a0S c.toNat)=false):=hid (by
     rw[a2Z hlt,List.any_append,HT.out];simp[a0S];omega)
    clear h97 h122;go_wp2;go_roundw
    case rel=>exact⟨k+1,by omega,by omega,by go_num,HT2,trivial⟩
    case measure=>simp[intOf];omega
   have hk8i:¬(k:Int)<=8:=by omega
   have HE:Hid (a01 s=false):=hid (by
    unfold a01;rw[show betw 1 (s.size:Int) 8=false by rw[a4O];omega];rfl)
   have h1:(1:Int)<=(s.size:Int):=by omega
   have h8:¬(s.size:Int)<=8:=by omega
   go_wp2;go_ret;exact⟨by rw[HE.out];rfl,rfl⟩
  obtain rfl:k=s.size:=by omega
  have HE:=hid (aeI s HT.out);by_cases h1:1<=s.size
  ·have h1i:(1:Int)<=(s.size:Int):=by omega
   by_cases h8:s.size<=8
   ·have h8i:(s.size:Int)<=8:=by omega
    have HD:Hid (betw 1 (s.size:Int) 8=true):=hid (by rw[betw_iff];omega);go_wp2;go_ret;exact⟨by rw[HE.out,HD.out];rfl,rfl⟩
   have h8i:¬(s.size:Int)<=8:=by omega
   have HD:Hid (betw 1 (s.size:Int) 8=false):=hid (by rw[a4O];omega);go_wp2;go_ret;exact⟨by rw[HE.out,HD.out];rfl,rfl⟩
  have h1i:¬(1:Int)<=(s.size:Int):=by omega
  have HD:Hid (betw 1 (s.size:Int) 8=false):=hid (by rw[a4O];omega);go_wp2;go_ret;exact⟨by rw[HE.out,HD.out];rfl,rfl⟩
def numI(o:Option Int):Int:=o.getD 0
def a6T(o:Option Int)(w:World)(e:Ending)(w':World):Prop:=e= .returned (.tuple #[.int .i64 (numI o),.bool o.isSome])/\w=w'
theorem aeJ{s:ByteArray}(h0:0<s.size)(h:s[0].toNat=45):numR s.data.toList=match natR (s.data.toList.drop 1) 4 with
  |some n=>if 0<n then some (-(n:Int))else none
  |none=>none:=by
 have hb:s[0]=45:=(u8_eq (n:=45) (by decide)).2 h
 have:=drop_byte (s:=s) (k:=0) h0;rw[List.drop_zero,hb]at this;conv=>lhs;rw[this]
 rfl
theorem agV{s:ByteArray}(h:¬(0<s.size/\∀h0:0<s.size,s[0].toNat=45)):numR s.data.toList=(natR s.data.toList 4).map fun n:Nat=>(n:Int):=by
 cases hl:s.data.toList with
 |nil=>rfl
 | cons b r=>
  have h0:0<s.size:=by rw[a03,hl];simp
  have hb:=drop_byte (s:=s) (k:=0) h0;rw[List.drop_zero,hl]at hb;injection hb with hb _
  unfold numR;split
  ·rename_i r' he
   exfalso;apply h;refine⟨h0,fun _=>?_⟩;rw[List.cons.injEq]at he;rw[<-hb,he.1];rfl
  rfl
theorem a5H(s:ByteArray)(w:World)(hs:s.size<=4000000000):Calls Tryz.prog 77 #[.string s] w (a6T (numR s.data.toList) w):=by
 by_cases h:0<s.size/\∀h0:0<s.size,s[0].toNat=45
 ·obtain⟨h0,h45⟩:=h;have h45:=h45 h0;have h0i:(0:Int)<(s.size:Int):=by omega
  have h1i:(1:Int)<=(s.size:Int):=by omega
  have hb:((s[0].toNat:Int)==45)=true:=by rw[beq_iff_eq];omega
  have HR:=hid (aeJ h0 h45);have HEX:=hid (ba_drop s 1);have HN:=hid (a6C (s.data.toList.drop 1) 4 w (by omega) (by rw[List.length_drop,<-a03];omega));have hlt:natP (natR (s.data.toList.drop 1) 4)<10^4:=ajr;clear h45;generalize hd:s.data.toList.drop 1=l at *;clear hd;have hlt2:natP (natR l 4)<10000:=hlt;clear hlt;cases hn:natR l 4 with
  |none=>
   rw[hn]at HR HN;have HR2:Hid (numR s.data.toList=none):=hid HR.out;clear hn hlt2;have HN2:Hid (Calls Tryz.prog 68 #[.string (bsB l),.int .i64 4] w (Nat2 0 false w)):=hid HN.out;go_enter Tryz.func77,Tryz.ntmps77;go_wp2_with fail
   rw[HEX.out];refine HN2.out.mono ?_;rintro e w1 ⟨rfl,rfl⟩;go_wp2;go_ret2;exact⟨by rw[HR2.out];rfl,rfl⟩
  | some n=>
   rw[hn]at HR HN hlt2;have hn4:n<10000:=hlt2;have HN2:Hid (Calls Tryz.prog 68 #[.string (bsB l),.int .i64 4] w (Nat2 n true w)):=hid HN.out;have hw1:IntKind.i64.wrap (-(n:Int))= -(n:Int):=IntWalk.i64_in _ (by omega);clear hn hlt2;by_cases hp:0<n
   ·have hpi:(0:Int)<(n:Int):=by omega
    have HR2:Hid (numR s.data.toList=some (-(n:Int))):=hid (by rw[HR.out];simp only;rw[if_pos hp]);have HPP:=hid hp;clear hp;go_enter Tryz.func77,Tryz.ntmps77;go_wp2_with fail
    rw[HEX.out];refine HN2.out.mono ?_;rintro e w1 ⟨rfl,rfl⟩;go_wp2;go_ret2;exact⟨by rw[HR2.out];show Ending.returned (Value.tuple #[.int .i64 (-(n:Int)),.bool (decide (0<n))])=_;rw[decide_eq_true HPP.out];rfl,rfl⟩
   obtain rfl:n=0:=by omega
   have HR2:Hid (numR s.data.toList=none):=hid (by rw[HR.out];simp);clear hp hw1;go_enter Tryz.func77,Tryz.ntmps77;go_wp2_with fail
   rw[HEX.out];refine HN2.out.mono ?_;rintro e w1 ⟨rfl,rfl⟩;go_wp2;go_ret2;exact⟨by rw[HR2.out];rfl,rfl⟩
 have HR:=hid (agV h)
 have HN:Hid (Calls Tryz.prog 68 #[.string s,.int .i64 4] w (a6T (numR s.data.toList) w)):=hid (by
  refine(a6z s 4 w (by omega) hs).mono ?_
  rintro e w1 ⟨rfl,rfl⟩;refine⟨?_,rfl⟩;rw[HR.out];cases natR s.data.toList 4<;>rfl)
 by_cases h0:0<s.size
 ·have h0i:(0:Int)<(s.size:Int):=by omega
  have hb:((s[0].toNat:Int)==45)=false:=by
   rw[beq_eq_false_iff_ne];intro e;exact h ⟨h0,fun _=>by omega⟩
  generalize numR s.data.toList=o at *;clear h;go_enter Tryz.func77,Tryz.ntmps77;go_wp2_with fail
  refine HN.out.mono ?_;rintro e w1 ⟨rfl,rfl⟩;go_wp2;go_ret2;exact⟨rfl,rfl⟩
 have h0i:¬(0:Int)<(s.size:Int):=by omega
 generalize numR s.data.toList=o at *;clear h;go_enter Tryz.func77,Tryz.ntmps77;go_wp2_with fail
 refine HN.out.mono ?_;rintro e w1 ⟨rfl,rfl⟩;go_wp2;go_ret2;exact⟨rfl,rfl⟩
structure TS(S B:Nat)(w w':World):Prop where
 os:w'.os=w.os
 tape:w'.tape=w.tape
 output:w'.output=w.output
 size:w.heap.size<=w'.heap.size
 block:∀k,k<w.heap.size->k<B->k≠S->w'.heap[k]? =w.heap[k]?
theorem TS.refl(S B:Nat)(w:World):TS S B w w:=⟨rfl,rfl,rfl,Nat.le_refl _,fun _ _ _ _=>rfl⟩
theorem TS.trans{S B:Nat}{a b c:World}(h:TS S B a b)(k:TS S B b c):TS S B a c:=
 ⟨k.os.trans h.os,k.tape.trans h.tape,k.output.trans h.output,Nat.le_trans h.size k.size,fun i hi h1 h2=>(k.block i (Nat.lt_of_lt_of_le hi h.size) h1 h2).trans (h.block i hi h1 h2)⟩
theorem TS.of_below{S B:Nat}{w w':World}(h:Below w.heap.size w w'):TS S B w w':=⟨h.os,h.tape,h.output,h.size,fun k hk _ _=>h.block k hk⟩
theorem TS.set{S B:Nat}{a b:World}(h:TS S B a b)(j:Nat)(v:Value):TS S B a (b.setCell ⟨S,j,none⟩ v):=
 ⟨h.os,h.tape,h.output,by rw[World.size_setCell];exact h.size,fun k hk h1 h2=>(Below.heap_setCell _ _ _ k h2).trans (h.block k hk h1 h2)⟩
theorem TS.set2{S B:Nat}{a b:World}(h:TS S B a b){g:Nat}(hg:B<=g)(j:Nat)(v:Value):TS S B a (b.setCell ⟨g,j,none⟩ v):=
 ⟨h.os,h.tape,h.output,by rw[World.size_setCell];exact h.size,fun k hk h1 h2=>(Below.heap_setCell _ _ _ k (by show k≠g;omega)).trans (h.block k hk h1 h2)⟩
theorem TS.below{S B:Nat}{w w':World}(h:TS S B w w')(hS:S<B)(hs:S<=w.heap.size):Below S w w':=⟨h.os,h.tape,h.output,h.size,fun k hk=>h.block k (by omega) (by omega) (by omega)⟩
structure Says3(w:World)(S B:Nat)(u v t:Value)(ns ts:List ByteArray)(ss:List Int):Prop where
 cells:w.heap[S]? =some (.cells #[u,v,t] 124 (0,0))
 names:w.ownsRow B 9 1 u ns.length (ns.map Value.string)
 texts:w.ownsRow B 9 1 v ts.length (ts.map Value.string)
 sums:w.ownsRow B 3 1 t ss.length (ss.map (Value.int .i64))
 apart:∀g,u.ownBlock=some g->v.ownBlock≠some g
 low:S<B
 size:B<=w.heap.size
def SaysAt(w:World)(S B:Nat)(l:List Rw):Prop:=∃u v t,Says3 w S B u v t (l.map fun x=>x.1) (l.map fun x=>x.2.1) (l.map fun x=>x.2.2)
section
variable{w w2:World}{S B:Nat}{u v t:Value}{ns ts:List ByteArray}{ss:List Int}
theorem Says3.lt(h:Says3 w S B u v t ns ts ss):S<w.heap.size:=(Array.getElem?_eq_some_iff.1 h.cells).1
theorem a0b{w:World}{base:Nat}{e:TypeId}{size:Nat}{v:Value}{n:Nat}{xs:List Value}(h:w.ownsRow base e size v n xs){k:Nat}(hk:v.ownBlock=some k):base<=k/\k<w.heap.size:=h.lt k hk
theorem a2t{w:World}{b1 b2:Nat}{e1 e2:TypeId}{s1 s2:Nat}{v1 v2:Value}{n1 n2:Nat}{x1 x2:List Value}(h1:w.ownsRow b1 e1 s1 v1 n1 x1)(h2:w.ownsRow b2 e2 s2 v2 n2 x2)(he:e1≠e2){k:Nat}(hk:v1.ownBlock=some k):v2.ownBlock≠some k:=fun h=>by
 obtain⟨c1,h3⟩:=a5o h1 hk;obtain⟨c2,h4⟩:=a5o h2 h;rw[h3]at h4;simp only[Option.some.injEq,Obj.cells.injEq]at h4;exact he h4.2.1
theorem a1V:(9:Nat)≠3:=by decide
theorem a5I{W:World}{K:Nat}{a b c:Value}{t:TypeId}(h:W.heap[K]? =some (.cells #[a,b,c] t (0,0)))(i:Nat)(v:Value):(W.setCell ⟨K,i,none⟩ v).heap[K]? =some (.cells (#[a,b,c].setIfInBounds i v) t (0,0)):=by
 obtain⟨hlt,hk⟩:=Array.getElem?_eq_some_iff.1 h;show (W.heap.modify K _)[K]? =_;rw[Array.getElem?_eq_getElem (by rw[Array.size_modify];exact hlt),Array.getElem_modify_self,hk];simp
theorem a6H{o:Option Nat}{ob:Obj}(x:Value)(j:Nat)(hS:S<w.heap.size)(hSB:S<B)(ho:∀k,o=some k->B<=k/\k<w.heap.size)(hg:(w.alloc ob).grownBy w2 o):
  w2.heap[S]? =w.heap[S]? /\(∀k,k<w.heap.size->k≠S->o≠some k->(w2.setCell ⟨S,j,none⟩ x).heap[k]? =w.heap[k]?)/\(∀k,k≠S->(w2.setCell ⟨S,j,none⟩ x).heap[k]? =w2.heap[k]?)/\TS S B w (w2.setCell ⟨S,j,none⟩ x):=by
 have hset:∀k,k≠S->(w2.setCell ⟨S,j,none⟩ x).heap[k]? =w2.heap[k]? :=fun k hk=>Below.heap_setCell _ _ _ k hk
 have hal:∀k,k<w.heap.size->(w.alloc ob).heap[k]? =w.heap[k]? :=fun k hk=>Below.heap_alloc _ _ _ (by omega)
 have hsz:(w.alloc ob).heap.size=w.heap.size+1:=by simp
 refine⟨?_,fun k hk h1 h2=>?_,hset,?_⟩
 ·exact(hg.block S (by omega) (fun e=>by have:=(ho S e.symm).1;omega)).trans (hal S hS)
 ·exact(hset k h1).trans ((hg.block k (by omega) (fun e=>h2 e.symm)).trans (hal k hk))
 have hsz2:=hg.size;exact(⟨hg.os,hg.tape,hg.output,by omega,fun k hk h1 h2=>(hg.block k (by omega) (fun e=>by have:=(ho k e.symm).1;omega)).trans (hal k hk)⟩:TS S B w w2).set j x
theorem Says3.name(h:Says3 w S B u v t ns ts ss){ob:Obj}{g cap:Nat}{n:ByteArray}(hr:w2.ownsRow B 9 1 (.slice (some ⟨g,0,none⟩) (ns.length+1) cap) (ns.length+1) (ns.map Value.string++[.string n]))
  (hg:(w.alloc ob).grownBy w2 u.ownBlock)(hat:u.ownBlock=some g\/g=w.heap.size+1):
  Says3 (w2.setCell ⟨S,0,none⟩ (.slice (some ⟨g,0,none⟩) (ns.length+1) cap)) S B (.slice (some ⟨g,0,none⟩) (ns.length+1) cap) v t (ns++[n]) ts ss/\(w2.cell? ⟨S,0,none⟩=some u/\w2.frozen? ⟨S,0,none⟩=false)/\TS S B w (w2.setCell ⟨S,0,none⟩ (.slice (some ⟨g,0,none⟩) (ns.length+1) cap)):=by
 obtain⟨h1,h2,h3,h4⟩:=a6H (.slice (some ⟨g,0,none⟩) (ns.length+1) cap) 0 h.lt h.low (fun k hk=>a0b h.names hk) hg;have hc2:=h1.trans h.cells;have hgS:B<=g:=(a0b hr (k:=g) rfl).1
 have hlow:=h.low;refine⟨⟨?_,?_,?_,?_,?_,h.low,Nat.le_trans h.size h4.size⟩,⟨heap_cell hc2 rfl,by simp[World.frozen?,hc2]⟩,h4⟩
 ·rw[a5I hc2];rfl
 ·rw[List.map_append,List.length_append];exact a0m hr fun k hk=>h3 k (by have:k=g:=(by simpa [Value.ownBlock]using hk.symm);omega)
 ·exact a0m h.texts fun k hk=>h2 k (a0b h.texts hk).2 (by have:=(a0b h.texts hk).1;omega) (fun e=>h.apart k e hk)
 ·exact a0m h.sums fun k hk=>h2 k (a0b h.sums hk).2 (by have:=(a0b h.sums hk).1;omega) (a2t h.sums h.names (Ne.symm a1V) hk)
 intro k hk hk2;have:k=g:=by simpa [Value.ownBlock]using hk.symm
 subst this;rcases hat with h5|h5
 ·exact h.apart k h5 hk2
 have:=(a0b h.texts hk2).2;omega
theorem Says3.text(h:Says3 w S B u v t ns ts ss){ob:Obj}{g cap:Nat}{n:ByteArray}(hr:w2.ownsRow B 9 1 (.slice (some ⟨g,0,none⟩) (ts.length+1) cap) (ts.length+1) (ts.map Value.string++[.string n]))
  (hg:(w.alloc ob).grownBy w2 v.ownBlock)(hat:v.ownBlock=some g\/g=w.heap.size+1):
  Says3 (w2.setCell ⟨S,1,none⟩ (.slice (some ⟨g,0,none⟩) (ts.length+1) cap)) S B u (.slice (some ⟨g,0,none⟩) (ts.length+1) cap) t ns (ts++[n]) ss/\(w2.cell? ⟨S,1,none⟩=some v/\w2.frozen? ⟨S,1,none⟩=false)/\TS S B w (w2.setCell ⟨S,1,none⟩ (.slice (some ⟨g,0,none⟩) (ts.length+1) cap)):=by
 obtain⟨h1,h2,h3,h4⟩:=a6H (.slice (some ⟨g,0,none⟩) (ts.length+1) cap) 1 h.lt h.low (fun k hk=>a0b h.texts hk) hg;have hc2:=h1.trans h.cells;have hgS:B<=g:=(a0b hr (k:=g) rfl).1
 have hlow:=h.low;refine⟨⟨?_,?_,?_,?_,?_,h.low,Nat.le_trans h.size h4.size⟩,⟨heap_cell hc2 rfl,by simp[World.frozen?,hc2]⟩,h4⟩
 ·rw[a5I hc2];rfl
 ·exact a0m h.names fun k hk=>h2 k (a0b h.names hk).2 (by have:=(a0b h.names hk).1;omega) (h.apart k hk)
 ·rw[List.map_append,List.length_append];exact a0m hr fun k hk=>h3 k (by have:k=g:=(by simpa [Value.ownBlock]using hk.symm);omega)
 ·exact a0m h.sums fun k hk=>h2 k (a0b h.sums hk).2 (by have:=(a0b h.sums hk).1;omega) (a2t h.sums h.texts (Ne.symm a1V) hk)
 intro k hk hk2;have:k=g:=by simpa [Value.ownBlock]using hk2.symm
 subst this;rcases hat with h5|h5
 ·exact h.apart k hk h5
 have:=(a0b h.names hk).2;omega
theorem Says3.sum(h:Says3 w S B u v t ns ts ss){ob:Obj}{g cap:Nat}{n:Int}(hr:w2.ownsRow B 3 1 (.slice (some ⟨g,0,none⟩) (ss.length+1) cap) (ss.length+1) (ss.map (Value.int .i64)++[.int .i64 n]))
  (hg:(w.alloc ob).grownBy w2 t.ownBlock):
  Says3 (w2.setCell ⟨S,2,none⟩ (.slice (some ⟨g,0,none⟩) (ss.length+1) cap)) S B u v (.slice (some ⟨g,0,none⟩) (ss.length+1) cap) ns ts (ss++[n])/\(w2.cell? ⟨S,2,none⟩=some t/\w2.frozen? ⟨S,2,none⟩=false)/\TS S B w (w2.setCell ⟨S,2,none⟩ (.slice (some ⟨g,0,none⟩) (ss.length+1) cap)):=by
 obtain⟨h1,h2,h3,h4⟩:=a6H (.slice (some ⟨g,0,none⟩) (ss.length+1) cap) 2 h.lt h.low (fun k hk=>a0b h.sums hk) hg;have hc2:=h1.trans h.cells;have hgS:B<=g:=(a0b hr (k:=g) rfl).1
 have hlow:=h.low;refine⟨⟨?_,?_,?_,?_,h.apart,h.low,Nat.le_trans h.size h4.size⟩,⟨heap_cell hc2 rfl,by simp[World.frozen?,hc2]⟩,h4⟩
 ·rw[a5I hc2];rfl
 ·exact a0m h.names fun k hk=>h2 k (a0b h.names hk).2 (by have:=(a0b h.names hk).1;omega) (a2t h.names h.sums a1V hk)
 ·exact a0m h.texts fun k hk=>h2 k (a0b h.texts hk).2 (by have:=(a0b h.texts hk).1;omega) (a2t h.texts h.sums a1V hk)
 rw[List.map_append,List.length_append];exact a0m hr fun k hk=>h3 k (by have:k=g:=(by simpa [Value.ownBlock]using hk.symm);omega)
theorem Says3.cell(h:Says3 w S B u v t ns ts ss):w.cell? ⟨S,0,none⟩=some u/\w.cell? ⟨S,1,none⟩=some v/\w.cell? ⟨S,2,none⟩=some t/\∀j,w.frozen? ⟨S,j,none⟩=false:=
 ⟨heap_cell h.cells rfl,heap_cell h.cells rfl,heap_cell h.cells rfl,fun j=>by simp[World.frozen?,h.cells]⟩
end
theorem a8O{l:List Rw}{n:ByteArray}{k:Nat}(hk:k<l.length)(h0:∀j (h:j<l.length),j<k->(l[j]).1≠n)(h1:(l[k]).1=n):rsAt n l=k/\rsMk l n=l:=by
 have e:=a30 n l k h0 (fun _=>h1) (by omega);refine⟨e,?_⟩;unfold rsMk;rw[e,if_pos hk]
theorem abR{l:List Rw}{n:ByteArray}(h0:∀j (h:j<l.length),(l[j]).1≠n):rsAt n l=l.length/\rsMk l n=l++[(n,emp,0)]:=by
 have e:=a30 n l l.length (fun j h _=>h0 j h) (fun h=>by omega) (Nat.le_refl _);refine⟨e,?_⟩;unfold rsMk;rw[e,if_neg (by omega)]
def AtPost(S B:Nat)(l:List Rw)(n:ByteArray)(w:World)(e:Ending)(w':World):Prop:=e= .returned (.int .i64 (rsAt n l:Nat))/\SaysAt w' S B (rsMk l n)/\TS S B w w'
theorem ajw(S B:Nat)(l:List Rw)(n:ByteArray)(w:World)(h:SaysAt w S B l)(hl:l.length<=1000):Calls Tryz.prog 74 #[.pointer (some ⟨S,0,none⟩),.string n] w (AtPost S B l n w):=by
 obtain⟨u,v,t,h3⟩:=h;obtain⟨i0,hi0,hz0,hz1,hz2⟩:=info_parts Tryz.infoStr;obtain⟨i1,hi1,hy0,hy1,hy2⟩:=info_parts Tryz.infoInt;have H3:=hid h3;obtain⟨c0,c1,c2,fz⟩:=h3.cell;obtain⟨ua,uc,rfl⟩:=own_shape h3.names;obtain⟨va,vc,rfl⟩:=own_shape h3.texts;obtain⟨ta,tc,rfl⟩:=own_shape h3.sums;have HNL:Hid ((l.map fun x=>x.1).length=l.length):=hid (by simp);have HTL:Hid ((l.map fun x=>x.2.1).length=l.length):=hid (by simp);have HSL:Hid ((l.map fun x=>x.2.2).length=l.length):=hid (by simp);rw[HNL.out]at c0;rw[HTL.out]at c1;rw[HSL.out]at c2;have H3':=hid h3;obtain⟨len,hlen⟩:∃len,len=l.length:=⟨_,rfl⟩
 have HLEN:=hid hlen
 have HCELL:Hid (∀k (hk:k<l.length),w.cell? ⟨(Value.slice ua (l.map fun x=>x.1).length uc).ownBlock.getD 0,k,none⟩=some (.string (l[k]).1)/\∃g,ua=some ⟨g,0,none⟩):=hid (fun k hk=>by
  obtain⟨g,cap,hv,_,_⟩:=h3.names.form (by rw[HNL.out];omega);simp only[Value.slice.injEq]at hv;obtain⟨rfl,_,rfl⟩:=hv;refine⟨?_,g,rfl⟩;have:=h3.names.cellAt k (by rw[HNL.out];omega);show w.cell? ⟨g,k,none⟩=_;rw[this];simp[hk])
 rw[<-hlen]at c0 c1 c2 hl;clear h3 hlen;go_enter Tryz.func74,Tryz.ntmps74;go_wp2;go_loopw [5] (fun i wr=>∃k:Nat,k<=len/\i= .int .i64 k/\Hid (∀j (h:j<l.length),j<k->(l[j]).1≠n)/\wr=w) (fun i _=>len-(intOf i).toNat)
 case atStart=>exact⟨0,by omega,rfl,hid (fun j h hj=>by omega),rfl⟩
 case round=>
  obtain⟨k,hk,rfl,HT,rfl⟩:=hrel;by_cases hlt:k<len
  ·have hlt2:(k:Int)<(len:Int):=by omega
   have hkl:k<l.length:=by rw[<-HLEN.out];exact hlt
   obtain⟨hck,g,rfl⟩:=HCELL.out k hkl;have hc:wr.cell? ⟨g,k,none⟩=some (.string (l[k]).1):=hck;obtain⟨x,hx⟩:∃x,x=(l[k]).1:=⟨_,rfl⟩
   rw[<-hx]at hc;have HX:=hid hx;clear hck hx;by_cases hxn:x=n
   ·have hb:(x.toList==n.toList)=true:=by rw[a88,decide_eq_true hxn]
    have HF:=hid (a8O hkl HT.out (HX.out.symm.trans hxn));clear hxn;go_wp2;go_ret;refine⟨?_,?_,TS.refl _ _ _⟩
    ·rw[HF.out.1];rfl
    rw[HF.out.2];exact⟨_,_,_,H3.out⟩
   have hb:(x.toList==n.toList)=false:=by rw[a88,decide_eq_false hxn]
   have HT2:Hid (∀j (h:j<l.length),j<k+1->(l[j]).1≠n):=hid (fun j h hj=>by
    by_cases e:j=k
    ·subst e;rw[<-HX.out];exact hxn
    exact HT.out j h (by omega))
   clear hxn;go_wp2;go_roundw
   case rel=>exact⟨k+1,by omega,by go_num,HT2,trivial⟩
   case measure=>simp[intOf];omega
  obtain rfl:k=len:=by omega
  have HF:=hid (abR fun j h=>HT.out j h (by rw[HLEN.out];exact h))
  have HFIN:=hid (fun(w':World) (u v t:Value) (h:Says3 w' S B u v t (l.map (fun x=>x.1)++[n]) (l.map (fun x=>x.2.1)++[emp]) (l.map (fun x=>x.2.2)++[0]))=>show SaysAt w' S B (rsMk l n)from by
   rw[HF.out.2];exact⟨u,v,t,by rw[List.map_append,List.map_append,List.map_append];exact h⟩)
  have HR:Hid (Says3 wr S B (.slice ua k uc) (.slice va k vc) (.slice ta k tc) (l.map fun x=>x.1) (l.map fun x=>x.2.1) (l.map fun x=>x.2.2)):=hid (by
   have h9:=H3'.out;rw[HNL.out,HTL.out,HSL.out,<-HLEN.out]at h9;exact h9)
  rw[<-HLEN.out]at HNL HTL HSL;generalize (l.map fun x=>x.1)=ns at *;generalize (l.map fun x=>x.2.1)=ts at *;generalize (l.map fun x=>x.2.2)=ss at *;have HN0:Hid (wr.ownsRow B 9 1 (.slice ua k uc) k (ns.map Value.string)):=hid (by have h9:=HR.out.names;rw[HNL.out]at h9;exact h9);have hSlt:=HR.out.lt;have hBs:=HR.out.size;have HBS0:=hid hBs;clear H3 H3' HCELL c1 c2 HT;go_wp2_with (at_builtin;refine wpList_append_lies _ rfl _ _ 22 rfl B 9 i0 (.string ⟨#[]⟩) 1 16 Tryz.underlying22 hi0 hz0 hz1 hz2 rfl (by decide) _ _ _ rfl (HN0.out.alloc _) ⟨wr.heap.size,0,none⟩ 1 1 [.string n] rfl rfl ?c1 ?c2 (by decide) ?c4 ?c5 ?c6 (wr.heap.size+1) ?c7 ?_)
  case c1=>exact(a07 _ _ _)
  case c2=>intro u hu;simp at hu;subst hu;rfl
  case c4=>unfold maxLen;omega
  case c5=>omega
  case c6=>simp;omega
  case c7=>simp
  intro g1 cap1 w2 hown2 hgrow2 hat2 hlt2;have hN:=HR.out.name (ob:=.cells #[.string n] 9) (w2:=w2) (g:=g1) (cap:=cap1) (n:=n) (by rw[HNL.out];exact hown2) hgrow2 hat2;rw[HNL.out]at hN;obtain⟨hS1,⟨d0,d1⟩,hB1⟩:=hN;have HS1:=hid hS1;have HB1:=hid hB1;clear hown2 hgrow2 hat2 hlt2 hS1 hB1 HR HN0 c0 fz;obtain⟨e0,e1,e2,ez⟩:=HS1.out.cell;have HT1:Hid ((w2.setCell ⟨S,0,none⟩ (.slice (some ⟨g1,0,none⟩) (k+1) cap1)).ownsRow B 9 1 (.slice va k vc) k (ts.map Value.string)):=hid (by have h9:=HS1.out.texts;rw[HTL.out]at h9;exact h9);have hS2:S<w2.heap.size:=by have:=HS1.out.lt;rwa[World.size_setCell]at this
  have hB2:B<=w2.heap.size:=by have:=HS1.out.size;rwa[World.size_setCell]at this
  go_wp2_with (at_builtin;refine wpList_append_lies _ rfl _ _ 22 rfl B 9 i0 (.string ⟨#[]⟩) 1 16 Tryz.underlying22 hi0 hz0 hz1 hz2 rfl (by decide) _ _ _ rfl (HT1.out.alloc _) ⟨w2.heap.size,0,none⟩ 1 1 [.string ⟨#[]⟩] rfl rfl ?c1 ?c2 (by decide) ?c4 ?c5 ?c6 (w2.heap.size+1) ?c7 ?_)
  case c1=>intro j u hj;have h9:=a07 (w2.setCell ⟨S,0,none⟩ (.slice (some ⟨g1,0,none⟩) (k+1) cap1)) (.string ⟨#[]⟩) 9 j u hj;rw[World.size_setCell]at h9;exact h9
  case c2=>intro u hu;simp at hu;subst hu;rfl
  case c4=>unfold maxLen;omega
  case c5=>omega
  case c6=>simp;omega
  case c7=>simp
  intro g2 cap2 w3 hown3 hgrow3 hat3 hlt3;have hN:=HS1.out.text (ob:=.cells #[.string ⟨#[]⟩] 9) (w2:=w3) (g:=g2) (cap:=cap2) (n:=⟨#[]⟩) (by rw[HTL.out];exact hown3) hgrow3 (by rw[World.size_setCell];exact hat3);rw[HTL.out]at hN;obtain⟨hS1,⟨d2,d3⟩,hB1⟩:=hN;have HS2:=hid hS1;have HB2:=hid (HB1.out.trans hB1);clear hown3 hgrow3 hat3 hlt3 hS1 hB1 HB1 HS1 HT1 e0 e1 e2 ez d0 d1 hS2;obtain⟨e0,e1,e2,ez⟩:=HS2.out.cell;have HU1:Hid ((w3.setCell ⟨S,1,none⟩ (.slice (some ⟨g2,0,none⟩) (k+1) cap2)).ownsRow B 3 1 (.slice ta k tc) k (ss.map (Value.int .i64))):=hid (by have h9:=HS2.out.sums;rw[HSL.out]at h9;exact h9);have hS2:S<w3.heap.size:=by have:=HS2.out.lt;rwa[World.size_setCell]at this
  have hB3:B<=w3.heap.size:=by have:=HS2.out.size;rwa[World.size_setCell]at this
  go_wp2_with (at_builtin;refine wpList_append_lies _ rfl _ _ 122 rfl B 3 i1 (.int .i64 0) 1 8 Tryz.underlying122 hi1 hy0 hy1 hy2 rfl (by decide) _ _ _ rfl (HU1.out.alloc _) ⟨w3.heap.size,0,none⟩ 1 1 [.int .i64 0] rfl rfl ?c1 ?c2 (by decide) ?c4 ?c5 ?c6 (w3.heap.size+1) ?c7 ?_)
  case c1=>intro j u hj;have h9:=a07 (w3.setCell ⟨S,1,none⟩ (.slice (some ⟨g2,0,none⟩) (k+1) cap2)) (.int .i64 0) 3 j u hj;rw[World.size_setCell]at h9;exact h9
  case c2=>intro u hu;simp at hu;subst hu;rfl
  case c4=>unfold maxLen;omega
  case c5=>omega
  case c6=>simp;omega
  case c7=>simp
  intro g3 cap3 w4 hown4 hgrow4 hat4 hlt4;have hN:=HS2.out.sum (ob:=.cells #[.int .i64 0] 3) (w2:=w4) (g:=g3) (cap:=cap3) (n:=0) (by rw[HSL.out];exact hown4) hgrow4;rw[HSL.out]at hN;obtain⟨hS1,⟨d4,d5⟩,hB1⟩:=hN;have HS3:=hid hS1;have HB3:=hid (HB2.out.trans hB1);clear hown4 hgrow4 hat4 hlt4 hS1 hB1 HB2 HS2 HU1 e0 e1 e2 ez d2 d3 hS2;obtain⟨e0,e1,e2,ez⟩:=HS3.out.cell;have hw1:IntKind.i64.wrap ((k:Int)+1-1)=(k:Int):=by rw[IntWalk.i64_in _ (by omega)];omega
  have hw2:IntKind.i64.wrap (k:Int)=(k:Int):=IntWalk.i64_in _ (by omega);go_wp2;go_ret;refine⟨?_,HFIN.out _ _ _ _ HS3.out,HB3.out⟩;rw[HF.out.1,<-HLEN.out];rfl
theorem adk(l:List UInt8):bsB l=emp↔l=[]:=⟨fun h=>a8Y (m:=[]) h,fun h=>by rw[h];rfl⟩
structure DeedC(line V R N A:ByteArray)(q1 more:Bool):Prop where
 c1:∀W,Calls Tryz.prog 67 #[.string line] W (Cut3 V R q1 W)
 c2:∀W,Calls Tryz.prog 67 #[.string R] W (Cut3 N A more W)
 hN:N.size<=4000000
 hA:A.size<=4000000
 is:a1L line=if a0g line=false\/a01 N=false then none
  else if V=putW then (if A=emp then none else some (.put N A))
  else if V=dropW then (if more then none else some (.drop N))
  else if V=addW then (match numR A.data.toList with
   |some n=>some (.add N n)
   |none=>none)
  else none
theorem aeK(line:ByteArray)(hl:line.size<=4000000):∃V R N A q1 more,DeedC line V R N A q1 more:=by
 have h1:=a2Q line.data.toList;have h2:=a2Q (cutR line.data.toList).2.1
 have hs:=a03 line;refine⟨bsB (cutR line.data.toList).1,bsB (cutR line.data.toList).2.1,bsB (cutR (cutR line.data.toList).2.1).1,bsB (cutR (cutR line.data.toList).2.1).2.1,_,_,fun W=>abA line W (by omega),fun W=>a4D _ W (by omega),by rw[bsB_size];omega,by rw[bsB_size];omega,?_⟩;unfold a1L;simp only;by_cases e1:a0g line=false\/a01 (bsB (cutR (cutR line.data.toList).2.1).1)=false
 ·rw[if_pos e1,if_pos e1]
 rw[if_neg e1,if_neg e1];by_cases e2:bsB (cutR line.data.toList).1=putW
 ·rw[if_pos e2,if_pos e2];by_cases e3:(cutR (cutR line.data.toList).2.1).2.1=[]
  ·rw[if_pos e3,if_pos ((adk _).2 e3)]
  rw[if_neg e3,if_neg (fun h=>e3 ((adk _).1 h))]
 rw[if_neg e2,if_neg e2];simp only[a0N];rfl
section
variable{w w2:World}{S B:Nat}{u v t:Value}{ns ts:List ByteArray}{ss:List Int}
theorem Says3.setText{g cap:Nat}(h:Says3 w S B u (.slice (some ⟨g,0,none⟩) ts.length cap) t ns ts ss)(i:Nat)(x:ByteArray):
  Says3 (w.setCell ⟨g,i,none⟩ (.string x)) S B u (.slice (some ⟨g,0,none⟩) ts.length cap) t ns (ts.set i x) ss/\TS S B w (w.setCell ⟨g,i,none⟩ (.string x)):=by
 have hgS:=(a0b h.texts (k:=g) rfl).1
 have hlow:=h.low;have hset:∀k,k≠g->(w.setCell ⟨g,i,none⟩ (.string x)).heap[k]? =w.heap[k]? :=fun k hk=>Below.heap_setCell _ _ _ k hk
 refine⟨⟨(hset S (by omega)).trans h.cells,a0m h.names fun k hk=>hset k fun e=>h.apart k hk (by rw[e];rfl),?_,a0m h.sums fun k hk=>hset k fun e=>a2t h.sums h.texts (Ne.symm a1V) hk (by rw[e];rfl),h.apart,h.low,by rw[World.size_setCell];exact h.size⟩,(TS.refl S B w).set2 hgS _ _⟩;rw[List.map_set,List.length_set];exact(h.texts.stored i (.string x)).1
theorem Says3.setSum{g cap:Nat}(h:Says3 w S B u v (.slice (some ⟨g,0,none⟩) ss.length cap) ns ts ss)(i:Nat)(x:Int):
  Says3 (w.setCell ⟨g,i,none⟩ (.int .i64 x)) S B u v (.slice (some ⟨g,0,none⟩) ss.length cap) ns ts (ss.set i x)/\TS S B w (w.setCell ⟨g,i,none⟩ (.int .i64 x)):=by
 have hgS:=(a0b h.sums (k:=g) rfl).1
 have hlow:=h.low;have hset:∀k,k≠g->(w.setCell ⟨g,i,none⟩ (.int .i64 x)).heap[k]? =w.heap[k]? :=fun k hk=>Below.heap_setCell _ _ _ k hk
 refine⟨⟨(hset S (by omega)).trans h.cells,a0m h.names fun k hk=>hset k fun e=>a2t h.names h.sums a1V hk (by rw[e];rfl),a0m h.texts fun k hk=>hset k fun e=>a2t h.texts h.sums a1V hk (by rw[e];rfl),?_,h.apart,h.low,by rw[World.size_setCell];exact h.size⟩,(TS.refl S B w).set2 hgS _ _⟩;rw[List.map_set,List.length_set];exact(h.sums.stored i (.int .i64 x)).1
end
theorem a43{β:Type}(l:List Rw)(i:Nat)(f:Rw->Rw)(p:Rw->β)(hf:∀x,p (f x)=p x):(l.modify i f).map p=l.map p:=by
 apply List.ext_getElem (by simp);intro j h1 h2;simp only[List.getElem_map,List.getElem_modify];split
 ·rw[hf]
 rfl
theorem a8P{β:Type}(l:List Rw)(i:Nat)(f:Rw->Rw)(p:Rw->β)(x:β)(hf:∀y,p (f y)=x):(l.modify i f).map p=(l.map p).set i x:=by
 apply List.ext_getElem (by simp);intro j h1 h2;simp only[List.getElem_map,List.getElem_modify,List.getElem_set];split
 ·rw[hf]
 rfl
structure NameAt(w:World)(S B:Nat)(l:List Rw)(i:Nat)(n:ByteArray)(g2 c2 g3 c3 len:Nat)(u:Value):Prop where
 says:Says3 w S B u (.slice (some ⟨g2,0,none⟩) len c2) (.slice (some ⟨g3,0,none⟩) len c3) (l.map fun x=>x.1) (l.map fun x=>x.2.1) (l.map fun x=>x.2.2)
 lt:i<len
 len:len=l.length
 text:w.cell? ⟨g2,i,none⟩=some (.string (a09 l n))
 sum:w.cell? ⟨g3,i,none⟩=some (.int .i64 (a0A l n))
 ft:∀j,w.frozen? ⟨g2,j,none⟩=false
 fs:∀j,w.frozen? ⟨g3,j,none⟩=false
theorem adl{w:World}{S B:Nat}{l:List Rw}(h:SaysAt w S B l){n:ByteArray}(hi:rsAt n l<l.length):∃g2 c2 g3 c3 len u,NameAt w S B l (rsAt n l) n g2 c2 g3 c3 len u:=by
 obtain⟨u,v,t,h3⟩:=h;obtain⟨g2,c2,rfl,_⟩:=h3.texts.form (by simp;omega);obtain⟨g3,c3,rfl,_⟩:=h3.sums.form (by simp;omega);have e2:(l.map fun x=>x.2.1).length=l.length:=by simp
 have e3:(l.map fun x=>x.2.2).length=l.length:=by simp
 have ht:=h3.texts.cellAt (rsAt n l) (by rw[e2];omega);have hs:=h3.sums.cellAt (rsAt n l) (by rw[e3];omega);have hg:a1b l n=l[rsAt n l]:=by unfold a1b;rw[List.getD_eq_getElem?_getD,List.getElem?_eq_getElem hi];rfl
 refine⟨g2,c2,g3,c3,l.length,u,⟨?_,hi,rfl,?_,?_,fun j=>h3.texts.frozenAt j,fun j=>h3.sums.frozenAt j⟩⟩
 ·rw[e2,e3]at h3;exact h3
 ·rw[ht,a09,hg];simp[hi]
 rw[hs,a0A,hg];simp[hi]
theorem NameAt.putT{w:World}{S B:Nat}{l:List Rw}{i:Nat}{n:ByteArray}{g2 c2 g3 c3 len:Nat}{u:Value}(h:NameAt w S B l i n g2 c2 g3 c3 len u)(x:ByteArray):SaysAt (w.setCell ⟨g2,i,none⟩ (.string x)) S B (a1Z l i x)/\TS S B w (w.setCell ⟨g2,i,none⟩ (.string x)):=by
 have h9:=h.says;rw[show (Value.slice (some ⟨g2,0,none⟩) len c2)= .slice (some ⟨g2,0,none⟩) (l.map fun x=>x.2.1).length c2 by rw[h.len];simp]at h9;obtain⟨h1,h2⟩:=h9.setText i x;refine⟨⟨u,.slice (some ⟨g2,0,none⟩) (l.map fun x=>x.2.1).length c2,.slice (some ⟨g3,0,none⟩) len c3,?_⟩,h2⟩;have p1:=a43 l i (fun y=>(y.1,x,y.2.2)) (fun y=>y.1) (fun _=>rfl);have p2:=a8P l i (fun y=>(y.1,x,y.2.2)) (fun y=>y.2.1) x (fun _=>rfl);have p3:=a43 l i (fun y=>(y.1,x,y.2.2)) (fun y=>y.2.2) (fun _=>rfl);unfold a1Z;rw[p1,p2,p3];exact h1
theorem NameAt.putS{w:World}{S B:Nat}{l:List Rw}{i:Nat}{n:ByteArray}{g2 c2 g3 c3 len:Nat}{u:Value}(h:NameAt w S B l i n g2 c2 g3 c3 len u)(x:Int):SaysAt (w.setCell ⟨g3,i,none⟩ (.int .i64 x)) S B (a4m l i x)/\TS S B w (w.setCell ⟨g3,i,none⟩ (.int .i64 x)):=by
 have h9:=h.says;rw[show (Value.slice (some ⟨g3,0,none⟩) len c3)= .slice (some ⟨g3,0,none⟩) (l.map fun x=>x.2.2).length c3 by rw[h.len];simp]at h9;obtain⟨h1,h2⟩:=h9.setSum i x;refine⟨⟨u,.slice (some ⟨g2,0,none⟩) len c2,.slice (some ⟨g3,0,none⟩) (l.map fun x=>x.2.2).length c3,?_⟩,h2⟩;have p1:=a43 l i (fun y=>(y.1,y.2.1,x)) (fun y=>y.1) (fun _=>rfl);have p2:=a43 l i (fun y=>(y.1,y.2.1,x)) (fun y=>y.2.1) (fun _=>rfl);have p3:=a8P l i (fun y=>(y.1,y.2.1,x)) (fun y=>y.2.2) x (fun _=>rfl);unfold a4m;rw[p1,p2,p3];exact h1
theorem a3q(l:List Rw)(n m:ByteArray):a09 (rsMk l n) m=a09 l m:=by unfold a09;rw[a2r]
theorem a3r(l:List Rw)(n m:ByteArray):a0A (rsMk l n) m=a0A l m:=by unfold a0A;rw[a2r]
def AtN(S B:Nat)(l:List Rw)(n:ByteArray)(w:World)(e:Ending)(w':World):Prop:=∃g2 c2 g3 c3 len u,e= .returned (.int .i64 (rsAt n l:Nat))/\NameAt w' S B (rsMk l n) (rsAt n l) n g2 c2 g3 c3 len u/\TS S B w w'
theorem a3s(S B:Nat)(l:List Rw)(n:ByteArray)(w:World)(h:SaysAt w S B l)(hl:l.length<=1000):Calls Tryz.prog 74 #[.pointer (some ⟨S,0,none⟩),.string n] w (AtN S B l n w):=by
 refine(ajw S B l n w h hl).mono ?_
 rintro e w' ⟨rfl,h2,hb⟩;obtain⟨h3,h4⟩:=a6S l n;obtain⟨g2,c2,g3,c3,len,u,h5⟩:=adl h2 (n:=n) (by rw[h3];exact h4);rw[h3]at h5;exact⟨g2,c2,g3,c3,len,u,rfl,h5,hb⟩
theorem SaysAt.below{w w':World}{S B:Nat}{l:List Rw}(h:SaysAt w S B l)(hb:Below w.heap.size w w'):SaysAt w' S B l:=by
 obtain⟨u,v,t,h3⟩:=h;exact⟨u,v,t,(hb.block _ h3.lt).trans h3.cells,own_below h3.names hb,own_below h3.texts hb,own_below h3.sums hb,h3.apart,h3.low,Nat.le_trans h3.size hb.size⟩
theorem SaysAt.lt{w:World}{S B:Nat}{l:List Rw}(h:SaysAt w S B l):S<w.heap.size:=by obtain⟨u,v,t,h3⟩:=h;exact h3.lt
theorem agW:(putW.toList==([112,117,116]:List UInt8))=true:=by kernel_rfl
theorem ain:(dropW.toList==([112,117,116]:List UInt8))=false:=by kernel_rfl
theorem ajx:(dropW.toList==([100,114,111,112]:List UInt8))=true:=by kernel_rfl
theorem add_is:(addW.toList==([97,100,100]:List UInt8))=true:=by kernel_rfl
theorem a8Q:(emp.toList==([]:List UInt8))=true:=by kernel_rfl
theorem NameAt.below{w w':World}{S B:Nat}{l:List Rw}{i:Nat}{n:ByteArray}{g2 c2 g3 c3 len:Nat}{u:Value}(h:NameAt w S B l i n g2 c2 g3 c3 len u)(hb:Below w.heap.size w w'):NameAt w' S B l i n g2 c2 g3 c3 len u:=by
 have h3:Says3 w' S B u (.slice (some ⟨g2,0,none⟩) len c2) (.slice (some ⟨g3,0,none⟩) len c3) (l.map fun x=>x.1) (l.map fun x=>x.2.1) (l.map fun x=>x.2.2):=
  ⟨(hb.block _ h.says.lt).trans h.says.cells,own_below h.says.names hb,own_below h.says.texts hb,own_below h.says.sums hb,h.says.apart,h.says.low,Nat.le_trans h.says.size hb.size⟩
 have e2:(l.map fun x=>x.2.1).length=len:=by rw[h.len];simp
 have e3:(l.map fun x=>x.2.2).length=len:=by rw[h.len];simp
 have ht:=h3.texts;have hs:=h3.sums;rw[e2]at ht;rw[e3]at hs;exact⟨h3,h.lt,h.len,keep_cell hb h.text,keep_cell hb h.sum,fun j=>ht.frozenAt j,fun j=>hs.frozenAt j⟩
def a2R(S B:Nat)(l:List Rw)(line:ByteArray)(w:World)(e:Ending)(w':World):Prop:=
 e= .returned (.tuple #[.string (a1c l line).1.1,.int .i64 (a1c l line).1.2])/\SaysAt w' S B (a1c l line).2/\TS S B w w'
theorem a32(S B:Nat)(l:List Rw)(line:ByteArray)(hs:line.size<=1000000)(w:World)(h:SaysAt w S B l)(hl:l.length<=900)(hsum:∀m, -100000000<=a0A l m/\a0A l m<=100000000):
  Calls Tryz.prog 60 #[.pointer (some ⟨S,0,none⟩),.string line] w (a2R S B l line w):=by
 obtain⟨V,R,N,A,q1,more,hd⟩:=aeK line (by omega);have HDC:=hid hd;have HS:=hid h;have hNs:=hd.hN;have hAs:=hd.hA;have HD:=hid hd.is;clear hd h;unfold a2R
 have HVX:Hid (a1c l line=match a1L line with
  |some (.put n t)=>((t,0),a1Z (rsMk l n) (rsAt n l) t)
  |some (.drop n)=>if a09 l n=emp then ((emp,5),rsMk l n)else ((a09 l n,0),a1Z (rsMk l n) (rsAt n l) emp)
  |some (.add n m)=>((itoaB (a0A l n+m),0),a4m (rsMk l n) (rsAt n l) (a0A l n+m))
  |_=>((emp,100),l)):=hid rfl
 obtain⟨r,hr⟩:∃r,r=a1c l line:=⟨_,rfl⟩
 rw[<-hr]at HVX⊢;clear hr;cases hq:a0g line with
 |false=>
  have HV:Hid (r=((emp,100),l)):=hid (by rw[HVX.out,HD.out,if_pos (.inl hq)]);go_enter Tryz.func60,Tryz.ntmps60;go_wp2_with fail
  refine(HDC.out.c1 _).mono ?_
  rintro e w1 ⟨rfl,hb1⟩;go_wp2_with fail
  refine(HDC.out.c2 _).mono ?_
  rintro e w2 ⟨rfl,hb2⟩;have HB2:=hid (below_trans hb1 hb2);have HS2:=hid (HS.out.below HB2.out);have HBS:Hid (TS S B w w2):=hid (TS.of_below HB2.out);clear hb1 hb2;go_wp2_with fail
  refine(a1u line w2 (by omega)).mono ?_
  rintro e w3 ⟨rfl,rfl⟩;rw[hq];go_wp2;go_ret2;exact⟨by rw[HV.out];rfl,by rw[HV.out];exact HS2.out,HBS.out⟩
 | true=>
  cases hn:a01 N with
  |false=>
   have HV:Hid (r=((emp,100),l)):=hid (by rw[HVX.out,HD.out,if_pos (.inr hn)]);go_enter Tryz.func60,Tryz.ntmps60;go_wp2_with fail
   refine(HDC.out.c1 _).mono ?_
   rintro e w1 ⟨rfl,hb1⟩;go_wp2_with fail
   refine(HDC.out.c2 _).mono ?_
   rintro e w2 ⟨rfl,hb2⟩;have HB2:=hid (below_trans hb1 hb2);have HS2:=hid (HS.out.below HB2.out);have HBS:Hid (TS S B w w2):=hid (TS.of_below HB2.out);clear hb1 hb2;go_wp2_with fail
   refine(a1u line w2 (by omega)).mono ?_
   rintro e w3 ⟨rfl,rfl⟩;rw[hq];go_wp2_with fail
   refine(a0M N w2 (by omega)).mono ?_
   rintro e w3 ⟨rfl,rfl⟩;rw[hn];go_wp2;go_ret2;exact⟨by rw[HV.out];rfl,by rw[HV.out];exact HS2.out,HBS.out⟩
  | true=>
   have HD2:Hid (a1L line=if V=putW then (if A=emp then none else some (.put N A))
    else if V=dropW then (if more then none else some (.drop N))
    else if V=addW then (match numR A.data.toList with
     |some n=>some (.add N n)
     |none=>none)
    else none):=hid (by rw[HD.out,if_neg (by rw[hq,hn];decide)])
   clear HD;by_cases h1:V=putW
   ·subst h1;have HD3:Hid (a1L line=if A=emp then none else some (.put N A)):=hid (by rw[HD2.out,if_pos rfl]);clear HD2;by_cases hA:A=emp
    ·have HV:Hid (r=((emp,100),l)):=hid (by rw[HVX.out,HD3.out,if_pos hA]);subst hA;have k1:=agW;have k2:=a8Q;go_enter Tryz.func60,Tryz.ntmps60;go_wp2_with fail
     refine(HDC.out.c1 _).mono ?_
     rintro e w1 ⟨rfl,hb1⟩;go_wp2_with fail
     refine(HDC.out.c2 _).mono ?_
     rintro e w2 ⟨rfl,hb2⟩;have HB2:=hid (below_trans hb1 hb2);have HS2:=hid (HS.out.below HB2.out);have HBS:Hid (TS S B w w2):=hid (TS.of_below HB2.out);clear hb1 hb2;go_wp2_with fail
     refine(a1u line w2 (by omega)).mono ?_
     rintro e w3 ⟨rfl,rfl⟩;rw[hq];go_wp2_with fail
     refine(a0M N w2 (by omega)).mono ?_
     rintro e w3 ⟨rfl,rfl⟩;rw[hn];go_wp2;go_ret2;exact⟨by rw[HV.out];rfl,by rw[HV.out];exact HS2.out,HBS.out⟩
    have HV:Hid (r=((A,0),a1Z (rsMk l N) (rsAt N l) A)):=hid (by rw[HVX.out,HD3.out,if_neg hA]);have hAe:(A.toList==([]:List UInt8))=false:=a0u (l:=[]) hA;clear hA HVX HD3;have k1:=agW;go_enter Tryz.func60,Tryz.ntmps60;go_wp2_with fail
    refine(HDC.out.c1 _).mono ?_
    rintro e w1 ⟨rfl,hb1⟩;go_wp2_with fail
    refine(HDC.out.c2 _).mono ?_
    rintro e w2 ⟨rfl,hb2⟩;have HB2:=hid (below_trans hb1 hb2);have HS2:=hid (HS.out.below HB2.out);have HBS:Hid (TS S B w w2):=hid (TS.of_below HB2.out);clear hb1 hb2;go_wp2_with fail
    refine(a1u line w2 (by omega)).mono ?_
    rintro e w3 ⟨rfl,rfl⟩;rw[hq];go_wp2_with fail
    refine(a0M N w2 (by omega)).mono ?_
    rintro e w3 ⟨rfl,rfl⟩;rw[hn];go_wp2_with fail
    refine(a3s S B l N w2 HS2.out (by omega)).mono ?_
    rintro e w3 ⟨g2,k2,g3,k3,len,u,rfl,hna,hb3⟩;have HNA:=hid hna;have HB3:=hid (HBS.out.trans hb3);obtain⟨d0,d1,d2,dz⟩:=hna.says.cell;have hilt:=hna.lt;have htx:=hna.text;have hsm:=hna.sum;have fft:=hna.ft;have ffs:=hna.fs;rw[a3q]at htx;rw[a3r]at hsm;clear hna hb3;have hil:((rsAt N l:Nat):Int)<(len:Int):=by omega
    have HP:=hid (HNA.out.putT A);generalize rsAt N l=i at *;go_wp2;go_ret2;exact⟨by rw[HV.out];rfl,by rw[HV.out];exact HP.out.1,HB3.out.trans HP.out.2⟩
   have n1:(V.toList==([112,117,116]:List UInt8))=false:=a0u h1
   have HD3:Hid (a1L line=if V=dropW then (if more then none else some (.drop N))
    else if V=addW then (match numR A.data.toList with
     |some n=>some (.add N n)
     |none=>none)
    else none):=hid (by rw[HD2.out,if_neg h1])
   clear HD2 h1;by_cases h2:V=dropW
   ·subst h2;have k1:=ain;have k2:=ajx;have HD4:Hid (a1L line=if more then none else some (.drop N)):=hid (by rw[HD3.out,if_pos rfl]);clear HD3 n1;cases more with
    |true=>
     have HV:Hid (r=((emp,100),l)):=hid (by rw[HVX.out,HD4.out,if_pos rfl]);clear HVX HD4;go_enter Tryz.func60,Tryz.ntmps60;go_wp2_with fail
     refine(HDC.out.c1 _).mono ?_
     rintro e w1 ⟨rfl,hb1⟩;go_wp2_with fail
     refine(HDC.out.c2 _).mono ?_
     rintro e w2 ⟨rfl,hb2⟩;have HB2:=hid (below_trans hb1 hb2);have HS2:=hid (HS.out.below HB2.out);have HBS:Hid (TS S B w w2):=hid (TS.of_below HB2.out);clear hb1 hb2;go_wp2_with fail
     refine(a1u line w2 (by omega)).mono ?_
     rintro e w3 ⟨rfl,rfl⟩;rw[hq];go_wp2_with fail
     refine(a0M N w2 (by omega)).mono ?_
     rintro e w3 ⟨rfl,rfl⟩;rw[hn];go_wp2;go_ret2;exact⟨by rw[HV.out];rfl,by rw[HV.out];exact HS2.out,HBS.out⟩
    | false=>
     have HV0:Hid (r=if a09 l N=emp then ((emp,5),rsMk l N)else ((a09 l N,0),a1Z (rsMk l N) (rsAt N l) emp)):=hid (by rw[HVX.out,HD4.out];rfl);clear HVX HD4;by_cases ht:a09 l N=emp
     ·have HV:Hid (r=((emp,5),rsMk l N)):=hid (by rw[HV0.out,if_pos ht]);have HT:=hid ht;clear ht HV0;have k3:=a8Q;go_enter Tryz.func60,Tryz.ntmps60;go_wp2_with fail
      refine(HDC.out.c1 _).mono ?_
      rintro e w1 ⟨rfl,hb1⟩;go_wp2_with fail
      refine(HDC.out.c2 _).mono ?_
      rintro e w2 ⟨rfl,hb2⟩;have HB2:=hid (below_trans hb1 hb2);have HS2:=hid (HS.out.below HB2.out);have HBS:Hid (TS S B w w2):=hid (TS.of_below HB2.out);clear hb1 hb2;go_wp2_with fail
      refine(a1u line w2 (by omega)).mono ?_
      rintro e w3 ⟨rfl,rfl⟩;rw[hq];go_wp2_with fail
      refine(a0M N w2 (by omega)).mono ?_
      rintro e w3 ⟨rfl,rfl⟩;rw[hn];go_wp2_with fail
      refine(a3s S B l N w2 HS2.out (by omega)).mono ?_
      rintro e w3 ⟨g2,k2,g3,k3,len,u,rfl,hna,hb3⟩;have HNA:=hid hna;have HB3:=hid (HBS.out.trans hb3);obtain⟨d0,d1,d2,dz⟩:=hna.says.cell;have hilt:=hna.lt;have htx:=hna.text;have hsm:=hna.sum;have fft:=hna.ft;have ffs:=hna.fs;rw[a3q]at htx;rw[a3r]at hsm;clear hna hb3;rw[HT.out]at htx;have hil:((rsAt N l:Nat):Int)<(len:Int):=by omega
      generalize rsAt N l=i at *;go_wp2;go_ret2;exact⟨by rw[HV.out];rfl,by rw[HV.out];exact⟨_,_,_,HNA.out.says⟩,HB3.out⟩
     have HV:Hid (r=((a09 l N,0),a1Z (rsMk l N) (rsAt N l) emp)):=hid (by rw[HV0.out,if_neg ht]);have k3:((a09 l N).toList==([]:List UInt8))=false:=a0u (l:=[]) ht;clear ht HV0;go_enter Tryz.func60,Tryz.ntmps60;go_wp2_with fail
     refine(HDC.out.c1 _).mono ?_
     rintro e w1 ⟨rfl,hb1⟩;go_wp2_with fail
     refine(HDC.out.c2 _).mono ?_
     rintro e w2 ⟨rfl,hb2⟩;have HB2:=hid (below_trans hb1 hb2);have HS2:=hid (HS.out.below HB2.out);have HBS:Hid (TS S B w w2):=hid (TS.of_below HB2.out);clear hb1 hb2;go_wp2_with fail
     refine(a1u line w2 (by omega)).mono ?_
     rintro e w3 ⟨rfl,rfl⟩;rw[hq];go_wp2_with fail
     refine(a0M N w2 (by omega)).mono ?_
     rintro e w3 ⟨rfl,rfl⟩;rw[hn];go_wp2_with fail
     refine(a3s S B l N w2 HS2.out (by omega)).mono ?_
     rintro e w3 ⟨g2,k2,g3,k3,len,u,rfl,hna,hb3⟩;have HNA:=hid hna;have HB3:=hid (HBS.out.trans hb3);obtain⟨d0,d1,d2,dz⟩:=hna.says.cell;have hilt:=hna.lt;have htx:=hna.text;have hsm:=hna.sum;have fft:=hna.ft;have ffs:=hna.fs;rw[a3q]at htx;rw[a3r]at hsm;clear hna hb3;have hil:((rsAt N l:Nat):Int)<(len:Int):=by omega
     have HP:=hid (HNA.out.putT emp);generalize rsAt N l=i at *;generalize a09 l N=tx at *;go_wp2;go_ret2;exact⟨by rw[HV.out];rfl,by rw[HV.out];exact HP.out.1,HB3.out.trans HP.out.2⟩
   have n2:(V.toList==([100,114,111,112]:List UInt8))=false:=a0u h2;by_cases h3:V=addW
   ·subst h3;have k3:=add_is
    have HD4:Hid (a1L line=match numR A.data.toList with
     |some n=>some (.add N n)
     |none=>none):=hid (by rw[HD3.out,if_neg h2,if_pos rfl])
    have HNU:=hid (fun W=>a5H A W (by omega));have HBD:=hid (hsum N);clear HD3 h2;cases hm:numR A.data.toList with
    |none=>
     rw[hm]at HD4 HNU;have HNU2:Hid (∀W,Calls Tryz.prog 77 #[.string A] W fun e w'=>e= .returned (.tuple #[.int .i64 0,.bool false])/\W=w'):=hid HNU.out;have HV:Hid (r=((emp,100),l)):=hid (by rw[HVX.out,HD4.out]);clear HVX HD4 hm HNU;go_enter Tryz.func60,Tryz.ntmps60;go_wp2_with fail
     refine(HDC.out.c1 _).mono ?_
     rintro e w1 ⟨rfl,hb1⟩;go_wp2_with fail
     refine(HDC.out.c2 _).mono ?_
     rintro e w2 ⟨rfl,hb2⟩;have HB2:=hid (below_trans hb1 hb2);have HS2:=hid (HS.out.below HB2.out);have HBS:Hid (TS S B w w2):=hid (TS.of_below HB2.out);clear hb1 hb2;go_wp2_with fail
     refine(a1u line w2 (by omega)).mono ?_
     rintro e w3 ⟨rfl,rfl⟩;rw[hq];go_wp2_with fail
     refine(a0M N w2 (by omega)).mono ?_
     rintro e w3 ⟨rfl,rfl⟩;rw[hn];go_wp2_with fail
     refine(HNU2.out _).mono ?_
     rintro e w3 ⟨rfl,rfl⟩;go_wp2;go_ret2;exact⟨by rw[HV.out];rfl,by rw[HV.out];exact HS2.out,HBS.out⟩
    | some m=>
     obtain⟨_,hm0,hm1⟩:=a5Z hm;rw[hm]at HD4 HNU;have HNU2:Hid (∀W,Calls Tryz.prog 77 #[.string A] W fun e w'=>e= .returned (.tuple #[.int .i64 m,.bool true])/\W=w'):=hid HNU.out;have HV:Hid (r=((itoaB (a0A l N+m),0),a4m (rsMk l N) (rsAt N l) (a0A l N+m))):=hid (by rw[HVX.out,HD4.out]);clear HVX HD4 hm HNU;go_enter Tryz.func60,Tryz.ntmps60;go_wp2_with fail
     refine(HDC.out.c1 _).mono ?_
     rintro e w1 ⟨rfl,hb1⟩;go_wp2_with fail
     refine(HDC.out.c2 _).mono ?_
     rintro e w2 ⟨rfl,hb2⟩;have HB2:=hid (below_trans hb1 hb2);have HS2:=hid (HS.out.below HB2.out);have HBS:Hid (TS S B w w2):=hid (TS.of_below HB2.out);clear hb1 hb2;go_wp2_with fail
     refine(a1u line w2 (by omega)).mono ?_
     rintro e w3 ⟨rfl,rfl⟩;rw[hq];go_wp2_with fail
     refine(a0M N w2 (by omega)).mono ?_
     rintro e w3 ⟨rfl,rfl⟩;rw[hn];go_wp2_with fail
     refine(HNU2.out _).mono ?_
     rintro e w3 ⟨rfl,rfl⟩;go_wp2_with fail
     refine(a3s S B l N w2 HS2.out (by omega)).mono ?_
     rintro e w3 ⟨g2,k2,g3,k3,len,u,rfl,hna,hb3⟩;have HNA:=hid hna;have HB3:=hid (HBS.out.trans hb3);obtain⟨d0,d1,d2,dz⟩:=hna.says.cell;have hilt:=hna.lt;have htx:=hna.text;have hsm:=hna.sum;have fft:=hna.ft;have ffs:=hna.fs;rw[a3q]at htx;rw[a3r]at hsm;clear hna hb3;have hil:((rsAt N l:Nat):Int)<(len:Int):=by omega
     have HP:=hid ((HNA.out.below (Below.refl _ _).drew).putS (a0A l N+m));have hb1:=HBD.out.1;have hb2:=HBD.out.2;generalize rsAt N l=i at *;generalize a0A l N=sm at *;have hw1:IntKind.i64.wrap (sm+m)=sm+m:=IntWalk.i64_in _ (by omega);have HDM:=hid (fun W=>a1P (sm+m) W (by omega) (by omega));have hgt:=(a0b HNA.out.says.sums (k:=g3) rfl).1
     have hlow:=HNA.out.says.low;have hne1:¬S=g3:=by omega
     have hne2:¬g3=S:=by omega
     clear hsum hgt hlow;go_wp2;go_region_law (fail)
     all_goals
      go_wp2_with fail
      refine(HDM.out _).mono ?_
      rintro e w4 ⟨rfl,hb4⟩;go_wp2;go_ret2;have hz:Below w3.heap.size w3 w3.drew:=(Below.refl _ _).drew
      refine⟨by rw[HV.out];rfl,by rw[HV.out];exact HP.out.1.below hb4,(HB3.out.trans ((TS.of_below hz).trans HP.out.2)).trans (TS.of_below hb4)⟩
   have n3:(V.toList==([97,100,100]:List UInt8))=false:=a0u h3;have HV:Hid (r=((emp,100),l)):=hid (by rw[HVX.out,HD3.out,if_neg h2,if_neg h3]);clear HVX HD3 h2 h3;go_enter Tryz.func60,Tryz.ntmps60;go_wp2_with fail
   refine(HDC.out.c1 _).mono ?_
   rintro e w1 ⟨rfl,hb1⟩;go_wp2_with fail
   refine(HDC.out.c2 _).mono ?_
   rintro e w2 ⟨rfl,hb2⟩;have HB2:=hid (below_trans hb1 hb2);have HS2:=hid (HS.out.below HB2.out);have HBS:Hid (TS S B w w2):=hid (TS.of_below HB2.out);clear hb1 hb2;go_wp2_with fail
   refine(a1u line w2 (by omega)).mono ?_
   rintro e w3 ⟨rfl,rfl⟩;rw[hq];go_wp2_with fail
   refine(a0M N w2 (by omega)).mono ?_
   rintro e w3 ⟨rfl,rfl⟩;rw[hn];go_wp2;go_ret2;exact⟨by rw[HV.out];rfl,by rw[HV.out];exact HS2.out,HBS.out⟩
structure Kept(K:Nat->Prop)(S:Nat)(w0 w:World)(ub vb tb:Option Nat):Prop where
 same:∀k,K k->w.heap[k]? =w0.heap[k]?
 out:∀k,K k->k<w.heap.size/\k≠S/\ub≠some k/\vb≠some k/\tb≠some k
section
variable{K:Nat->Prop}{S:Nat}{w0 w w2:World}{ub vb tb:Option Nat}{ob:Obj}{g j:Nat}{x:Value}
theorem Kept.same2(h:Kept K S w0 w ub vb tb){o:Option Nat}(ho:∀k,K k->o≠some k)(hg:(w.alloc ob).grownBy w2 o)(k:Nat)(hk:K k):(w2.setCell ⟨S,j,none⟩ x).heap[k]? =w0.heap[k]? /\k<(w2.setCell ⟨S,j,none⟩ x).heap.size:=by
 obtain⟨h1,h2,_⟩:=h.out k hk;have hsz:(w.alloc ob).heap.size=w.heap.size+1:=by simp
 refine⟨?_,?_⟩
 ·rw[Below.heap_setCell _ _ _ k h2];refine((hg.block k (by omega) (fun e=>ho k hk e.symm)).trans ?_).trans (h.same k hk)
  exact Below.heap_alloc _ _ _ (by omega)
 rw[World.size_setCell];have:=hg.size;omega
theorem Kept.turnU(h:Kept K S w0 w ub vb tb)(hg:(w.alloc ob).grownBy w2 ub)(hat:ub=some g\/g=w.heap.size+1):Kept K S w0 (w2.setCell ⟨S,j,none⟩ x) (some g) vb tb:=by
 have h9:=fun k hk=>h.same2 (j:=j) (x:=x) (fun k hk=>(h.out k hk).2.2.1) hg k hk;refine⟨fun k hk=>(h9 k hk).1,fun k hk=>⟨(h9 k hk).2,(h.out k hk).2.1,fun e=>?_,(h.out k hk).2.2.2.1,(h.out k hk).2.2.2.2⟩⟩;injection e with e
 subst e;rcases hat with h5|h5
 ·exact(h.out _ hk).2.2.1 h5
 have:=(h.out _ hk).1;omega
theorem Kept.turnV(h:Kept K S w0 w ub vb tb)(hg:(w.alloc ob).grownBy w2 vb)(hat:vb=some g\/g=w.heap.size+1):Kept K S w0 (w2.setCell ⟨S,j,none⟩ x) ub (some g) tb:=by
 have h9:=fun k hk=>h.same2 (j:=j) (x:=x) (fun k hk=>(h.out k hk).2.2.2.1) hg k hk;refine⟨fun k hk=>(h9 k hk).1,fun k hk=>⟨(h9 k hk).2,(h.out k hk).2.1,(h.out k hk).2.2.1,fun e=>?_,(h.out k hk).2.2.2.2⟩⟩;injection e with e
 subst e;rcases hat with h5|h5
 ·exact(h.out _ hk).2.2.2.1 h5
 have:=(h.out _ hk).1;omega
theorem Kept.turnT(h:Kept K S w0 w ub vb tb)(hg:(w.alloc ob).grownBy w2 tb)(hat:tb=some g\/g=w.heap.size+1):Kept K S w0 (w2.setCell ⟨S,j,none⟩ x) ub vb (some g):=by
 have h9:=fun k hk=>h.same2 (j:=j) (x:=x) (fun k hk=>(h.out k hk).2.2.2.2) hg k hk;refine⟨fun k hk=>(h9 k hk).1,fun k hk=>⟨(h9 k hk).2,(h.out k hk).2.1,(h.out k hk).2.2.1,(h.out k hk).2.2.2.1,fun e=>?_⟩⟩;injection e with e
 subst e;rcases hat with h5|h5
 ·exact(h.out _ hk).2.2.2.2 h5
 have:=(h.out _ hk).1;omega
end
def SaysK(K:Nat->Prop)(w0 w:World)(S B:Nat)(l:List Rw):Prop:=∃u v t,Says3 w S B u v t (l.map fun x=>x.1) (l.map fun x=>x.2.1) (l.map fun x=>x.2.2)/\Kept K S w0 w u.ownBlock v.ownBlock t.ownBlock
theorem SaysK.at{K:Nat->Prop}{w0 w:World}{S B:Nat}{l:List Rw}(h:SaysK K w0 w S B l):SaysAt w S B l:=by
 obtain⟨u,v,t,h3,_⟩:=h;exact⟨u,v,t,h3⟩
theorem SaysK.same{K:Nat->Prop}{w0 w:World}{S B:Nat}{l:List Rw}(h:SaysK K w0 w S B l)(k:Nat)(hk:K k):w.heap[k]? =w0.heap[k]? :=by
 obtain⟨u,v,t,_,h3⟩:=h;exact h3.same k hk
theorem SaysAt.keep{w:World}{S B:Nat}{l:List Rw}(h:SaysAt w S B l){K:Nat->Prop}(hK:∀k,K k->k<w.heap.size/\k<B/\k≠S):SaysK K w w S B l:=by
 obtain⟨u,v,t,h3⟩:=h;refine⟨u,v,t,h3,fun _ _=>rfl,fun k hk=>⟨(hK k hk).1,(hK k hk).2.2,fun e=>?_,fun e=>?_,fun e=>?_⟩⟩
 ·have:=(a0b h3.names e).1;have:=(hK k hk).2.1;omega
 ·have:=(a0b h3.texts e).1;have:=(hK k hk).2.1;omega
 have:=(a0b h3.sums e).1;have:=(hK k hk).2.1;omega
def ajy(K:Nat->Prop)(w0:World)(S B:Nat)(l:List Rw)(n:ByteArray)(w:World)(e:Ending)(w':World):Prop:=e= .returned (.int .i64 (rsAt n l:Nat))/\SaysK K w0 w' S B (rsMk l n)/\TS S B w w'
theorem aio(K:Nat->Prop)(w0:World)(S B:Nat)(l:List Rw)(n:ByteArray)(w:World)(h:SaysK K w0 w S B l)(hl:l.length<=1000):Calls Tryz.prog 74 #[.pointer (some ⟨S,0,none⟩),.string n] w (ajy K w0 S B l n w):=by
 obtain⟨u,v,t,h3,hk0⟩:=h;have HK0:=hid hk0;clear hk0;obtain⟨i0,hi0,hz0,hz1,hz2⟩:=info_parts Tryz.infoStr;obtain⟨i1,hi1,hy0,hy1,hy2⟩:=info_parts Tryz.infoInt;have H3:=hid h3;obtain⟨c0,c1,c2,fz⟩:=h3.cell;obtain⟨ua,uc,rfl⟩:=own_shape h3.names;obtain⟨va,vc,rfl⟩:=own_shape h3.texts;obtain⟨ta,tc,rfl⟩:=own_shape h3.sums;have HNL:Hid ((l.map fun x=>x.1).length=l.length):=hid (by simp);have HTL:Hid ((l.map fun x=>x.2.1).length=l.length):=hid (by simp);have HSL:Hid ((l.map fun x=>x.2.2).length=l.length):=hid (by simp);rw[HNL.out]at c0;rw[HTL.out]at c1;rw[HSL.out]at c2;have H3':=hid h3;obtain⟨len,hlen⟩:∃len,len=l.length:=⟨_,rfl⟩
 have HLEN:=hid hlen
 have HCELL:Hid (∀k (hk:k<l.length),w.cell? ⟨(Value.slice ua (l.map fun x=>x.1).length uc).ownBlock.getD 0,k,none⟩=some (.string (l[k]).1)/\∃g,ua=some ⟨g,0,none⟩):=hid (fun k hk=>by
  obtain⟨g,cap,hv,_,_⟩:=h3.names.form (by rw[HNL.out];omega);simp only[Value.slice.injEq]at hv;obtain⟨rfl,_,rfl⟩:=hv;refine⟨?_,g,rfl⟩;have:=h3.names.cellAt k (by rw[HNL.out];omega);show w.cell? ⟨g,k,none⟩=_;rw[this];simp[hk])
 rw[<-hlen]at c0 c1 c2 hl;clear h3 hlen;go_enter Tryz.func74,Tryz.ntmps74;go_wp2;go_loopw [5] (fun i wr=>∃k:Nat,k<=len/\i= .int .i64 k/\Hid (∀j (h:j<l.length),j<k->(l[j]).1≠n)/\wr=w) (fun i _=>len-(intOf i).toNat)
 case atStart=>exact⟨0,by omega,rfl,hid (fun j h hj=>by omega),rfl⟩
 case round=>
  obtain⟨k,hk,rfl,HT,rfl⟩:=hrel;by_cases hlt:k<len
  ·have hlt2:(k:Int)<(len:Int):=by omega
   have hkl:k<l.length:=by rw[<-HLEN.out];exact hlt
   obtain⟨hck,g,rfl⟩:=HCELL.out k hkl;have hc:wr.cell? ⟨g,k,none⟩=some (.string (l[k]).1):=hck;obtain⟨x,hx⟩:∃x,x=(l[k]).1:=⟨_,rfl⟩
   rw[<-hx]at hc;have HX:=hid hx;clear hck hx;by_cases hxn:x=n
   ·have hb:(x.toList==n.toList)=true:=by rw[a88,decide_eq_true hxn]
    have HF:=hid (a8O hkl HT.out (HX.out.symm.trans hxn));clear hxn;go_wp2;go_ret;refine⟨?_,?_,TS.refl _ _ _⟩
    ·rw[HF.out.1];rfl
    rw[HF.out.2];exact⟨_,_,_,H3.out,HK0.out⟩
   have hb:(x.toList==n.toList)=false:=by rw[a88,decide_eq_false hxn]
   have HT2:Hid (∀j (h:j<l.length),j<k+1->(l[j]).1≠n):=hid (fun j h hj=>by
    by_cases e:j=k
    ·subst e;rw[<-HX.out];exact hxn
    exact HT.out j h (by omega))
   clear hxn;go_wp2;go_roundw
   case rel=>exact⟨k+1,by omega,by go_num,HT2,trivial⟩
   case measure=>simp[intOf];omega
  obtain rfl:k=len:=by omega
  have HF:=hid (abR fun j h=>HT.out j h (by rw[HLEN.out];exact h))
  have HFIN:=hid (fun(w':World) (u v t:Value) (h:Says3 w' S B u v t (l.map (fun x=>x.1)++[n]) (l.map (fun x=>x.2.1)++[emp]) (l.map (fun x=>x.2.2)++[0])) (hk:Kept K S w0 w' u.ownBlock v.ownBlock t.ownBlock)=>show SaysK K w0 w' S B (rsMk l n)from by
   rw[HF.out.2];exact⟨u,v,t,by rw[List.map_append,List.map_append,List.map_append];exact h,hk⟩)
  have HR:Hid (Says3 wr S B (.slice ua k uc) (.slice va k vc) (.slice ta k tc) (l.map fun x=>x.1) (l.map fun x=>x.2.1) (l.map fun x=>x.2.2)):=hid (by
   have h9:=H3'.out;rw[HNL.out,HTL.out,HSL.out,<-HLEN.out]at h9;exact h9)
  rw[<-HLEN.out]at HNL HTL HSL
  have HK0':Hid (Kept K S w0 wr (Value.slice ua k uc).ownBlock (Value.slice va k vc).ownBlock (Value.slice ta k tc).ownBlock):=hid (by
   have h9:=HK0.out;cases ua<;>cases va<;>cases ta<;>exact h9)
  clear HK0;have HK0:=HK0';clear HK0';generalize (l.map fun x=>x.1)=ns at *;generalize (l.map fun x=>x.2.1)=ts at *;generalize (l.map fun x=>x.2.2)=ss at *;have HN0:Hid (wr.ownsRow B 9 1 (.slice ua k uc) k (ns.map Value.string)):=hid (by have h9:=HR.out.names;rw[HNL.out]at h9;exact h9);have hSlt:=HR.out.lt;have hBs:=HR.out.size;have HBS0:=hid hBs;clear H3 H3' HCELL c1 c2 HT;go_wp2_with (at_builtin;refine wpList_append_lies _ rfl _ _ 22 rfl B 9 i0 (.string ⟨#[]⟩) 1 16 Tryz.underlying22 hi0 hz0 hz1 hz2 rfl (by decide) _ _ _ rfl (HN0.out.alloc _) ⟨wr.heap.size,0,none⟩ 1 1 [.string n] rfl rfl ?c1 ?c2 (by decide) ?c4 ?c5 ?c6 (wr.heap.size+1) ?c7 ?_)
  case c1=>exact(a07 _ _ _)
  case c2=>intro u hu;simp at hu;subst hu;rfl
  case c4=>unfold maxLen;omega
  case c5=>omega
  case c6=>simp;omega
  case c7=>simp
  intro g1 cap1 w2 hown2 hgrow2 hat2 hlt2;have hN:=HR.out.name (ob:=.cells #[.string n] 9) (w2:=w2) (g:=g1) (cap:=cap1) (n:=n) (by rw[HNL.out];exact hown2) hgrow2 hat2;rw[HNL.out]at hN;obtain⟨hS1,⟨d0,d1⟩,hB1⟩:=hN;have HS1:=hid hS1;have HB1:=hid hB1;have HK1:=hid (HK0.out.turnU (j:=0) (x:=.slice (some ⟨g1,0,none⟩) (k+1) cap1) hgrow2 hat2);clear hown2 hgrow2 hat2 hlt2 hS1 hB1 HR HN0 c0 fz;obtain⟨e0,e1,e2,ez⟩:=HS1.out.cell;have HT1:Hid ((w2.setCell ⟨S,0,none⟩ (.slice (some ⟨g1,0,none⟩) (k+1) cap1)).ownsRow B 9 1 (.slice va k vc) k (ts.map Value.string)):=hid (by have h9:=HS1.out.texts;rw[HTL.out]at h9;exact h9);have hS2:S<w2.heap.size:=by have:=HS1.out.lt;rwa[World.size_setCell]at this
  have hB2:B<=w2.heap.size:=by have:=HS1.out.size;rwa[World.size_setCell]at this
  go_wp2_with (at_builtin;refine wpList_append_lies _ rfl _ _ 22 rfl B 9 i0 (.string ⟨#[]⟩) 1 16 Tryz.underlying22 hi0 hz0 hz1 hz2 rfl (by decide) _ _ _ rfl (HT1.out.alloc _) ⟨w2.heap.size,0,none⟩ 1 1 [.string ⟨#[]⟩] rfl rfl ?c1 ?c2 (by decide) ?c4 ?c5 ?c6 (w2.heap.size+1) ?c7 ?_)
  case c1=>intro j u hj;have h9:=a07 (w2.setCell ⟨S,0,none⟩ (.slice (some ⟨g1,0,none⟩) (k+1) cap1)) (.string ⟨#[]⟩) 9 j u hj;rw[World.size_setCell]at h9;exact h9
  case c2=>intro u hu;simp at hu;subst hu;rfl
  case c4=>unfold maxLen;omega
  case c5=>omega
  case c6=>simp;omega
  case c7=>simp
  intro g2 cap2 w3 hown3 hgrow3 hat3 hlt3;have hN:=HS1.out.text (ob:=.cells #[.string ⟨#[]⟩] 9) (w2:=w3) (g:=g2) (cap:=cap2) (n:=⟨#[]⟩) (by rw[HTL.out];exact hown3) hgrow3 (by rw[World.size_setCell];exact hat3);rw[HTL.out]at hN;obtain⟨hS1,⟨d2,d3⟩,hB1⟩:=hN;have HS2:=hid hS1;have HB2:=hid (HB1.out.trans hB1);have HK2:=hid (HK1.out.turnV (j:=1) (x:=.slice (some ⟨g2,0,none⟩) (k+1) cap2) hgrow3 (by rw[World.size_setCell];exact hat3));clear hown3 hgrow3 hat3 hlt3 hS1 hB1 HB1 HS1 HT1 e0 e1 e2 ez d0 d1 hS2;obtain⟨e0,e1,e2,ez⟩:=HS2.out.cell;have HU1:Hid ((w3.setCell ⟨S,1,none⟩ (.slice (some ⟨g2,0,none⟩) (k+1) cap2)).ownsRow B 3 1 (.slice ta k tc) k (ss.map (Value.int .i64))):=hid (by have h9:=HS2.out.sums;rw[HSL.out]at h9;exact h9);have hS2:S<w3.heap.size:=by have:=HS2.out.lt;rwa[World.size_setCell]at this
  have hB3:B<=w3.heap.size:=by have:=HS2.out.size;rwa[World.size_setCell]at this
  go_wp2_with (at_builtin;refine wpList_append_lies _ rfl _ _ 122 rfl B 3 i1 (.int .i64 0) 1 8 Tryz.underlying122 hi1 hy0 hy1 hy2 rfl (by decide) _ _ _ rfl (HU1.out.alloc _) ⟨w3.heap.size,0,none⟩ 1 1 [.int .i64 0] rfl rfl ?c1 ?c2 (by decide) ?c4 ?c5 ?c6 (w3.heap.size+1) ?c7 ?_)
  case c1=>intro j u hj;have h9:=a07 (w3.setCell ⟨S,1,none⟩ (.slice (some ⟨g2,0,none⟩) (k+1) cap2)) (.int .i64 0) 3 j u hj;rw[World.size_setCell]at h9;exact h9
  case c2=>intro u hu;simp at hu;subst hu;rfl
  case c4=>unfold maxLen;omega
  case c5=>omega
  case c6=>simp;omega
  case c7=>simp
  intro g3 cap3 w4 hown4 hgrow4 hat4 hlt4;have hN:=HS2.out.sum (ob:=.cells #[.int .i64 0] 3) (w2:=w4) (g:=g3) (cap:=cap3) (n:=0) (by rw[HSL.out];exact hown4) hgrow4;rw[HSL.out]at hN;obtain⟨hS1,⟨d4,d5⟩,hB1⟩:=hN;have HS3:=hid hS1;have HB3:=hid (HB2.out.trans hB1);have HK3:=hid (HK2.out.turnT (j:=2) (x:=.slice (some ⟨g3,0,none⟩) (k+1) cap3) hgrow4 (by rw[World.size_setCell];exact hat4));clear hown4 hgrow4 hat4 hlt4 hS1 hB1 HB2 HS2 HU1 e0 e1 e2 ez d2 d3 hS2;obtain⟨e0,e1,e2,ez⟩:=HS3.out.cell;have hw1:IntKind.i64.wrap ((k:Int)+1-1)=(k:Int):=by rw[IntWalk.i64_in _ (by omega)];omega
  have hw2:IntKind.i64.wrap (k:Int)=(k:Int):=IntWalk.i64_in _ (by omega);go_wp2;go_ret;refine⟨?_,HFIN.out _ _ _ _ HS3.out HK3.out,HB3.out⟩;rw[HF.out.1,<-HLEN.out];rfl
def AtNK(K:Nat->Prop)(w0:World)(S B:Nat)(l:List Rw)(n:ByteArray)(w:World)(e:Ending)(w':World):Prop:=∃g2 c2 g3 c3 len u,e= .returned (.int .i64 (rsAt n l:Nat))/\NameAt w' S B (rsMk l n) (rsAt n l) n g2 c2 g3 c3 len u/\SaysK K w0 w' S B (rsMk l n)/\TS S B w w'
theorem agX(K:Nat->Prop)(w0:World)(S B:Nat)(l:List Rw)(n:ByteArray)(w:World)(h:SaysK K w0 w S B l)(hl:l.length<=1000):Calls Tryz.prog 74 #[.pointer (some ⟨S,0,none⟩),.string n] w (AtNK K w0 S B l n w):=by
 refine(aio K w0 S B l n w h hl).mono ?_
 rintro e w' ⟨rfl,h2,hb⟩;obtain⟨h3,h4⟩:=a6S l n;obtain⟨g2,c2,g3,c3,len,u,h5⟩:=adl h2.at (n:=n) (by rw[h3];exact h4);rw[h3]at h5;exact⟨g2,c2,g3,c3,len,u,rfl,h5,h2,hb⟩
def AnsR(S B:Nat)(r:ByteArray×Int)(w:World)(e:Ending)(w':World):Prop:=e= .returned (.tuple #[.string r.1,.int .i64 r.2])/\TS S B w w'
end Go.Proofs.YtdfkaijeppdhaaaGreatDoor
