/- Part of the proof. -/
import Derived.Test.YtdfkaijeppdhaaaGreatDoorZHs25
set_option maxRecDepth 100000
set_option maxHeartbeats 8000000

namespace Go.Proofs.YtdfkaijeppdhaaaGreatDoor.Td
open Lib (hid)
open Proofs.Tryz Go.RowKit Go.Shelf
attribute [local go_sem] Oper.semAt_some
def parE(o:Option (List (List Int))):Int:=match o with
 |none=>3
 |some _=>0
def parT(o:Option (List (List Int))):List (List Int):=match o with
 |none=>[]
 |some t=>t
def a8A(o:Option (List (List Int)))(w:World)(e:Ending)(w':World):Prop:=
 ∃ov,e= .returned (.tuple #[ov,.int .i64 (parE o)])/\RowsAt w' ov (parT o)/\Below w.heap.size w w'
theorem a5q{S:Nat->Prop}{w w':World}{base:Nat}{e:TypeId}{size:Nat}{v:Value}{n:Nat}{xs:List Value}(h:w.ownsRow base e size v n xs)(ht:Turned S w w')(hs:∀k,S k->k<base):w'.ownsRow base e size v n xs:=by
 refine⟨h.1,?_⟩;rcases h.2 with hn|⟨g,cap,cur,hv,hbg,hg,hrest⟩
 ·exact .inl hn
 exact .inr ⟨g,cap,cur,hv,hbg,(ht.block g fun hk=>by have:=hs g hk;omega).trans hg,hrest⟩
def TabO(B:Nat)(X:World)(v:Value)(t:List (List Int)):Prop:=
 ∃xs:List Value,X.ownsRow B 122 1 v t.length xs/\∀j,j<t.length->X.ownsRow B 3 1 (xs.getD j undef) (t.getD j []).length ((t.getD j []).map (Value.int .i64))
theorem TabO.nil(B:Nat)(X:World):TabO B X (.slice none 0 0) []:=⟨[],World.ownsRow_nil _ _ _ _,fun j hj=>by simp at hj⟩
theorem TabO.turned{S:Nat->Prop}{B:Nat}{X X':World}{v:Value}{t:List (List Int)}(h:TabO B X v t)(ht:Turned S X X')(hs:∀k,S k->k<B):TabO B X' v t:=by
 obtain⟨xs,h1,h2⟩:=h;exact⟨xs,a5q h1 ht hs,fun j hj=>a5q (h2 j hj) ht hs⟩
theorem TabO.below{B:Nat}{X X':World}{v:Value}{t:List (List Int)}(h:TabO B X v t)(hb:Below X.heap.size X X'):TabO B X' v t:=by
 obtain⟨xs,h1,h2⟩:=h;exact⟨xs,own_below h1 hb,fun j hj=>own_below (h2 j hj) hb⟩
theorem TabO.rows{B:Nat}{X:World}{v:Value}{t:List (List Int)}(h:TabO B X v t)(hl:t.length<=1000000)(hw:∀l∈t,l.length<=1000000):RowsAt X v t:=by
 obtain⟨xs,h1,h2⟩:=h;exact ae0 (e:=122) (base:=B) (xs:=xs) h1 om (fun i hi=>own_ints (h2 i hi) (by have:=hw _ (a3y hi);omega))
structure PaAt(n0:Nat)(r e:Value)(ov:Value)(X:World):Prop where
 r:X.heap[n0]? =some (.cells #[r] 168 (0,0))
 e:X.heap[n0+1]? =some (.cells #[e] 25 (0,0))
 o:X.heap[n0+2]? =some (.cells #[ov] 168 (0,0))
theorem PaAt.turned{S:Nat->Prop}{n0:Nat}{r e ov:Value}{X X':World}(h:PaAt n0 r e ov X)(ht:Turned S X X')(hs:∀k,S k->n0+2<k):PaAt n0 r e ov X':=
 ⟨(ht.block _ fun hk=>by have:=hs _ hk;omega).trans h.r,(ht.block _ fun hk=>by have:=hs _ hk;omega).trans h.e,(ht.block _ fun hk=>by have:=hs _ hk;omega).trans h.o⟩
theorem PaAt.below{n0:Nat}{r e ov:Value}{X X':World}(h:PaAt n0 r e ov X)(hb:Below X.heap.size X X'):PaAt n0 r e ov X':=by
 have lt:∀{k o},X.heap[k]? =some o->k<X.heap.size:=fun h=>(aog.1 h).1
 exact⟨(hb.block _ (lt h.r)).trans h.r,(hb.block _ (lt h.e)).trans h.e,(hb.block _ (lt h.o)).trans h.o⟩
theorem _root_.Go.Proofs.YtdfkaijeppdhaaaGreatDoor.SeqOwn.inRound{α:Type}{F:Fence}{n:Nat}{P:Program}{gf:Nat}{lb:Array Value}{enc:α->Value}{S K:Nat->Prop}{St:World->Prop}{xs:List α}(h:SeqOwn F n P gf lb enc S K St xs)(l:Nat):
  SeqOwn (F.inRound l) n P gf lb enc S K St xs:=h
theorem ab0(c:UInt8):∀l:List UInt8,(a15 c l).length<=l.length+1
 |[]=>by simp[a15]
 |b::r=>by
  have:=ab0 c r;unfold a15;split
  ·simpa using this
  split
  ·simp
  rename_i h;rw[h]at this;simp at this⊢;omega
theorem a5r(c:UInt8):∀(l x:List UInt8),x∈a15 c l->x.length<=l.length
 |[],x,h=>by simp[a15]at h;subst h;simp
 | b::r,x,h=>by
  unfold a15 at h;split at h
  ·rcases aov.1 h with rfl|h
   ·simp
   have:=a5r c r x h;simp;omega
  split at h
  ·simp at h;subst h;simp
  rename_i y ys he
  rcases aov.1 h with rfl|h
  ·have:=a5r c r y (by rw[he];simp);simp;omega
  have:=a5r c r x (by rw[he];simp[h]);simp;omega
theorem splitA_len(c:UInt8)(s:ByteArray):(splitA c s).length<=s.size+1:=by
 unfold splitA;rw[aoB];have:=ab0 c s.data.toList;simpa using this
theorem ab1{c:UInt8}{s x:ByteArray}(h:x∈splitA c s):x.size<=s.size:=by
 unfold splitA at h;obtain⟨l,hl,rfl⟩:=ap1.1 h;have:=a5r c _ _ hl;show l.toArray.size<=s.data.size;simpa using this
def GivesN(o:Option Int)(w:World)(e:Ending)(w':World):Prop:=
 (match o with
  |some n=>e= .returned (.tuple #[.int .i64 n,.nilIface])
  |none=>∃m N,e= .returned (.tuple #[.int .i64 m,.iface 231 (.pointer (some ⟨N,0,none⟩))]))/\Below w.heap.size w w'
theorem atoi_any(x:ByteArray)(w:World)(hx:x.size<=281474976710656)(hV:Vars w):Calls prog 101 #[.string x] w (GivesN (a8z x) w):=by
 unfold GivesN a8z;rcases h:Lib.atoiAll x.data.toList with v|_|_
 ·refine(Tryz.strconv_Atoi_ok x om v h w).mono ?_
  rintro e w' ⟨rfl,h2⟩;refine⟨rfl,?_⟩;rcases h2 with rfl|⟨t,rfl⟩
  ·exact aoi _ _
  exact Lib.bytesWorld_below _ _ _
 ·obtain⟨ev,h1,h2⟩:=hV.es;refine(Any.strconv_Atoi_syntax Tryz.laysC172 x hx h ev w h1 h2).mono ?_
  rintro e w' ⟨N,rfl,_,_,hb⟩;exact⟨⟨_,N,rfl⟩,hb⟩
 obtain⟨ev,h1,h2⟩:=hV.er;refine(Tryz.strconv_Atoi_range x hx h ev w h1 h2).mono ?_
 rintro e w' ⟨N,rfl,_,_,hb⟩;exact⟨⟨_,N,rfl⟩,hb⟩
theorem amZ{w:World}{base:Nat}{e:TypeId}{size:Nat}{v:Value}{n:Nat}{xs:List Value}(h:w.ownsRow base e size v n xs){k:Nat}(hk:k<base):some k≠v.ownBlock:=by
 rcases h.2 with⟨rfl,_⟩|⟨g,cap,cur,rfl,hg,_⟩
 ·simp[Value.ownBlock]
 intro e;obtain rfl:k=g:=by simpa [Value.ownBlock]using e
 omega
theorem aeb{w1 w2:World}{tmp:Obj}{base:Nat}{e:TypeId}{size:Nat}{v:Value}{n:Nat}{xs:List Value}(h:w1.ownsRow base e size v n xs)(hg:(w1.alloc tmp).grownBy w2 v.ownBlock){k:Nat}(h1:k<w1.heap.size)(h2:k<base):w2.heap[k]? =w1.heap[k]? :=
 (hg.block k km (fun e=>amZ h h2 e)).trans (aop _ _ _ h1)
theorem a7n{w:World}{base:Nat}{e:TypeId}{size:Nat}{u v:Value}{n:Nat}{xs:List Value}{b:Nat}(h:w.ownsRow base e size u n xs)(hb:b<base):(w.setCell ⟨b,0,none⟩ v).ownsRow base e size u n xs:=
 a5q (S:=fun k=>k=b) h (a2i _ _ _ _ rfl) (fun k hk=>om)
theorem a29{B base:Nat}{w wr w1:World}{e:TypeId}{size:Nat}{v:Value}{n:Nat}{xs:List Value}{o:Obj}(hB:Below B w wr)(hs:B<=wr.heap.size)(hown:wr.ownsRow base e size v n xs)(hb:B<=base)
  (hg:(wr.alloc o).grownBy w1 v.ownBlock):Below B w w1:=
 (hB.alloc hs o).grown hg km (fun k e=>by have:=(hown.lt k e).1;omega)
theorem Tryz.infoInts:(prog.info? 122).map (fun i=>(i.zero,i.size,i.bytes))=some (some (.slice none 0 0),1,24):=ot
theorem ab2{w:World}{b b':Nat}{e e':TypeId}{s s':Nat}{v v':Value}{n n':Nat}{xs xs':List Value}(h:w.ownsRow b e s v n xs)(h':w.ownsRow b' e' s' v' n' xs')(hne:e≠e'):
  v.ownBlock=none\/v.ownBlock≠v'.ownBlock:=by
 rcases h.2 with⟨rfl,_⟩|⟨g,cap,cur,rfl,_,hg,_⟩
 ·exact .inl rfl
 rcases h'.2 with⟨rfl,_⟩|⟨g',cap',cur',rfl,_,hg',_⟩
 ·exact .inr (by simp[Value.ownBlock])
 refine .inr fun he=>?_
 simp only[Value.ownBlock,Option.some.injEq]at he;subst he;rw[hg]at hg';simp only[Option.some.injEq,Obj.cells.injEq]at hg';exact hne hg'.2.1
theorem a7o{wr w1:World}{b b':Nat}{e e':TypeId}{s s':Nat}{v x:Value}{n n':Nat}{xs xs':List Value}{o:Obj}(h:wr.ownsRow b e s x n xs)(hout:wr.ownsRow b' e' s' v n' xs')(hne:e≠e')
  (hg:(wr.alloc o).grownBy w1 v.ownBlock):w1.ownsRow b e s x n xs:=
 (h.alloc o).kept hg (ab2 (h.alloc o) (hout.alloc o) hne)
theorem a9J{w:World}{b b':Nat}{e:TypeId}{s:Nat}{v:Value}{n:Nat}{xs:List Value}(h:w.ownsRow b e s v n xs)(hb:b'<=b):w.ownsRow b' e s v n xs:=by
 refine⟨h.1,?_⟩;rcases h.2 with hn|⟨g,cap,cur,hv,hbg,hrest⟩
 ·exact .inl hn
 exact .inr ⟨g,cap,cur,hv,om,hrest⟩
theorem box_set{X:World}{b:Nat}{u v:Value}{T:TypeId}{fr:Nat×Nat}(h:X.heap[b]? =some (.cells #[u] T fr)):(X.setCell ⟨b,0,none⟩ v).heap[b]? =some (.cells #[v] T fr):=by
 obtain⟨hlt,hk⟩:=aog.1 h;show (X.heap.modify b _)[b]? =_;rw[aoD (by rw[apm];exact hlt),ap0,hk];simp
theorem set_other{X:World}{b k:Nat}{v:Value}(h:k≠b):(X.setCell ⟨b,0,none⟩ v).heap[k]? =X.heap[k]? :=aok _ _ _ _ h
def PaI(n0:Nat)(w:World)(pre:List ByteArray)(X:World):Prop:=
 ∃(tt:List (List Int)) (ov:Value),allS abJ pre=some tt/\TabO (n0+8) X ov tt/\(∀l∈tt,l.length<=241)/\PaAt n0 (.slice none 0 0) (.int .i64 0) ov X/\Below n0 w X
def PaX(s:ByteArray)(n0:Nat)(w:World)(c:Code)(X:World):Prop:=
 c= .ret/\abK s=none/\X.heap[n0]? =some (.cells #[.slice none 0 0] 168 (0,0))/\X.heap[n0+1]? =some (.cells #[.int .i64 3] 25 (0,0))/\Below n0 w X
def PbI(b:Nat)(X:World)(pre:List ByteArray)(Y:World):Prop:=
 ∃(ll:List Int) (lv:Value),allS a8z pre=some ll/\Y.ownsRow (b+5) 3 1 lv ll.length (ll.map (Value.int .i64))/\Y.heap[b]? =some (.cells #[lv] 122 (0,0))/\Below b X Y
theorem PaI.turned{S:Nat->Prop}{n0:Nat}{w:World}{pre:List ByteArray}{X X':World}(h:PaI n0 w pre X)(ht:Turned S X X')(hs:∀k,S k->n0+2<k/\k<n0+8):PaI n0 w pre X':=by
 obtain⟨tt,ov,h1,h2,h3,h4,h5⟩:=h;exact⟨tt,ov,h1,h2.turned ht (fun k hk=>(hs k hk).2),h3,h4.turned ht (fun k hk=>(hs k hk).1),h5.trans (ht.below (fun k hk=>by have:=(hs k hk).1;omega))⟩
theorem PaX.turned{S:Nat->Prop}{s:ByteArray}{n0:Nat}{w:World}{c:Code}{X X':World}(h:PaX s n0 w c X)(ht:Turned S X X')(hs:∀k,S k->n0+2<k):PaX s n0 w c X':=by
 obtain⟨h1,h2,h3,h4,h5⟩:=h;exact⟨h1,h2,(ht.block _ fun hk=>by have:=hs _ hk;omega).trans h3,(ht.block _ fun hk=>by have:=hs _ hk;omega).trans h4,h5.trans (ht.below (fun k hk=>by have:=hs k hk;omega))⟩
theorem PbI.turned{S:Nat->Prop}{b:Nat}{X:World}{pre:List ByteArray}{Y Y':World}(h:PbI b X pre Y)(ht:Turned S Y Y')(hs:∀k,S k->b<k/\k<b+5):PbI b X pre Y':=by
 obtain⟨ll,lv,h1,h2,h3,h4⟩:=h;exact⟨ll,lv,h1,a5q h2 ht (fun k hk=>(hs k hk).2),(ht.block _ fun hk=>by have:=(hs _ hk).1;omega).trans h3,h4.trans (ht.below (fun k hk=>by have:=(hs k hk).1;omega))⟩
def aml(s:ByteArray)(n0:Nat)(x5 x15:Value):Act:=
 { tmps:=#[.string s,undef,.pointer (some ⟨n0,0,none⟩),.pointer (some ⟨n0+1,0,none⟩),.pointer (some ⟨n0+2,0,none⟩),x5,undef,undef,undef,undef,.string s,.int .i64 s.size,.bool false,.string s,
   .func (.func 245) #[] #[.pointer (some ⟨n0+4,0,none⟩),.pointer (some ⟨n0+3,0,none⟩),.pointer (some ⟨n0+5,0,none⟩)],x15,
   undef,undef,undef,undef,undef,undef,undef,undef,undef,undef,undef,undef,undef,undef,undef,undef,undef,undef,undef,undef,undef,undef,undef,undef,undef,undef,undef,undef],defers:=[]}
def ahk(s:ByteArray)(n0 b:Nat)(x:ByteArray)(y:Value):Act:=
 { tmps:=#[.string s,undef,.pointer (some ⟨n0,0,none⟩),.pointer (some ⟨n0+1,0,none⟩),.pointer (some ⟨n0+2,0,none⟩),.string x,.pointer (some ⟨b,0,none⟩),y,undef,undef,.string s,.int .i64 s.size,.bool false,.string s,
   .func (.func 245) #[] #[.pointer (some ⟨n0+4,0,none⟩),.pointer (some ⟨n0+3,0,none⟩),.pointer (some ⟨n0+5,0,none⟩)],.string x,
   .string x,.func (.func 245) #[] #[.pointer (some ⟨b+2,0,none⟩),.pointer (some ⟨b+1,0,none⟩),.pointer (some ⟨b+3,0,none⟩)],y,undef,undef,undef,undef,undef,undef,undef,undef,undef,undef,undef,undef,undef,undef,undef,undef,undef,undef,undef,undef,undef,undef,undef,undef,undef],defers:=[]}
theorem ajG(a:ByteArray):(a != a)=false:=by
 have h3:(a==a)=true:=by
  show (a.data==a.data)=true;exact beq_self_eq_true _
 simp only[bne,h3,Bool.not_true]
theorem an0(bs:ByteArray):∀(n i:Nat) (r:List UInt8),bs.size-i=n->ByteArray.toList.loop bs i r=r.reverse++bs.data.toList.drop i:=by
 intro n;induction n with
 |zero=>
  intro i r h;unfold ByteArray.toList.loop;rw[if_neg om,apy (by show bs.data.toList.length<=i;have:bs.data.toList.length=bs.size:=apO;omega)];simp
 | succ n ih=>
  intro i r h;have hi:i<bs.size:=om;have hi2:i<bs.data.toList.length:=by have:bs.data.toList.length=bs.size:=apO;omega
  unfold ByteArray.toList.loop;rw[if_pos hi,ih (i+1) _ om,aoL hi2]
  have e:bs.get! i=bs.data.toList[i]:=by
   cases bs with|mk d=>
   have hd:i<d.size:=hi;simp[ByteArray.get!,hd]
  rw[e];simp
theorem ba_list(bs:ByteArray):bs.toList=bs.data.toList:=by
 unfold ByteArray.toList;rw[an0 bs _ 0 [] rfl];simp
theorem ba_lne{a b:ByteArray}(h:a≠b):(a.toList==b.toList)=false:=by
 rw[beq_eq_false_iff_ne,ba_list,ba_list];intro e;exact h (by cases a;cases b;simp only[ByteArray.mk.injEq];exact Array.toList_inj.1 e)
theorem a1K(w:World):RowsAt w (.slice none 0 0) []:=⟨none,0,rfl,by simp,fun h=>by simp at h⟩
theorem ab3{w W:World}{tm:Array Value}{r e:Value}(t2:tm[2]?.getD undef= .pointer (some ⟨w.heap.size,0,none⟩))(t3:tm[3]?.getD undef= .pointer (some ⟨w.heap.size+1,0,none⟩))
  (k1:W.cell? ⟨w.heap.size,0,none⟩=some r)(k2:W.cell? ⟨w.heap.size+1,0,none⟩=some e):(results Tryz.f149 tm).run prog W= .ok (.tuple #[r,e]) W:=by
 simp[results,Tryz.f149,go_sem,t2,t3,k1,k2]
theorem aec{s:ByteArray}{w W W0:World}{ov:Value}{tt:List (List Int)}{r:Value}{er:Int}{tm:Array Value}(t2:tm[2]?.getD undef= .pointer (some ⟨w.heap.size,0,none⟩))(t3:tm[3]?.getD undef= .pointer (some ⟨w.heap.size+1,0,none⟩))(hT:TabO (w.heap.size+8) W ov tt)(hP:PaAt w.heap.size (.slice none 0 0) (.int .i64 0) ov W)(hB:Below w.heap.size w W)
  (hD:W.heap[w.heap.size+6]? =some (.deferred (some [])))(h0:W0.heap.size=w.heap.size+6)
  (h:(parP s=none/\r= .slice none 0 0/\er=3)\/(parP s=some tt/\r=ov/\er=0/\tt.length<=1000000/\∀l∈tt,l.length<=241)):
  bodyPostM Fence.wide 6 prog Tryz.f149 (a8A (parP s) w) .ret {tmps:=tm,defers:=[{target:=.collected W0.heap.size,args:=#[]}]}
   ((W.setCell ⟨w.heap.size,0,none⟩ r).setCell ⟨w.heap.size+1,0,none⟩ (.int .i64 er)):=by
 rw[h0];have hD2:((W.setCell ⟨w.heap.size,0,none⟩ r).setCell ⟨w.heap.size+1,0,none⟩ (.int .i64 er)).heap[w.heap.size+6]? =some (.deferred (some [])):=(set_other om).trans ((set_other om).trans hD)
 refine⟨by simp,.inl ⟨_,_,rfl,run_takeDeferred hD2,?_⟩⟩;have k1:=heap_cell (j:=0) ((World.putObj_heap_other (o:=.deferred none) (show w.heap.size≠w.heap.size+6 by omega)).trans ((set_other (v:=.int .i64 er) (show w.heap.size≠w.heap.size+1 by omega)).trans (box_set (v:=r) hP.r))) rfl;have k2:=heap_cell (j:=0) ((World.putObj_heap_other (o:=.deferred none) (show w.heap.size+1≠w.heap.size+6 by omega)).trans (box_set (v:=.int .i64 er) ((set_other (v:=r) (show w.heap.size+1≠w.heap.size by omega)).trans hP.e))) rfl
 have ht:Turned (fun k=>k=w.heap.size\/k=w.heap.size+1\/k=w.heap.size+6) W (((W.setCell ⟨w.heap.size,0,none⟩ r).setCell ⟨w.heap.size+1,0,none⟩ (.int .i64 er)).putObj (w.heap.size+6) (.deferred none)):=
  ((a2i _ _ _ _ (.inl rfl)).trans (a2i _ _ _ _ (.inr (.inl rfl)))).trans (a2u _ _ _ (.inr (.inr rfl)))
 refine⟨.tuple #[r,.int .i64 er],ab3 t2 t3 k1 k2,?_⟩;rcases h with⟨e1,rfl,rfl⟩|⟨e1,rfl,rfl,e2,e3⟩
 ·exact⟨_,by rw[e1];rfl,by rw[e1];exact a1K _,hB.trans (ht.below (fun k hk=>om))⟩
 exact⟨_,by rw[e1];rfl,by rw[e1];exact(hT.turned ht (fun k hk=>om)).rows e2 (fun l hl=>by have:=e3 l hl;omega),hB.trans (ht.below (fun k hk=>om))⟩
theorem an1{s:ByteArray}{w W W0:World}{tm:Array Value}(t2:tm[2]?.getD undef= .pointer (some ⟨w.heap.size,0,none⟩))(t3:tm[3]?.getD undef= .pointer (some ⟨w.heap.size+1,0,none⟩))(h1:W.heap[w.heap.size]? =some (.cells #[.slice none 0 0] 168 (0,0)))(h2:W.heap[w.heap.size+1]? =some (.cells #[.int .i64 3] 25 (0,0)))(hB:Below w.heap.size w W)
  (hD:W.heap[w.heap.size+6]? =some (.deferred (some [])))(h0:W0.heap.size=w.heap.size+6)(h:parP s=none):
  bodyPostM Fence.wide 6 prog Tryz.f149 (a8A (parP s) w) .ret {tmps:=tm,defers:=[{target:=.collected W0.heap.size,args:=#[]}]} W:=by
 rw[h0,h];refine⟨by simp,.inl ⟨_,_,rfl,run_takeDeferred hD,?_⟩⟩;have k1:(W.putObj (w.heap.size+6) (.deferred none)).cell? ⟨w.heap.size,0,none⟩=some (.slice none 0 0):=heap_cell ((World.putObj_heap_other om).trans h1) rfl
 have k2:(W.putObj (w.heap.size+6) (.deferred none)).cell? ⟨w.heap.size+1,0,none⟩=some (.int .i64 3):=heap_cell ((World.putObj_heap_other om).trans h2) rfl
 refine⟨.tuple #[.slice none 0 0,.int .i64 3],?_,_,rfl,a1K _,hB.trans ((a2u (S:=fun k=>k=w.heap.size+6) _ _ _ rfl).below (fun k hk=>om))⟩;exact ab3 t2 t3 k1 k2
theorem ajH(s:ByteArray)(w:World)(hV:Vars w)(hs:s.size<=240):
  CallsIn Fence.wide 6 prog 149 #[.string s] w (a8A (parP s) w):=by
 have hs2:decide ((240:Int)<(s.size:Int))=false:=by rw[decide_eq_false];omega
 have hs3:¬240<s.size:=om;refine callsIn_of_wp_marks func149 rfl trivial ?_ rfl;simp only[ntmps149,ape,aom,aow,Nat.reduceAdd,Nat.reduceSub,ap3,ap4,apf,ap7,aoM,aoA];gi_wp2_with fail
 refine⟨trivial,callsIn_wide.2 ((a8y s 59 _).mono ?_)⟩;rintro e w' ⟨rfl,rfl⟩;gi_wp2_with fail
 obtain⟨W0,hW0⟩:∃W0,(((((w.alloc (.cells #[.slice none 0 0] 168)).alloc (.cells #[.int .i64 0] 25)).alloc (.cells #[.slice none 0 0] 168)).alloc (.cells #[.string s] 9)).alloc (.cells #[.string ⟨#[59]⟩] 9)).alloc (.cells #[.int .i64 0] 3)=W0:=⟨_,rfl⟩
 have hsz:W0.heap.size=w.heap.size+6:=by rw[<-hW0];simp
 have hb0:Below w.heap.size w W0:=by
  rw[<-hW0];exact((((((aoi _ w).alloc (aof _) _).alloc oz _).alloc km _).alloc km _).alloc km _).alloc km _
 have hsq:SqAt (w.heap.size+3) 59 s W0:=by
  have h:=aea s 59 (((w.alloc (.cells #[.slice none 0 0] 168)).alloc (.cells #[.int .i64 0] 25)).alloc (.cells #[.slice none 0 0] 168));rw[<-hW0];simpa using h
 have hpa:PaAt w.heap.size (.slice none 0 0) (.int .i64 0) (.slice none 0 0) W0:=by
  have h1:(w.alloc (.cells #[.slice none 0 0] 168)).heap[w.heap.size]? =some (.cells #[.slice none 0 0] 168 (0,0)):=World.alloc_heap_new w _
  have h2:=World.alloc_heap_new (w.alloc (.cells #[.slice none 0 0] 168)) (.cells #[.int .i64 0] 25);have h3:=World.alloc_heap_new ((w.alloc (.cells #[.slice none 0 0] 168)).alloc (.cells #[.int .i64 0] 25)) (.cells #[.slice none 0 0] 168);simp only[aoq]at h2 h3;have k:∀(A:World) (o:Obj) (b:Nat) (x:Obj),A.heap[b]? =some x->(A.alloc o).heap[b]? =some x:=fun A o b x h=>(aop _ _ _ (aog.1 h).1).trans h
  rw[<-hW0];exact⟨k _ _ _ _ (k _ _ _ _ (k _ _ _ _ (k _ _ _ _ (k _ _ _ _ h1)))),k _ _ _ _ (k _ _ _ _ (k _ _ _ _ (k _ _ _ _ h2))),k _ _ _ _ (k _ _ _ _ (k _ _ _ _ h3))⟩
 rw[hW0];clear hW0;have hxs:=splitA_len 59 s
 have hTI:∀(pre:List ByteArray) (X X':World),Turned (fun k=>sqS (w.heap.size+3) k\/k=W0.heap.size+1) X X'->PaI w.heap.size w pre X->PaI w.heap.size w pre X':=fun pre X X' ht h=>h.turned ht (fun k hk=>by
  rcases hk with hk|hk
  ·have:k=w.heap.size+3:=hk;omega
  omega)
 refine acs rfl om (gf:=245) rfl trivial (enters_of func245 ot rfl)
  (a8x 5 om (w.heap.size+3) 59 s om) rfl
  (fun k hk=>by have:k=w.heap.size+3:=hk;omega) (fun k hk=>by have:k=w.heap.size+3\/k=w.heap.size+3+1\/k=w.heap.size+3+2:=hk;omega) (fun X hX=>hsq.below hX)
  (fun pre X=>PaI w.heap.size w pre X) (fun c _ X=>PaX s w.heap.size w c X)
  hTI
  (fun c pre X X' ht h=>h.turned ht (fun k hk=>om))
  (fun X hX hsX=>⟨[],.slice none 0 0,rfl,TabO.nil _ _,fun l hl=>by simp at hl,hpa.below hX,hb0.trans (hX.mono om)⟩)
  (fun x=>aml s w.heap.size (.string x) (.string x)) ?assign ?body ?done ?stop
 case assign=>
  intro l m x W K hK;gi_wp2;exact hK
 case body=>
  intro pre x X hpre hi hr hd;obtain⟨r,hr⟩:=hr;rw[hsz]at hr hd;have hrl:w.heap.size+7<X.heap.size:=(aog.1 hr).1
  have hmem:x∈splitA 59 s:=hpre.subset oz;have hplen:pre.length+1<=241:=by have:=hpre.length_le;simp at this;omega
  have hxsz:x.size<=240:=by have:=ab1 hmem;omega
  have PRE:=hid hpre;have I0:=hid hi;have HR:=hid hr;clear hi hpre hpa hsq hr hd;unfold aml;gi_wp2_with fail
  refine⟨trivial,CallsIn.inRound _ (callsIn_wide.2 ((a8y x 44 _).mono ?_))⟩;rintro e w' ⟨rfl,rfl⟩;gi_wp2_with fail
  obtain⟨W2,hW2⟩:∃W2,(((X.alloc (.cells #[.slice none 0 0] 122)).alloc (.cells #[.string x] 9)).alloc (.cells #[.string ⟨#[44]⟩] 9)).alloc (.cells #[.int .i64 0] 3)=W2:=⟨_,rfl⟩
  have hsz2:W2.heap.size=X.heap.size+4:=by rw[<-hW2];simp
  have hb2:Below X.heap.size X W2:=by
   rw[<-hW2];exact((((aoi _ X).alloc (aof _) _).alloc oz _).alloc km _).alloc km _
  have hsq2:SqAt (X.heap.size+1) 44 x W2:=by
   have h:=aea x 44 (X.alloc (.cells #[.slice none 0 0] 122));rw[aoq]at h;rw[<-hW2];exact h
  have hlb:W2.heap[X.heap.size]? =some (.cells #[.slice none 0 0] 122 (0,0)):=by
   have k:∀(A:World) (o:Obj) (b:Nat) (x:Obj),A.heap[b]? =some x->(A.alloc o).heap[b]? =some x:=fun A o b x h=>(aop _ _ _ (aog.1 h).1).trans h
   rw[<-hW2];exact k _ _ _ _ (k _ _ _ _ (k _ _ _ _ (World.alloc_heap_new X _)))
  have hr2:W2.heap[w.heap.size+7]? =some (.loop r):=(hb2.block _ hrl).trans HR.out
  rw[hW2];clear hW2;have hxs2:=splitA_len 44 x
  have hTJ:∀(pre:List ByteArray) (Y Y':World),Turned (fun k=>sqS (X.heap.size+1) k\/k=W2.heap.size) Y Y'->PbI X.heap.size X pre Y->PbI X.heap.size X pre Y':=fun pre Y Y' ht h=>h.turned ht (fun k hk=>by
   rcases hk with hk|hk
   ·have:k=X.heap.size+1:=hk;omega
   omega)
  refine ajF (l₀:=w.heap.size+7) (r₀:=r) (by show some (W0.heap.size+1)=_;rw[hsz]) hr2 om (gf:=245) rfl trivial (enters_of func245 ot rfl)
   ((a8x 3 om (X.heap.size+1) 44 x om).inRound _) rfl
   (fun k hk=>by have:k=X.heap.size+1:=hk;omega) (fun k hk=>by have:k=X.heap.size+1\/k=X.heap.size+1+1\/k=X.heap.size+1+2:=hk;omega) (fun Y hY=>hsq2.below hY)
   (fun pre Y=>PbI X.heap.size X pre Y) (fun c _ Y=>PaX s w.heap.size w c Y/\∀k,(k=w.heap.size+7\/k=w.heap.size+6\/sqK (w.heap.size+3) k)->Y.heap[k]? =X.heap[k]?)
   hTJ
   (fun c pre Y Y' ht h=>⟨h.1.turned ht (fun k hk=>om),fun k hk=>(ht.block k fun hk'=>by
    have:k<X.heap.size:=by rcases hk with h|h|h|h|h<;>omega
    omega).trans (h.2 k hk)⟩)
   (fun Y hY hsY=>⟨[],.slice none 0 0,rfl,World.ownsRow_nil _ _ _ _,(hY.block _ om).trans hlb,hb2.trans (hY.mono om)⟩)
   (fun y=>ahk s w.heap.size X.heap.size x (.string y)) ?assign2 ?body2 ?done2 ?stop2
  case assign2=>
   intro l m y W K hK;gi_wp2;exact hK
  case body2=>
   intro pre2 y Y hpre2 hj hrr;obtain⟨tt,ov,hall,htab,hrows,hpaX,hbX⟩:=I0.out;obtain⟨ll,lv,hll,hrow,hlv,hby⟩:=hj;have hym:y∈splitA 44 x:=hpre2.subset oz;have hysz:y.size<=240:=by have:=ab1 hym;omega
   have hp2len:pre2.length+1<=241:=by have:=hpre2.length_le;simp at this;omega
   have hlen:=allS_len _ _ _ hll;have hYX:=hby.size;have hVY:Vars Y:=hV.below (hbX.trans (hby.mono om));have hpY:PaAt w.heap.size (.slice none 0 0) (.int .i64 0) ov Y:=hpaX.below hby;have A:=hid (atoi_any y Y om hVY);unfold GivesN at A;have HBX:=hid hbX;have HBY:=hid hby;cases hn:a8z y with
   |none=>
    have hraw:abK s=none:=allS_bad _ _ hmem (allS_bad _ _ hym hn);rw[hn]at A;have RAW:=hid hraw;have HSZ:=hid hsz2;obtain⟨rr,hrr⟩:=hrr;have hrl2:=(aog.1 hrr).1
    rw[hsz2]at hrl2;clear hrr;clear hn hraw hll hrow hlv hall htab hrows hlen hbX hby hVY hpaX hTI hTJ hsz2 hb2 hsq2 hlb hr2 hxs2 hb0 hsz;unfold ahk;gi_wp2_with fail
    refine⟨trivial,CallsIn.inRound _ (callsIn_wide.2 (A.out.mono ?_))⟩;rintro e w1 ⟨⟨m,N,rfl⟩,hb1⟩;have hp1:=hpY.below hb1;have c1:w1.cell? ⟨w.heap.size,0,none⟩=some (.slice none 0 0):=heap_cell hp1.r rfl;have c2:w1.cell? ⟨w.heap.size+1,0,none⟩=some (.int .i64 0):=heap_cell hp1.e rfl;have f1:w1.frozen? ⟨w.heap.size,0,none⟩=false:=by simp[World.frozen?,hp1.r]
    have f2:w1.frozen? ⟨w.heap.size+1,0,none⟩=false:=by simp[World.frozen?,hp1.e]
    have HP1:=hid hp1;have HB1:=hid hb1;clear hp1 hb1 hpY;gi_wp2;clear A c1 c2 f1 f2;have hb1:=HB1.out;have hp1:=HP1.out;have hby:=HBY.out;have hrl3:X.heap.size+4<Y.heap.size:=hrl2;have eq1:∀k,k≠w.heap.size->k≠w.heap.size+1->k<Y.heap.size->((w1.setCell ⟨w.heap.size,0,none⟩ (.slice none 0 0)).setCell ⟨w.heap.size+1,0,none⟩ (.int .i64 3)).heap[k]? =Y.heap[k]? :=fun k h1 h2 h3=>(set_other h2).trans ((set_other h1).trans (hb1.block k h3))
    have hX:=hby.size;have hnX:w.heap.size+7<X.heap.size:=hrl;refine⟨fun k hk=>eq1 k ?_ ?_ ?_,⟨rfl,RAW.out,?_,?_,?_⟩,fun k hk=>(eq1 k ?_ ?_ ?_).trans (hby.block k ?_)⟩
    ·rw[HSZ.out]at hk;rcases hk with h|h|h|h|h<;>omega
    ·rw[HSZ.out]at hk;rcases hk with h|h|h|h|h<;>omega
    ·rw[HSZ.out]at hk;rcases hk with h|h|h|h|h<;>omega
    ·exact(set_other om).trans (box_set hp1.r)
    ·exact box_set ((set_other om).trans hp1.e)
    ·exact((HBX.out.trans (hby.mono om)).trans (hb1.mono om)).setCell (p:=⟨w.heap.size,0,none⟩) (aof _) _ |>.setCell (p:=⟨w.heap.size+1,0,none⟩) (aoS _) _
    all_goals rcases hk with h|h|h|h|h<;>omega
   |some n=>
    rw[hn]at A;have HLL:=hid (show allS a8z (pre2++[y])=some (ll++[n]) by rw[allS_snoc,hll,hn]);have HSZ:=hid hsz2;have HLE:=hid hlen;have hll241:ll.length+1<=241:=om;obtain⟨rr,hrr⟩:=hrr;have hrl2:=(aog.1 hrr).1
    rw[hsz2]at hrl2;obtain⟨i0,hi0,hz0,hz1,hz2⟩:=info_parts Tryz.infoInt;obtain⟨la,lc,rfl,_⟩:=own_cells hrow;have HROW:=hid hrow;have HLV:=hid hlv;clear hrr hn hll hrow hlv hall htab hrows hlen hbX hby hVY hpaX hTI hTJ hsz2 hb2 hsq2 hlb hr2 hxs2 hb0 hsz hpY;unfold ahk;gi_wp2_with fail
    refine⟨trivial,CallsIn.inRound _ (callsIn_wide.2 (A.out.mono ?_))⟩;rintro e w1 ⟨rfl,hb1⟩;have hlv1:=(hb1.block _ (aog.1 HLV.out).1).trans HLV.out
    have c6:w1.cell? ⟨X.heap.size,0,none⟩=some (.slice la ll.length lc):=heap_cell hlv1 rfl;have HL1:=hid hlv1;have HB1:=hid hb1;have HO1:=hid (own_below HROW.out hb1);have hw1s:=hb1.size;clear hlv1 hb1;gi_wp2_with (gi_at_builtin;refine wpListIn_append_own _ rfl _ _ 122 rfl (X.heap.size+5) 3 i0 (.int .i64 0) 1 8 underlying122 hi0 hz0 hz1 hz2 rfl ox _ _ _ rfl (HO1.out.alloc _) ⟨w1.heap.size,0,none⟩ 1 1 [.int .i64 n] rfl rfl (a0h _ _ _) (by intro u hu;simp at hu;subst hu;rfl) (by unfold maxLen;omega) om km ?_)
    intro v' w2 hown' hgrow _;obtain⟨g',cap',rfl⟩:=ownsRow_succ hown';have hk2:=fun k=>aeb (k:=k) HO1.out hgrow;have hby1:=HBY.out.trans (HB1.out.mono HBY.out.size);have hbg:=a29 (B:=X.heap.size) hby1 om HO1.out om hgrow;have hl2:=(hk2 X.heap.size om om).trans HL1.out
    have c7:w2.cell? ⟨X.heap.size,0,none⟩=some (.slice la ll.length lc):=heap_cell hl2 rfl;have f7:w2.frozen? ⟨X.heap.size,0,none⟩=false:=by simp[World.frozen?,hl2]
    have HL2:=hid hl2;have HK2:=hid hk2;have HBG:=hid hbg;have HOW:=hid hown';clear hl2 hk2 hbg hown' hgrow hby1 c6;gi_wp2;clear A c7 f7;have hb1:=HB1.out;have hX:=HBY.out.size;have hw2s:=HBG.out.size;have hnX:w.heap.size+7<X.heap.size:=hrl;refine⟨fun k hk=>(set_other ?_).trans ((HK2.out k ?_ ?_).trans (hb1.block k ?_)),ll++[n],_,HLL.out,?_,box_set HL2.out,?_⟩
    ·rw[HSZ.out]at hk;rcases hk with h|h|h|h|h<;>omega
    ·rw[HSZ.out]at hk;rcases hk with h|h|h|h|h<;>omega
    ·rw[HSZ.out]at hk;rcases hk with h|h|h|h|h<;>omega
    ·rw[HSZ.out]at hk;rcases hk with h|h|h|h|h<;>omega
    ·have h:=a7n (b:=X.heap.size) (v:=.slice (some ⟨g',0,none⟩) (ll.length+1) cap') HOW.out om;rw[aol,aoE];exact h
    exact HBG.out.setCell (p:=⟨X.heap.size,0,none⟩) (aof _) _
  case done2=>
   intro Y hj hl0;obtain⟨tt,ov,hall,htab,hrows,hpaX,hbX⟩:=I0.out;obtain⟨ll,lv,hll,hrow,hlv,hby⟩:=hj;have hYX:=hby.size;have hlen:=allS_len _ _ _ hll;have htl:=allS_len _ _ _ hall;have hll241:ll.length<=241:=om;have htt241:tt.length+1<=241:=om;have HALL:=hid (show allS abJ (pre++[x])=some (tt++[ll]) by rw[allS_snoc,hall,show abJ x=some ll from hll])
   have hrows2:∀l∈tt++[ll],l.length<=241:=fun l hl=>by
    rcases aoI.1 hl with h|h
    ·exact hrows l h
    simp at h;subst h;exact hll241
   have HROWS:=hid hrows2;obtain⟨hds,hr1,hr2⟩:=htab.below hby;obtain⟨la,lc,rfl,_⟩:=own_cells hrow;obtain⟨oa,oc,rfl,_⟩:=own_cells hr1;have hpY:=hpaX.below hby;have c4:Y.cell? ⟨w.heap.size+2,0,none⟩=some (.slice oa tt.length oc):=heap_cell hpY.o rfl;have c6:Y.cell? ⟨X.heap.size,0,none⟩=some (.slice la ll.length lc):=heap_cell hlv rfl;obtain⟨i0,hi0,hz0,hz1,hz2⟩:=info_parts Tryz.infoInts;have HR1:=hid hr1;have HR2:=hid hr2;have HROW:=hid hrow;have HPY:=hid hpY;have HBX:=hid hbX;have HBY:=hid hby;have hds1:=hr1.1;have HS0:=hid hsz;clear hll hall htab hrows hpaX hbX hrow hlv hby hr1 hr2 hpY hrows2 hlen htl hTI hTJ hsz2 hb2 hsq2 hlb hxs2 hb0 hsz hl0 hxs;gi_wp2_with (gi_at_builtin;refine wpListIn_append_own _ rfl _ _ 168 rfl (w.heap.size+8) 122 i0 (.slice none 0 0) 1 24 underlying168 hi0 hz0 hz1 hz2 rfl ox _ _ _ rfl (HR1.out.alloc _) ⟨Y.heap.size,0,none⟩ 1 1 [.slice la ll.length lc] rfl rfl (a0h _ _ _) (by intro u hu;simp at hu;subst hu;rfl) (by unfold maxLen;omega) om km ?_)
   intro v' w2 hown' hgrow _;obtain⟨g',cap',rfl⟩:=ownsRow_succ hown';have hk2:=fun k=>aeb (k:=k) HR1.out hgrow;have hbg:=a29 (B:=w.heap.size) (HBX.out.trans (HBY.out.mono om)) om HR1.out om hgrow;have hp2:PaAt w.heap.size (.slice none 0 0) (.int .i64 0) (.slice oa tt.length oc) w2:=⟨(hk2 _ om om).trans HPY.out.r,(hk2 _ om om).trans HPY.out.e,(hk2 _ om om).trans HPY.out.o⟩
   have c7:w2.cell? ⟨w.heap.size+2,0,none⟩=some (.slice oa tt.length oc):=heap_cell hp2.o rfl;have f7:w2.frozen? ⟨w.heap.size+2,0,none⟩=false:=by simp[World.frozen?,hp2.o]
   have htab2:TabO (w.heap.size+8) (w2.setCell ⟨w.heap.size+2,0,none⟩ (.slice (some ⟨g',0,none⟩) (tt.length+1) cap')) (.slice (some ⟨g',0,none⟩) (tt.length+1) cap') (tt++[ll]):=by
    refine⟨hds++[.slice la ll.length lc],?_,fun j hj=>?_⟩
    ·have h:=a7n (b:=w.heap.size+2) (v:=.slice (some ⟨g',0,none⟩) (tt.length+1) cap') hown' om;rw[aol];exact h
    rw[aol]at hj;simp only[aom,aow]at hj;refine a7n ?_ om;rcases aoO.1 hj with h|rfl
    ·rw[a2n _ _ _ om,a2n _ _ _ h];exact a7o (HR2.out j h) HR1.out ox hgrow
    have e1:=a2o hds (.slice la ll.length lc) undef;have e2:=a2o tt ll [];rw[show hds.length=tt.length by omega]at e1;rw[e1,e2];exact a9J (a7o HROW.out HR1.out ox hgrow) om
   have HP2:=hid hp2;have HK2:=hid hk2;have HBG:=hid hbg;have HTAB:=hid htab2;clear hp2 hk2 hbg htab2 hown' hgrow c4 c6;gi_wp2;clear c7 f7;have hnX:w.heap.size+7<X.heap.size:=hrl;have hby:=HBY.out;refine⟨fun k hk=>(set_other ?_).trans ((HK2.out k ?_ ?_).trans (hby.block k ?_)),tt++[ll],_,HALL.out,HTAB.out,HROWS.out,⟨(set_other om).trans HP2.out.r,(set_other om).trans HP2.out.e,box_set HP2.out.o⟩,?_⟩
   ·rw[HS0.out]at hk;rcases hk with h|h|h|h|h<;>omega
   ·rw[HS0.out]at hk;rcases hk with h|h|h|h|h<;>omega
   ·rw[HS0.out]at hk;rcases hk with h|h|h|h|h<;>omega
   ·rw[HS0.out]at hk;rcases hk with h|h|h|h|h<;>omega
   exact HBG.out.setCell (p:=⟨w.heap.size+2,0,none⟩) (by show w.heap.size<=w.heap.size+2;omega) _
  case stop2=>
   intro c pre2 Y hpre2 hx hl0;obtain⟨⟨rfl,hx2⟩,hx3⟩:=hx;gi_wp2;refine⟨fun k hk=>hx3 k ?_,rfl,hx2⟩;rcases hk with h|h|h
   ·exact .inl om
   ·exact .inr (.inl om)
   exact .inr (.inr h)
 case done=>
  intro W hi hd;rw[hsz]at hd;obtain⟨tt,ov,hall,htab,hrows,hpaX,hbX⟩:=hi;have htl:=allS_len _ _ _ hall;have hraw:abK s=some tt:=hall;have hrw:=htab.rows om (fun l hl=>by have:=hrows l hl;omega);have c4:W.cell? ⟨w.heap.size+2,0,none⟩=some ov:=heap_cell hpaX.o rfl;have HRW:=hid hrw;have VA:=hid (valid_any ov tt W hrw);obtain⟨oa,oc,rfl,_⟩:=hrw;have HP:=hid hpaX;have HBX:=hid hbX;have HD:=hid hd;have HVW:=hid (hV.below hbX);have HRAW:=hid hraw;have c2:W.cell? ⟨w.heap.size,0,none⟩=some (.slice none 0 0):=heap_cell hpaX.r rfl;have c3:W.cell? ⟨w.heap.size+1,0,none⟩=some (.int .i64 0):=heap_cell hpaX.e rfl;have f2:W.frozen? ⟨w.heap.size,0,none⟩=false:=by simp[World.frozen?,hpaX.r]
  have f3:W.frozen? ⟨w.heap.size+1,0,none⟩=false:=by simp[World.frozen?,hpaX.e]
  have HTL:=hid htl;have HTAB:=hid htab;have HROWS:=hid hrows;have HS0:=hid hsz;clear hall htab hrows hpaX hbX hd hraw hTI hsq hb0 hpa hxs hsz htl;cases hv:vld tt with
  |false=>
   rw[hv]at VA;have HPAR:=hid (show parP s=none by unfold parP;rw[if_neg hs3,HRAW.out];simp[hv]);clear hv;gi_wp2_with fail
   refine⟨trivial,callsIn_wide.2 (VA.out.mono ?_)⟩;rintro e w' ⟨rfl,rfl⟩;gi_wp2;refine⟨trivial,?_⟩;gi_wp2;exact aec rfl rfl (HTAB.out.below (aoi _ _)) HP.out HBX.out HD.out HS0.out (by rw[HPAR.out];exact .inl ⟨rfl,rfl,rfl⟩)
  | true=>
   rw[hv]at VA;have TX:=hid (text_any (.slice oa tt.length oc) tt W HRW.out ((vld_iff tt).1 hv) HVW.out);have e0:a7l (a27 tt)= .string (bsB (a27 tt)):=rfl
   rw[e0]at TX;by_cases ht:a27 tt=s.data.toList
   ·have HPAR:=hid (show parP s=some tt by unfold parP;rw[if_neg hs3,HRAW.out];simp[hv,ht]);have hse:bsB (a27 tt)=s:=by rw[ht];apply a5x;simp[bsB]
    rw[hse]at TX;have hne:=ajG s;clear hv ht hse e0;gi_wp2_with fail
    refine⟨trivial,callsIn_wide.2 (VA.out.mono ?_)⟩;rintro e w' ⟨rfl,rfl⟩;gi_wp2_with fail
    refine⟨trivial,callsIn_wide.2 (TX.out.mono ?_)⟩;rintro e w1 ⟨rfl,hb1⟩;have hp1:=HP.out.below hb1;have d2:w1.cell? ⟨w.heap.size,0,none⟩=some (.slice none 0 0):=heap_cell hp1.r rfl;have d3:w1.cell? ⟨w.heap.size+1,0,none⟩=some (.int .i64 0):=heap_cell hp1.e rfl;have d4:w1.cell? ⟨w.heap.size+2,0,none⟩=some (.slice oa tt.length oc):=heap_cell hp1.o rfl;have g2:w1.frozen? ⟨w.heap.size,0,none⟩=false:=by simp[World.frozen?,hp1.r]
    have g3:w1.frozen? ⟨w.heap.size+1,0,none⟩=false:=by simp[World.frozen?,hp1.e]
    have HP1:=hid hp1;have HB1:=hid hb1;have HD1:=hid ((hb1.block _ (aog.1 HD.out).1).trans HD.out);clear hp1 hb1;gi_wp2;exact aec rfl rfl (HTAB.out.below HB1.out) HP1.out (HBX.out.trans (HB1.out.mono HBX.out.size)) HD1.out HS0.out (by rw[HPAR.out];exact .inr ⟨rfl,rfl,rfl,by have:=splitA_len 59 s;rw[HTL.out];omega,HROWS.out⟩)
   have HPAR:=hid (show parP s=none by unfold parP;rw[if_neg hs3,HRAW.out];simp[hv,ht])
   have hse:((bsB (a27 tt)).toList==s.toList)=false:=ba_lne (by
    intro e;exact ht (by rw[<-e];simp[bsB]))
   clear hv ht e0;gi_wp2_with fail
   refine⟨trivial,callsIn_wide.2 (VA.out.mono ?_)⟩;rintro e w' ⟨rfl,rfl⟩;gi_wp2_with fail
   refine⟨trivial,callsIn_wide.2 (TX.out.mono ?_)⟩;rintro e w1 ⟨rfl,hb1⟩;have hp1:=HP.out.below hb1;have d2:w1.cell? ⟨w.heap.size,0,none⟩=some (.slice none 0 0):=heap_cell hp1.r rfl;have d3:w1.cell? ⟨w.heap.size+1,0,none⟩=some (.int .i64 0):=heap_cell hp1.e rfl;have d4:w1.cell? ⟨w.heap.size+2,0,none⟩=some (.slice oa tt.length oc):=heap_cell hp1.o rfl;have g2:w1.frozen? ⟨w.heap.size,0,none⟩=false:=by simp[World.frozen?,hp1.r]
   have g3:w1.frozen? ⟨w.heap.size+1,0,none⟩=false:=by simp[World.frozen?,hp1.e]
   have HP1:=hid hp1;have HB1:=hid hb1;have HD1:=hid ((hb1.block _ (aog.1 HD.out).1).trans HD.out);clear hp1 hb1;gi_wp2;exact aec rfl rfl (HTAB.out.below HB1.out) HP1.out (HBX.out.trans (HB1.out.mono HBX.out.size)) HD1.out HS0.out (by rw[HPAR.out];exact .inl ⟨rfl,rfl,rfl⟩)
 case stop=>
  intro c pre W hpre hx hd;rw[hsz]at hd;obtain⟨rfl,hraw,h1,h2,h3⟩:=hx;have HPAR:=hid (show parP s=none by unfold parP;rw[if_neg hs3,hraw]);have HS0:=hid hsz;clear hTI hsq hb0 hpa hxs hsz hraw;gi_wp2;exact an1 rfl rfl h1 h2 h3 hd HS0.out (by rw[HPAR.out])
end Go.Proofs.YtdfkaijeppdhaaaGreatDoor.Td
namespace Go.Proofs.YtdfkaijeppdhaaaGreatDoor.Td
open Lib (hid)
open Proofs.Tryz Go.RowKit Go.Shelf
theorem tParse_any(s:ByteArray)(w:World)(hV:Vars w):Calls prog 149 #[.string s] w (a8A (parP s) w):=by
 by_cases hs:s.size<=240
 ·exact callsIn_wide.1 (ajH s w hV hs)
 have h1:(240:Int)<s.size:=om;have HP:=hid (show parP s=none by unfold parP;rw[if_pos om]);have hb:Below w.heap.size w ((w.alloc (.cells #[.slice none 0 0] 168)).alloc (.cells #[.int .i64 3] 25)):=((aoi _ w).alloc (aof _) _).alloc oz _
 rw[HP.out];have HB:=hid hb;clear hb;go_enter func149,ntmps149;go_wp2;refine bodyPost_ret (v:=.tuple #[.slice none 0 0,.int .i64 3]) (by simp[results,results149,go_sem]) rfl ?_;trace_state
 exact⟨_,rfl,a1K _,HB.out⟩
end Go.Proofs.YtdfkaijeppdhaaaGreatDoor.Td
