/- Part of the proof. -/
import Derived.Test.YtdfkaijeppdhaaaGreatDoorZHs41
set_option maxRecDepth 100000
set_option maxHeartbeats 8000000

namespace Go.Proofs.YtdfkaijeppdhaaaGreatDoor
open Lib (hid)
open Proofs.Tryz Go.RowKit Go.Shelf
attribute [local go_sem] Oper.semAt_some
def a6M(ops:Array Oper):Bool:=ops.all fun o=>match o.op with| .defer _=>false|_=>true
theorem ahY{ops:Array Oper}(h:a6M ops=true){i:Nat}{o:Oper}(ho:ops[i]? =some o):∀c,o.op≠ .defer c:=by
 intro c hc;unfold a6M at h;obtain⟨hi,rfl⟩:=aog.1 ho;have:=(Array.all_eq_true.1 h) i hi;rw[hc]at this;cases this
theorem ahZ{P:Program}{o:Oper}{a:Act}{next next' K:Act->World->Prop}{Q:Exit->Act->World->Prop}{n l:Nat}(hn:∀a w,next a w->next' a w){r:Result Next}
  (h:o.upon P a next (Exit.then K fun _ _ _=>False) r):o.uponIn (Fence.wide.inRound l) n P a next' Q r:=by
 have hd:∀m:Nat,(Fence.wide.inRound l).depth.isSome=true->1<=m:=fun m h=>by simp[Fence.wide]at h
 cases r with
 | ok x w'=>
  cases x<;>simp only[Oper.upon,Oper.uponIn]at h⊢
  case value v=>exact hn _ _ h
  case skip=>exact hn _ _ h
  case defer d=>exact hn _ _ h
  case enter f args=>
   refine⟨hd n,CallsIn.inRound l (callsIn_wide.2 (Calls.mono h fun e w'' he=>?_))⟩;cases e with
   |returned v=>exact hn _ _ he
   |panicked chain=>exact(he:False).elim
   |outgrown=>obtain⟨_,_,h'⟩:=he;exact(h':False).elim
  case row row args=>exact⟨hd n,fun c cs _=>let ⟨v,w'',r,s⟩:=h c cs;⟨v,w'',hn _ _ r,stepsIn_wide.2 s⟩⟩
 |halt x w'=>
  cases x<;>simp only[Oper.upon,Oper.uponIn]at h⊢
  exact(h:False).elim
theorem ai0{P:Program}{ops:Array Oper}{K next next':Act->World->Prop}{Q:Exit->Act->World->Prop}{n l i:Nat}{a:Act}{w:World}(hnd:a6M ops=true)(hn:∀a w,next a w->next' a w)
  (h:wpOp P ops (Exit.then K fun _ _ _=>False) i next a w):wpOpIn (Fence.wide.inRound l) n P ops Q i next' a w:=by
 unfold wpOp at h;unfold wpOpIn;cases ho:ops[i]? with
 |none=>rw[ho]at h;exact hn _ _ h
 | some o=>
  simp only[ho]at h⊢;split
  ·rename_i hw
   simp only[hw,if_true]at h;rcases h with h|⟨_,a',w',h'⟩
   ·refine⟨fun f _=>trivial,?_⟩;rw[Oper.semAt_eq _ _ _ (ahY hnd ho)];exact ahZ hn h
   exact(h':False).elim
  rename_i hw
  simp only[hw]at h;exact⟨fun f _=>trivial,hn _ _ h⟩
theorem a9m{P:Program}{md:Region.Mode}{ops:Array Oper}{K:Act->World->Prop}{Q:Exit->Act->World->Prop}{n l:Nat}(hnd:a6M ops=true)(hK:∀a w,K a w->Q .normal a w):
  ∀(fuel:Nat) (listed:Array Bool) (a:Act) (w:World),wpAny P md ops (Exit.then K fun _ _ _=>False) fuel listed a w->wpAnyIn (Fence.wide.inRound l) n P md ops Q fuel listed a w
 |0,_,_,_,h=>⟨h.1,hK _ _ h.2⟩
 |fuel+1,_,_,_,h=>⟨fun h0=>hK _ _ (h.1 h0),fun i hi=>ai0 hnd (fun a' w' h'=>a9m hnd hK fuel _ a' w' h') (h.2 i hi)⟩
theorem a8N{P:Program}{id n l:Nat}{ops:Array Oper}{K:Act->World->Prop}{Q:Exit->Act->World->Prop}{a:Act}{w:World}(S:World->Prop)(hm:P.follows .mixedOrders=true)(hnd:a6M ops=true)(hK:∀a w,K a w->Q .normal a w)
  (h:wpAnyH P .any ops (Exit.then K fun _ _ _=>False) S ops.size (Array.replicate ops.size false) a w.drew):(Code.region id ops true).wpIn (Fence.wide.inRound l) n P Q a w:=
 wpIn_region_any hm (a9m hnd hK _ _ _ _ (wpAny_of_held _ _ _ _ h))
theorem a8O(c:UInt8):∀(l:List UInt8) (k k':Nat),l.count c<=k->l.count c<=k'->a0l c k l=a0l c k' l
 |[],k,k',_,_=>by cases k<;>cases k'<;>rfl
 | b::r,k,k',h,h'=>by
  by_cases hb:b=c
  ·subst hb;rw[List.count_cons_self]at h h';obtain⟨k1,rfl⟩:∃k1,k=k1+1:=⟨k-1,om⟩
   obtain⟨k2,rfl⟩:∃k2,k'=k2+1:=⟨k'-1,om⟩
   have:=a8O b r k1 k2 om om;simp[a0l,this]
  have hbf:(b==c)=false:=by simpa using hb
  rw[List.count_cons_of_ne (by simpa using hb)]at h h'
  have key:∀k,List.count c r<=k->a0l c k (b::r)=match a0l c k r with|[]=>[[b]]|x::xs=>(b::x)::xs:=fun k _=>by
   cases k with
   |zero=>rw[a1p,a1p]
   |succ k=>
    simp[a0l,hbf];rfl
  rw[key k h,key k' h',a8O c r k k' h h']
theorem acR(c:UInt8):∀(k:Nat) (l:List UInt8),(a0l c k l).length<=k+1
 |0,l=>by rw[a1p];simp
 |k+1,l=>by
  rcases a4k c k l with⟨_,h⟩|⟨i,_,_,h⟩
  ·rw[h];simp
  rw[h,aom];have:=acR c k (l.drop (i+1));omega
theorem afF(y:ByteArray):Lib.splitB ⟨#[32]⟩ 0 (min 4 (y.size+1)-1) y=a1C 32 3 y:=by
 rw[a7L];unfold a1C;by_cases h:3<=y.size
 ·rw[show min 4 (y.size+1)-1=3 by omega]
 rw[a8O 32 y.data.toList (min 4 (y.size+1)-1) 3]
 ·have:=aq6 (a:=(32:UInt8)) (l:=y.data.toList);rw[<-a05]at this;omega
 have:=aq6 (a:=(32:UInt8)) (l:=y.data.toList);rw[<-a05]at this;omega
theorem ai1{c:UInt8}{k:Nat}{y x:ByteArray}(h:x∈a1C c k y):x.size<=y.size:=by
 unfold a1C at h;obtain⟨l,hl,rfl⟩:=ap1.1 h
 have key:∀(k:Nat) (m:List UInt8),l∈a0l c k m->l.length<=m.length:=by
  intro k;induction k with
  |zero=>intro m hm;rw[a1p]at hm;simp at hm;subst hm;exact aof _
  |succ k ih=>
   intro m hm;rcases a4k c k m with⟨_,h⟩|⟨i,_,_,h⟩
   ·rw[h]at hm;simp at hm;subst hm;exact aof _
   rw[h]at hm;rcases aov.1 hm with rfl|hm
   ·simp;omega
   have:=ih _ hm;simp at this;omega
 have h2:=key k _ hl;rw[a05 y];exact h2
def a6i(x:ByteArray):ByteArray:=bsB (a36 x.data.toList)
theorem am8(x:List UInt8):(a36 x).length<=x.length:=by
 unfold a36 Lib.trimSuffix;split
 ·simp
 exact aof _
theorem ai2(x:ByteArray):(a6i x).size<=x.size:=by
 rw[a05 x];exact am8 x.data.toList
theorem abl(s:ByteArray):(a1W s).map (fun x=>a36 x.data.toList)=a1S s.data.toList:=by
 unfold a1W;rw[apx,<-abj];rfl
theorem a7D:∀(l x:List UInt8),x∈a2J l->x.length<=l.length
 |[],x,h=>by simp[a2J]at h
 | b::r,x,h=>by
  unfold a2J at h;split at h
  ·rcases aov.1 h with rfl|h
   ·simp
   have:=a7D r x h;simp;omega
  split at h
  ·simp at h;subst h;simp
  rename_i y ys he
  rcases aov.1 h with rfl|h
  ·have:=a7D r y (by rw[he];simp);simp;omega
  have:=a7D r x (by rw[he];simp[h]);simp;omega
theorem ai3{s x:ByteArray}(h:x∈a1W s):x.size<=s.size:=by
 unfold a1W at h;obtain⟨l,hl,rfl⟩:=ap1.1 h;have h2:=a7D _ _ hl;rw[a05 s];exact h2
theorem a8P:∀(l1 l2:List (List UInt8)) (b:a00),a2y b (l1++l2)=(a2y b l1).bind fun c=>a2y c l2
 |[],l2,b=>rfl
 | x::l1,l2,b=>by
  simp only[aoA,a2y];cases a5Z (bsB x)with
  |none=>rfl
  |some e=>
   simp only;cases a3p b e with
   |none=>rfl
   |some c=>exact a8P l1 l2 c
def a3M(pre:List ByteArray):Option a00:=a2y a1G (pre.map fun x=>a36 x.data.toList)
def ai4(b:a00)(x:ByteArray):Option a00:=match a5Z (a6i x)with
 |none=>none
 |some e=>a3p b e
theorem ai5{pre:List ByteArray}{b:a00}(h:a3M pre=some b)(x:ByteArray):a3M (pre++[x])=ai4 b x:=by
 unfold a3M at h⊢;rw[aoE,a8P,h];simp only[Option.bind_some,aoJ,List.map_nil,a2y,ai4,a6i];cases a5Z (bsB (a36 x.data.toList))with
 |none=>rfl
 |some e=>
  simp only;cases a3p b e<;>rfl
theorem a8Q{s:ByteArray}{pre:List ByteArray}(hp:pre<+:a1W s)(h:a3M pre=none):a2y a1G (a1S s.data.toList)=none:=by
 obtain⟨r,hr⟩:=hp;rw[<-abl,<-hr,aoE,a8P];unfold a3M at h;rw[h];rfl
theorem akj{s:ByteArray}{b:a00}(h:a3M (a1W s)=some b):a2y a1G (a1S s.data.toList)=some b:=by
 rw[<-abl];exact h
def a5T(s:ByteArray)(w:World)(e:Ending)(w':World):Prop:=
 (match a2L s with
  |some b=>∃K vs,e= .returned (.tuple #[.pointer (some ⟨K,0,none⟩),.bool true])/\w.heap.size<=K/\BookIs w' K vs b/\(∀i,i<4->∀g,(vs i).ownBlock=some g->w.heap.size<=g)
  |none=>∃pv,e= .returned (.tuple #[pv,.bool false]))/\Below w.heap.size w w'
structure RdAt(n0:Nat)(vs:Nat->Value)(b:a00)(X:World):Prop where
 p:X.heap[n0]? =some (.cells #[.pointer none] 79 (0,0))
 ok:X.heap[n0+1]? =some (.cells #[.bool false] 4 (0,0))
 v:X.heap[n0+3]? =some (.cells #[.pointer (some ⟨n0+2,0,none⟩)] 79 (0,0))
 bk:BookIs X (n0+2) vs b
 far:∀i,i<4->∀g,(vs i).ownBlock=some g->n0+7<=g
theorem RdAt.keep{n0:Nat}{vs:Nat->Value}{b:a00}{X X':World}(h:RdAt n0 vs b X)(hk:∀k,(n0<=k/\k<=n0+3)\/n0+7<=k->k<X.heap.size->X'.heap[k]? =X.heap[k]?):RdAt n0 vs b X':=by
 have lt:∀{k o},X.heap[k]? =some o->k<X.heap.size:=fun h=>(aog.1 h).1
 exact⟨(hk _ (.inl om) (lt h.p)).trans h.p,(hk _ (.inl om) (lt h.ok)).trans h.ok,(hk _ (.inl om) (lt h.v)).trans h.v,
  h.bk.keep (hk _ (.inl om) h.bk.lt) (fun i hi k hg=>hk k (.inr (h.far i hi k hg)) ((h.bk.list i hi).lt hg)),h.far⟩
theorem RdAt.turned{S:Nat->Prop}{n0:Nat}{vs:Nat->Value}{b:a00}{X X':World}(h:RdAt n0 vs b X)(ht:Turned S X X')(hs:∀k,S k->n0+3<k/\k<n0+7):RdAt n0 vs b X':=
 h.keep fun k hk _=>ht.block k fun h9=>by have:=hs k h9;omega
theorem RdAt.below{n0:Nat}{vs:Nat->Value}{b:a00}{X X':World}(h:RdAt n0 vs b X)(hb:Below X.heap.size X X'):RdAt n0 vs b X':=
 h.keep fun k _ hl=>hb.block k hl
theorem RdAt.added{n0 p:Nat}{vs:Nat->Value}{b:a00}{e:Ent}{v':Value}{W W':World}(h:RdAt n0 vs b W)(hp:p<4)(hn:n0+7<=W.heap.size)(ha:Added (n0+2) p vs b e W v' W'):RdAt n0 (a1m vs p v') (a0H b p e) W':=by
 have lt:∀{k o},W.heap[k]? =some o->k<W.heap.size:=fun h=>(aog.1 h).1
 have nv:∀k,k<=n0+3->(vs p).ownBlock≠some k:=fun k hk e=>by have:=h.far p hp k e;omega
 have hfar:∀i,i<4->∀g,(a1m vs p v' i).ownBlock=some g->n0+7<=g:=fun i hi g hg=>by
  by_cases e:i=p
  ·subst e;rw[a0D]at hg;rcases ha.own with h5|⟨g',h5,h6⟩
   ·exact h.far i hi g (by rw[<-h5];exact hg)
   rw[h5]at hg;injection hg with hg;omega
  rw[a0m _ _ e]at hg;exact h.far i hi g hg
 refine⟨(ha.block _ (lt h.p) om (nv _ om)).trans h.p,(ha.block _ (lt h.ok) om (nv _ om)).trans h.ok,(ha.block _ (lt h.v) om (nv _ om)).trans h.v,⟨ha.cells,fun i hi=>?_,fun i j hi hj hij g hg hg2=>?_⟩,hfar⟩
 ·by_cases e:i=p
  ·subst e;rw[a0D];unfold a0H;rw[a3n];exact ha.new
  rw[a0m _ _ e];unfold a0H;rw[a2U _ _ e];exact ha.old i hi
 have new:∀j,j<4->j≠p->∀g,v'.ownBlock=some g->(vs j).ownBlock≠some g:=fun j hj e g hg h2=>by
  rcases ha.own with h5|⟨g',h5,h6⟩
  ·exact h.bk.apart p j hp hj (Ne.symm e) g (by rw[<-h5];exact hg) h2
  rw[h5]at hg;injection hg with hg
  have:=(h.bk.list j hj).lt h2;omega
 by_cases ei:i=p
 ·subst ei;rw[a0D]at hg;rw[a0m _ _ (Ne.symm hij)]at hg2;exact new j hj (Ne.symm hij) g hg hg2
 rw[a0m _ _ ei]at hg;by_cases ej:j=p
 ·subst ej;rw[a0D]at hg2;exact new i hi ei g hg2 hg
 rw[a0m _ _ ej]at hg2;exact h.bk.apart i j hi hj hij g hg hg2
def RdI(n0:Nat)(w:World)(pre:List ByteArray)(X:World):Prop:=
 ∃vs b,a3M pre=some b/\RdAt n0 vs b X/\Below n0 w X
def RdX(s:ByteArray)(n0:Nat)(w:World)(c:Code)(X:World):Prop:=
 c= .ret/\a2L s=none/\X.heap[n0]? =some (.cells #[.pointer none] 79 (0,0))/\X.heap[n0+1]? =some (.cells #[.bool false] 4 (0,0))/\Below n0 w X
theorem ai6{s:ByteArray}(h:a2y a1G (a1S s.data.toList)=none):a2L s=none:=by unfold a2L;rw[h]
theorem RdI.turned{S:Nat->Prop}{n0:Nat}{w:World}{pre:List ByteArray}{X X':World}(h:RdI n0 w pre X)(ht:Turned S X X')(hs:∀k,S k->n0+3<k/\k<n0+7):RdI n0 w pre X':=by
 obtain⟨vs,b,h1,h2,h3⟩:=h;exact⟨vs,b,h1,h2.turned ht hs,h3.trans (ht.below fun k hk=>by have:=hs k hk;omega)⟩
theorem RdX.turned{S:Nat->Prop}{s:ByteArray}{n0:Nat}{w:World}{c:Code}{X X':World}(h:RdX s n0 w c X)(ht:Turned S X X')(hs:∀k,S k->n0+1<k):RdX s n0 w c X':=by
 obtain⟨h1,h2,h3,h4,h5⟩:=h;exact⟨h1,h2,(ht.block _ fun hk=>by have:=hs _ hk;omega).trans h3,(ht.block _ fun hk=>by have:=hs _ hk;omega).trans h4,h5.trans (ht.below fun k hk=>by have:=hs k hk;omega)⟩
theorem box_set{X:World}{b:Nat}{u v:Value}{T:TypeId}{fr:Nat×Nat}(h:X.heap[b]? =some (.cells #[u] T fr)):(X.setCell ⟨b,0,none⟩ v).heap[b]? =some (.cells #[v] T fr):=by
 obtain⟨hlt,hk⟩:=aog.1 h;show (X.heap.modify b _)[b]? =_;rw[aoD (by rw[apm];exact hlt),ap0,hk];simp
theorem set_other{X:World}{b k:Nat}{v:Value}(h:k≠b):(X.setCell ⟨b,0,none⟩ v).heap[k]? =X.heap[k]? :=aok _ _ _ _ h
theorem a9Z{s:ByteArray}{n0 m:Nat}{vs:Nat->Value}{b:a00}{w X Y:World}(hm:m=n0+5)(hY:RdAt n0 vs b Y)(hB:Below n0 w Y)(hk:∀k,k<X.heap.size->n0+3<k->k<n0+7->Y.heap[k]? =X.heap[k]?)(hX:n0+7<=X.heap.size)(hno:a2y a1G (a1S s.data.toList)=none):
  (∀k,(k=m+1\/k=m\/lnS (n0+4) k)->((Y.setCell ⟨n0,0,none⟩ (.pointer none)).setCell ⟨n0+1,0,none⟩ (.bool false)).heap[k]? =X.heap[k]?)/\
   RdX s n0 w .ret ((Y.setCell ⟨n0,0,none⟩ (.pointer none)).setCell ⟨n0+1,0,none⟩ (.bool false)):=by
 refine⟨fun k hk2=>?_,rfl,ai6 hno,(set_other om).trans (box_set hY.p),box_set ((set_other om).trans hY.ok),?_⟩
 ·have h9:k=n0+4\/k=n0+5\/k=n0+6:=by
   rcases hk2 with h|h|h
   ·omega
   ·omega
   have:k=n0+4:=h;omega
  exact(set_other om).trans ((set_other om).trans (hk k om om om))
 exact(hB.setCell (p:=⟨n0,0,none⟩) (aof _) _).setCell (p:=⟨n0+1,0,none⟩) (by show n0<=n0+1;omega) _
def amm(s:ByteArray)(n0:Nat)(x5 x15:Value):Act:=
 { tmps:=#[.string s,undef,.pointer (some ⟨n0,0,none⟩),.pointer (some ⟨n0+1,0,none⟩),.pointer (some ⟨n0+3,0,none⟩),x5,undef,undef,undef,undef,undef,
   .agg #[.slice none 0 0,.slice none 0 0,.slice none 0 0,.slice none 0 0],.pointer (some ⟨n0+2,0,none⟩),.string s,.func (.func 125) #[] #[.pointer (some ⟨n0+4,0,none⟩)],x15,
   undef,undef,undef,undef,undef,undef,undef,undef,undef,undef,undef,undef,undef,undef,undef,undef,undef,undef,undef,undef,undef,undef,undef,undef,
   undef,undef,undef,undef,undef,undef,undef,undef,undef,undef,undef,undef,undef,undef,undef,undef,undef],defers:=[]}
theorem adc{W:World}{K:Nat}{a b c:Value}{t:TypeId}(h:W.heap[K]? =some (.cells #[a,b,c] t (0,0)))(i:Nat)(v:Value):(W.setCell ⟨K,i,none⟩ v).heap[K]? =some (.cells (#[a,b,c].setIfInBounds i v) t (0,0)):=by
 obtain⟨hlt,hk⟩:=aog.1 h;show (W.heap.modify K _)[K]? =_;rw[aoD (by rw[apm];exact hlt),ap0,hk];simp
theorem afG{n0 p:Nat}{vs:Nat->Value}{b:a00}{e:Ent}{v':Value}{w W W':World}(h:RdAt n0 vs b W)(hp:p<4)(hB:Below n0 w W)(hn:n0+7<=W.heap.size)(ha:Added (n0+2) p vs b e W v' W'):Below n0 w W':=
 hB.trans ⟨ha.os,ha.tape,ha.output,ha.size,fun k hk=>ha.block k om om (fun e=>by have:=h.far p hp k e;omega)⟩
def adf(q:Nat->Int)(k:Nat):Array Value:=#[.int .i64 (if 0<k then q 0 else 0),.int .i64 (if 1<k then q 1 else 0),.int .i64 (if 2<k then q 2 else 0)]
theorem ai7(q:Nat->Int){k:Nat}(hk:k<3):(adf q k).setIfInBounds k (.int .i64 (q k))=adf q (k+1):=by
 rcases (show k=0\/k=1\/k=2 by omega)with rfl|rfl|rfl<;>rfl
structure NumI(z:Nat->ByteArray)(q:Nat->Int)(B:Nat)(X:World)(k:Nat)(Y:World):Prop where
 row:Y.heap[B]? =some (.cells (adf q k) 165 (0,0))
 got:∀j,j<k->a0S (z j)=some (q j)
 below:Below B X Y
theorem NumI.cell{z:Nat->ByteArray}{q:Nat->Int}{B:Nat}{X Y:World}{k:Nat}(h:NumI z q B X k Y){j:Nat}(hj:j<3):Y.cell? ⟨B,j,none⟩=some (.int .i64 (if j<k then q j else 0)):=by
 rcases (show j=0\/j=1\/j=2 by omega)with rfl|rfl|rfl<;>exact heap_cell h.row rfl
theorem NumI.frozen{z:Nat->ByteArray}{q:Nat->Int}{B:Nat}{X Y:World}{k:Nat}(h:NumI z q B X k Y)(j:Nat):Y.frozen? ⟨B,j,none⟩=false:=by
 simp[World.frozen?,h.row]
theorem NumI.next{z:Nat->ByteArray}{q:Nat->Int}{B:Nat}{X Y Y':World}{k:Nat}(h:NumI z q B X k Y)(hk:k<3)(hb:Below Y.heap.size Y Y')(hB:B<=Y.heap.size)(hq:a0S (z k)=some (q k)):NumI z q B X (k+1) (Y'.setCell ⟨B,k,none⟩ (.int .i64 (q k))):=by
 refine⟨?_,fun j hj=>?_,(h.below.trans (hb.mono hB)).setCell (p:=⟨B,k,none⟩) (aof _) _⟩
 ·have h2:=(hb.block _ (aog.1 h.row).1).trans h.row
  unfold adf at h2;rw[adc h2 k,<-ai7 q hk];rfl
 by_cases e:j=k
 ·subst e;exact hq
 exact h.got j om
def SxW(n0 B1 B2:Nat)(q:Nat->Int)(z3:ByteArray)(W:World):Prop:=
 W.cell? ⟨n0+3,0,none⟩=some (.pointer (some ⟨n0+2,0,none⟩))/\W.cell? ⟨B2,0,none⟩=some (.int .i64 (q 0))/\W.cell? ⟨B2,1,none⟩=some (.int .i64 (q 1))/\W.cell? ⟨B2,2,none⟩=some (.int .i64 (q 2))/\W.cell? ⟨B1,3,none⟩=some (.string z3)
theorem SxW.kept{n0 B1 B2:Nat}{q:Nat->Int}{z3:ByteArray}{W W':World}(h:SxW n0 B1 B2 q z3 W)(h1:W'.heap[n0+3]? =W.heap[n0+3]?)(h2:W'.heap[B2]? =W.heap[B2]?)(h3:W'.heap[B1]? =W.heap[B1]?):SxW n0 B1 B2 q z3 W':=by
 have key:∀{b j v},W'.heap[b]? =W.heap[b]? ->W.cell? ⟨b,j,none⟩=some v->W'.cell? ⟨b,j,none⟩=some v:=fun hb hc=>by
  unfold World.cell? at hc⊢;simp only[hb];exact hc
 exact⟨key h1 h.1,key h2 h.2.1,key h2 h.2.2.1,key h2 h.2.2.2.1,key h3 h.2.2.2.2⟩
theorem afH{w:World}{a b c d:ByteArray}{N:Nat}{t:TypeId}:
  (w.alloc (.cells (Lib.cellsOf [a,b,c,d] N) t)).heap[w.heap.size]? =some (.cells (Lib.cellsOf [a,b,c,d] N) t (0,0)):=World.alloc_heap_new w _
theorem ai8{n0:Nat}{W:World}{tm:Array Value}{r e:Value}(t2:tm[2]?.getD undef= .pointer (some ⟨n0,0,none⟩))(t3:tm[3]?.getD undef= .pointer (some ⟨n0+1,0,none⟩))
  (k1:W.cell? ⟨n0,0,none⟩=some r)(k2:W.cell? ⟨n0+1,0,none⟩=some e):(results Tryz.f66 tm).run prog W= .ok (.tuple #[r,e]) W:=by
 simp[results,Tryz.f66,go_sem,t2,t3,k1,k2]
theorem akk{s:ByteArray}{m:Nat}{w W:World}{r e:Value}{tm:Array Value}(t2:tm[2]?.getD undef= .pointer (some ⟨w.heap.size,0,none⟩))(t3:tm[3]?.getD undef= .pointer (some ⟨w.heap.size+1,0,none⟩))
  (h1:W.heap[w.heap.size]? =some (.cells #[r] 79 (0,0)))(h2:W.heap[w.heap.size+1]? =some (.cells #[e] 4 (0,0)))
  (hD:W.heap[w.heap.size+5]? =some (.deferred (some [])))(h0:m=w.heap.size+5)
  (h:a5T s w (.returned (.tuple #[r,e])) (W.putObj (w.heap.size+5) (.deferred none))):
  bodyPostM Fence.wide 6 prog Tryz.f66 (a5T s w) .ret {tmps:=tm,defers:=[{target:=.collected m,args:=#[]}]} W:=by
 rw[h0];refine⟨by simp,.inl ⟨_,_,rfl,run_takeDeferred hD,?_⟩⟩;have k1:(W.putObj (w.heap.size+5) (.deferred none)).cell? ⟨w.heap.size,0,none⟩=some r:=heap_cell ((World.putObj_heap_other om).trans h1) rfl
 have k2:(W.putObj (w.heap.size+5) (.deferred none)).cell? ⟨w.heap.size+1,0,none⟩=some e:=heap_cell ((World.putObj_heap_other om).trans h2) rfl
 exact⟨.tuple #[r,e],ai8 t2 t3 k1 k2,h⟩
def SyW(n0:Nat)(W:World):Prop:=W.cell? ⟨n0+3,0,none⟩=some (.pointer (some ⟨n0+2,0,none⟩))
theorem anu(s:ByteArray)(w:World)(hV:Vars w)(hs:s.size<=4000000000):
  CallsIn Fence.wide 6 prog 66 #[.string s] w (a5T s w):=by
 refine callsIn_of_wp_marks func66 rfl trivial ?_ rfl;simp only[ntmps66,ape,aom,aow,Nat.reduceAdd,Nat.reduceSub,ap3,ap4,apf,ap7,aoM,aoA];gi_wp2_with fail
 refine⟨trivial,callsIn_wide.2 ((aki s _).mono ?_)⟩;rintro e w' ⟨rfl,rfl⟩;gi_wp2_with fail
 obtain⟨W0,hW0⟩:∃W0,((((w.alloc (.cells #[.pointer none] 79)).alloc (.cells #[.bool false] 4)).alloc (.cells #[.slice none 0 0,.slice none 0 0,.slice none 0 0,.slice none 0 0] 96)).alloc (.cells #[.pointer (some ⟨w.heap.size+1+1,0,none⟩)] 79)).alloc (.cells #[.string s] 9)=W0:=⟨_,rfl⟩
 have hsz:W0.heap.size=w.heap.size+5:=by rw[<-hW0];simp
 have hb0:Below w.heap.size w W0:=by
  rw[<-hW0];exact(((((aoi _ w).alloc (aof _) _).alloc oz _).alloc km _).alloc km _).alloc km _
 have hln:LnAt (w.heap.size+4) s W0:=by
  have h:=am7 s ((((w.alloc (.cells #[.pointer none] 79)).alloc (.cells #[.bool false] 4)).alloc (.cells #[.slice none 0 0,.slice none 0 0,.slice none 0 0,.slice none 0 0] 96)).alloc (.cells #[.pointer (some ⟨w.heap.size+1+1,0,none⟩)] 79));rw[<-hW0];simpa using h
 have hrd:RdAt w.heap.size (fun _=>.slice none 0 0) a1G W0:=by
  have h1:(w.alloc (.cells #[.pointer none] 79)).heap[w.heap.size]? =some (.cells #[.pointer none] 79 (0,0)):=World.alloc_heap_new w _
  have h2:=World.alloc_heap_new (w.alloc (.cells #[.pointer none] 79)) (.cells #[.bool false] 4);have h3:=World.alloc_heap_new ((w.alloc (.cells #[.pointer none] 79)).alloc (.cells #[.bool false] 4)) (.cells #[.slice none 0 0,.slice none 0 0,.slice none 0 0,.slice none 0 0] 96);have h4:=World.alloc_heap_new (((w.alloc (.cells #[.pointer none] 79)).alloc (.cells #[.bool false] 4)).alloc (.cells #[.slice none 0 0,.slice none 0 0,.slice none 0 0,.slice none 0 0] 96)) (.cells #[.pointer (some ⟨w.heap.size+1+1,0,none⟩)] 79);simp only[aoq]at h2 h3 h4;have k:∀(A:World) (o:Obj) (b:Nat) (x:Obj),A.heap[b]? =some x->(A.alloc o).heap[b]? =some x:=fun A o b x h=>(aop _ _ _ (aog.1 h).1).trans h
  rw[<-hW0]
  exact⟨k _ _ _ _ (k _ _ _ _ (k _ _ _ _ (k _ _ _ _ h1))),k _ _ _ _ (k _ _ _ _ (k _ _ _ _ h2)),k _ _ _ _ h4,
   ⟨k _ _ _ _ (k _ _ _ _ h3),fun i hi=>World.ownsRow_nil _ _ _ _,fun i j hi hj hij g hg=>by simp[Value.ownBlock]at hg⟩,fun i hi g hg=>by simp[Value.ownBlock]at hg⟩
 rw[hW0];clear hW0
 have hTI:∀(pre:List ByteArray) (X X':World),Turned (fun k=>lnS (w.heap.size+4) k\/k=W0.heap.size+1) X X'->RdI w.heap.size w pre X->RdI w.heap.size w pre X':=fun pre X X' ht h=>h.turned ht (fun k hk=>by
  rcases hk with hk|hk
  ·have:k=w.heap.size+4:=hk;omega
  omega)
 refine acs rfl om (gf:=125) rfl trivial (enters_of func125 ot rfl)
  (akh 5 om (w.heap.size+4) s om) rfl
  (fun k hk=>by have:k=w.heap.size+4:=hk;omega) (fun k hk=>by have:k=w.heap.size+4:=hk;omega) (fun X hX=>hln.below hX)
  (fun pre X=>RdI w.heap.size w pre X) (fun c _ X=>RdX s w.heap.size w c X)
  hTI
  (fun c pre X X' ht h=>h.turned ht (fun k hk=>om))
  (fun X hX hsX=>⟨fun _=>.slice none 0 0,a1G,rfl,hrd.below hX,hb0.trans (hX.mono om)⟩)
  (fun x=>amm s w.heap.size (.string x) (.string x)) ?assign ?body ?done ?stop
 case assign=>
  intro l m x W K hK;gi_wp2;exact hK
 case body=>
  intro pre x X hpre hi hr hd;obtain⟨r,hr⟩:=hr;rw[hsz]at hr hd;have hrl:w.heap.size+6<X.heap.size:=(aog.1 hr).1
  have hmem:x∈a1W s:=hpre.subset oz;have hxs:=ai3 hmem;have hys:=ai2 x;obtain⟨vs,b,hsf,hat,hbX⟩:=hi;have HSN:=hid (ai5 hsf x);have HOK:=hid (a6S _ a4b hsf);have HVX:=hid (hV.below hbX);obtain⟨m,hm⟩:=HVX.out.ml;have PRE:=hid hpre;have HAT:=hid hat;have HBX:=hid hbX;have HTS:=hid (Tryz.strings_TrimSuffix x ⟨#[10]⟩ X om);have e0:(.string ⟨(Lib.trimSuffix x.data.toList (⟨#[10]⟩:ByteArray).data.toList).toArray⟩:Value)= .string (a6i x):=rfl
  rw[e0]at HTS;have HSPL:=hid (Tryz.strings_SplitN (a6i x) ⟨#[32]⟩ 4 m X om hm ox ox ox);rw[afF]at HSPL;unfold ai4 at HSN;unfold a5Z at HSN;have hmw:∀z,z∈a1C 32 3 (a6i x)->z.size<=4000000000:=fun z hz=>by have:=ai1 hz;omega
  have hl4:(a1C 32 3 (a6i x)).length<=4:=by unfold a1C;rw[aoB];exact acR 32 3 _
  generalize hy:a6i x=y at *;generalize hN:min 4 (y.size+1)=N at *;generalize hws:a1C 32 3 y=ws at *;clear hln hrd hsf hat hbX hTI hm hN hy hws;unfold amm;by_cases hlen:ws.length<4
  ·have hno:a3M (pre++[x])=none:=by
    rw[HSN.out];rcases ws with _|⟨a,_|⟨b',_|⟨c,_|⟨d,r⟩⟩⟩⟩<;>first|rfl|(simp at hlen;omega)
   have HNO:=hid (a8Q PRE.out hno);have hlt:((ws.length:Nat):Int)<4:=om;clear hno hpre hr hd;gi_wp2_with fail
   refine⟨trivial,CallsIn.inRound _ (callsIn_wide.2 (HTS.out.mono ?_))⟩;rintro e X' ⟨rfl,hX'⟩;obtain rfl:=hX'.symm;gi_wp2_with fail
   refine⟨trivial,CallsIn.inRound _ (callsIn_wide.2 (HSPL.out.mono ?_))⟩;rintro e X1 ⟨rfl,hX1⟩;have HB1:Hid (Below X.heap.size X X1):=hid (by rw[hX1];exact(aoi _ X).alloc (aof _) _);clear hX1;have HA1:=hid (HAT.out.below HB1.out);have c2:(X1).cell? ⟨w.heap.size,0,none⟩=some (.pointer none):=heap_cell (HA1.out).p rfl
   have c3:(X1).cell? ⟨w.heap.size+1,0,none⟩=some (.bool false):=heap_cell (HA1.out).ok rfl
   have f2:(X1).frozen? ⟨w.heap.size,0,none⟩=false:=by simp[World.frozen?,(HA1.out).p]
   have f3:(X1).frozen? ⟨w.heap.size+1,0,none⟩=false:=by simp[World.frozen?,(HA1.out).ok]
   gi_wp2;exact a9Z hsz HA1.out (HBX.out.trans (HB1.out.mono HBX.out.size)) (fun k h1 _ _=>HB1.out.block k h1) hrl HNO.out
  obtain⟨z0,z1,z2,z3,rfl⟩:∃z0 z1 z2 z3,ws=[z0,z1,z2,z3]:=by
   rcases ws with _|⟨a,_|⟨b',_|⟨c,_|⟨d,_|⟨e,r⟩⟩⟩⟩⟩
   ·simp at hlen
   ·simp at hlen
   ·simp at hlen
   ·simp at hlen
   ·exact⟨_,_,_,_,rfl⟩
   simp at hl4
  obtain⟨z,hz⟩:∃z:Nat->ByteArray,z=fun j=>if j=0 then z0 else if j=1 then z1 else if j=2 then z2 else z3:=⟨_,rfl⟩
  obtain⟨q,hq⟩:∃q:Nat->Int,q=fun j=>(a0S (z j)).getD 0:=⟨_,rfl⟩
  have HQ:Hid (∀j n,a0S (z j)=some n->q j=n):=hid (fun j n h=>by rw[hq];simp[h])
  have HZS:Hid (∀j,j<4->(z j).size<=4000000000):=hid (fun j hj=>by
   rw[hz];rcases (show j=0\/j=1\/j=2\/j=3 by omega)with rfl|rfl|rfl|rfl<;>exact hmw _ oz)
  have HSN2:Hid (a3M (pre++[x])=match a0S (z 0),a0S (z 1),a0S (z 2)with|some p,some n,some k=>a3p b (p,n,k,z 3)|_,_,_=>none):=hid (by
   rw[HSN.out,show z 0=z0 by rw[hz];rfl,show z 1=z1 by rw[hz];rfl,show z 2=z2 by rw[hz];rfl,show z 3=z3 by rw[hz];rfl];show (match (match a0S z0,a0S z1,a0S z2 with|some p,some n,some k=>some (p,n,k,z3)|_,_,_=>none)with|none=>none|some e=>a3p b e)=_;cases a0S z0<;>cases a0S z1<;>cases a0S z2<;>rfl)
  have HCW:Hid (∀j,j<4->(X.alloc (.cells (Lib.cellsOf [z0,z1,z2,z3] N) 9)).cell? ⟨X.heap.size,j,none⟩=some (.string (z j))):=hid (fun j hj=>by
   refine heap_cell afH ?_;rw[hz];rcases (show j=0\/j=1\/j=2\/j=3 by omega)with rfl|rfl|rfl|rfl<;>simp[Lib.cellsOf])
  have HOKB:Hid (a02 b):=hid HOK.out;clear HSN hz hq hlen hl4 hmw hpre hr hd;gi_wp2_with fail
  refine⟨trivial,CallsIn.inRound _ (callsIn_wide.2 (HTS.out.mono ?_))⟩;rintro e X' ⟨rfl,hX'⟩;obtain rfl:=hX'.symm;gi_wp2_with fail
  refine⟨trivial,CallsIn.inRound _ (callsIn_wide.2 (HSPL.out.mono ?_))⟩;rintro e X1 ⟨rfl,hX1⟩;have HB1:Hid (Below X.heap.size X X1):=hid (by rw[hX1];exact(aoi _ X).alloc (aof _) _);have HC1:Hid (∀j,j<4->X1.cell? ⟨X.heap.size,j,none⟩=some (.string (z j))):=hid (by rw[hX1];exact HCW.out);have hX1s:X1.heap.size=X.heap.size+1:=by rw[hX1];simp
  have HXS:=hid hX1s;clear hX1 HCW HSPL HTS hX1s;have HA1:=hid (HAT.out.below HB1.out);simp only[aom,aow,Nat.reduceAdd];gi_wp2_with fail
  obtain⟨X2,hX2⟩:∃X2,X2=X1.alloc (.cells #[.int .i64 0,.int .i64 0,.int .i64 0] 165):=⟨_,rfl⟩
  have HN0:Hid (NumI z q X1.heap.size X1 0 X2):=hid (by
   rw[hX2];exact⟨World.alloc_heap_new X1 _,fun j hj=>om,(aoi _ X1).alloc (aof _) _⟩)
  rw[<-hX2];clear hX2;gi_loopw [22] (fun i wr=>∃k:Nat,k<=3/\i= .int .i64 k/\Hid (NumI z q X1.heap.size X1 k wr)) (fun i _=>3-(intOf i).toNat)
  case atStart=>exact⟨0,om,rfl,HN0⟩
  case round=>
   obtain⟨k,hk,rfl,HI⟩:=hrel;have HBW:Hid (Below X.heap.size X wr):=hid (HB1.out.trans (HI.out.below.mono (by have:=HXS.out;omega)));have HAW:=hid (HAT.out.below HBW.out);have hws2:X1.heap.size<wr.heap.size:=(aog.1 HI.out.row).1
   by_cases hlt:k<3
   ·have cw:wr.cell? ⟨X.heap.size,k,none⟩=some (.string (z k)):=keep_cell HI.out.below (HC1.out k om);have HAI:=hid (atoi_any (z k) wr (by have:=HZS.out k om;omega) (HVX.out.below HBW.out));cases hn:a0S (z k)with
    | none=>
     unfold GivesN at HAI;rw[hn]at HAI
     have hno:a3M (pre++[x])=none:=by
      rw[HSN2.out];rcases (show k=0\/k=1\/k=2 by omega)with rfl|rfl|rfl<;>rw[hn]<;>first|rfl|(cases a0S (z 0)<;>first|rfl|(cases a0S (z 1)<;>rfl))
     have HNO:=hid (a8Q PRE.out hno);clear hno hn;gi_wp2_with fail
     refine⟨trivial,CallsIn.inRound _ (callsIn_wide.2 (HAI.out.mono ?_))⟩;rintro e w1 ⟨⟨m1,m2,rfl⟩,hb1⟩;have HB2:=hid (HBW.out.trans (hb1.mono HBW.out.size));clear hb1;have HA2:=hid (HAT.out.below HB2.out);have c2:(w1).cell? ⟨w.heap.size,0,none⟩=some (.pointer none):=heap_cell (HA2.out).p rfl
     have c3:(w1).cell? ⟨w.heap.size+1,0,none⟩=some (.bool false):=heap_cell (HA2.out).ok rfl
     have f2:(w1).frozen? ⟨w.heap.size,0,none⟩=false:=by simp[World.frozen?,(HA2.out).p]
     have f3:(w1).frozen? ⟨w.heap.size+1,0,none⟩=false:=by simp[World.frozen?,(HA2.out).ok]
     gi_wp2;exact a9Z hsz HA2.out (HBX.out.trans (HB2.out.mono HBX.out.size)) (fun k h1 _ _=>HB2.out.block k h1) hrl HNO.out
    | some n=>
     unfold GivesN at HAI;rw[hn]at HAI;have hqn:=HQ.out k n hn
     have HN2:Hid (∀w1,Below wr.heap.size wr w1->NumI z q X1.heap.size X1 (k+1) (w1.setCell ⟨X1.heap.size,k,none⟩ (.int .i64 n))):=hid (fun w1 hb1=>by
      have h:=HI.out.next hlt hb1 om (by rw[hn,hqn]);rw[hqn]at h;exact h)
     have dv:=HI.out.cell hlt;have fv:=HI.out.frozen k;clear hn hqn;gi_wp2_with fail
     refine⟨trivial,CallsIn.inRound _ (callsIn_wide.2 (HAI.out.mono ?_))⟩;rintro e w1 ⟨rfl,hb1⟩;have dv1:=keep_cell hb1 dv
     have fv1:w1.frozen? ⟨X1.heap.size,k,none⟩=false:=by
      have:=(hb1.block _ hws2).trans HI.out.row
      simp[World.frozen?,this]
     have HN3:=hid (HN2.out w1 hb1);clear hb1;gi_wp2;go_roundw
     case rel=>exact⟨k+1,om,by go_num,HN3⟩
     case measure=>simp[intOf];omega
   obtain rfl:k=3:=om
   have HSN3:Hid (a3M (pre++[x])=a3p b (q 0,q 1,q 2,z 3)):=hid (by
    rw[HSN2.out,HI.out.got 0 om,HI.out.got 1 om,HI.out.got 2 om])
   have hS:SxW w.heap.size X.heap.size X1.heap.size q (z 3) wr:=by
    refine⟨heap_cell HAW.out.v rfl,?_,?_,?_,keep_cell HI.out.below (HC1.out 3 om)⟩
    ·exact HI.out.cell (j:=0) om
    ·exact HI.out.cell (j:=1) om
    exact HI.out.cell (j:=2) om
   have r0:∀W,SxW w.heap.size X.heap.size X1.heap.size q (z 3) W->W.cell? ⟨w.heap.size+3,0,none⟩=some (.pointer (some ⟨w.heap.size+2,0,none⟩)):=fun W h=>h.1;have r1:∀W,SxW w.heap.size X.heap.size X1.heap.size q (z 3) W->W.cell? ⟨X1.heap.size,0,none⟩=some (.int .i64 (q 0)):=fun W h=>h.2.1;have r2:∀W,SxW w.heap.size X.heap.size X1.heap.size q (z 3) W->W.cell? ⟨X1.heap.size,1,none⟩=some (.int .i64 (q 1)):=fun W h=>h.2.2.1;have r3:∀W,SxW w.heap.size X.heap.size X1.heap.size q (z 3) W->W.cell? ⟨X1.heap.size,2,none⟩=some (.int .i64 (q 2)):=fun W h=>h.2.2.2.1;have r4:∀W,SxW w.heap.size X.heap.size X1.heap.size q (z 3) W->W.cell? ⟨X.heap.size,3,none⟩=some (.string (z 3)):=fun W h=>h.2.2.2.2;have hHeld:SxW w.heap.size X.heap.size X1.heap.size q (z 3) wr.drew:=hS.kept rfl rfl rfl;have HSX:=hid hHeld;have HAD:Hid (RdAt w.heap.size vs b wr.drew):=hid (HAW.out.keep fun _ _ _=>rfl);have HADD:=hid (a5B (w.heap.size+2) vs b (q 0,q 1,q 2,z 3) wr.drew HAD.out.bk HOKB.out);have HBD:Hid (Below w.heap.size w wr.drew):=hid ((HBX.out.trans (HBW.out.mono HBX.out.size)).drew);have HBWD:Hid (Below X.heap.size X wr.drew):=hid HBW.out.drew;have hwd:X1.heap.size<wr.drew.heap.size:=hws2;clear hS;by_cases hf:follows b (q 0,q 1,q 2,z 3)=true
   ·rw[if_pos hf]at HADD;have HNX:Hid (a3M (pre++[x])=some (a0H b (q 0).toNat (q 0,q 1,q 2,z 3))):=hid (by rw[HSN3.out];unfold a3p;rw[if_pos hf];rfl)
    have HP4:Hid ((q 0).toNat<4):=hid (by
     rw[a1B]at hf;have h1:=hf.1;have h2:=hf.2.1;simp only[a07]at h1 h2;omega)
    clear hf;gi_wp2;refine a8N (SxW w.heap.size X.heap.size X1.heap.size q (z 3)) ot ot (fun _ _ h=>h) ?_;refine tk [0,1,2,3,4,5,6,7,8,9,10] ?_;repeat (refine tkC hHeld (h:=?_);apply exq;(· intro W3 hS3;go_simp;try rfl);try simp only[gS])
    with_reducible refine tkE ?_
    refine wpAnyH_ready (rs:=[11]) ot oz ?_;refine AllReadyH.cons rfl (fun K hK=>?_) AllReadyH.nil;go_simp;refine HADD.out.mono ?_;rintro e w2 ⟨rfl,v',hA⟩;have hne:∀k,w.heap.size+2≠k->(∀g,(vs (q 0).toNat).ownBlock=some g->g≠k)->k<wr.drew.heap.size->w2.heap[k]? =wr.drew.heap[k]? :=fun k h1 h2 h3=>hA.block k h3 (fun e=>h1 e.symm) (fun e=>h2 k e rfl);have hfar:∀g,(vs (q 0).toNat).ownBlock=some g->w.heap.size+7<=g:=fun g hg=>HAD.out.far _ HP4.out g hg
    have hlow:∀g,(vs (q 0).toNat).ownBlock=some g->g<X.heap.size:=fun g hg=>(HAT.out.bk.list _ HP4.out).lt hg
    have hXS:=HXS.out;have HSX2:=hid (HSX.out.kept (hne (w.heap.size+3) om (fun g hg=>by have:=hfar g hg;omega) om) (hne X1.heap.size om (fun g hg=>by have:=hlow g hg;omega) om) (hne X.heap.size om (fun g hg=>by have:=hlow g hg;omega) om));have HA2:Hid (RdAt w.heap.size (a1m vs (q 0).toNat v') (a0H b (q 0).toNat (q 0,q 1,q 2,z 3)) w2):=hid (HAD.out.added HP4.out om hA);have HB2:Hid (Below w.heap.size w w2):=hid (afG HAD.out HP4.out HBD.out om hA);have HK2:Hid (∀k,w.heap.size+4<=k->k<w.heap.size+7->w2.heap[k]? =X.heap[k]?):=hid (fun k h1 h2=>(hne k om (fun g hg=>by have:=hfar g hg;omega) om).trans (HBWD.out.block k om));clear hne hfar hlow hA hXS;dsimp only;refine hK.out _ _ HSX2.out (fun hHeld=>?_);clear hK K;try simp only[Act.put,aoF,aoU,aoN]
    refine tk [12] ?_;repeat (refine tkC hHeld (h:=?_);apply exq;(· intro W3 hS3;go_simp;try rfl);try simp only[gS])
    with_reducible refine tkE ?_
    refine wpAnyH_done ot ?_ _;simp only[Exit.then];clear r0 r1 r2 r3 r4 hHeld;gi_wp2;refine⟨fun k hk=>HK2.out k ?_ ?_,_,_,HNX.out,HA2.out,HB2.out⟩
    ·rcases hk with h|h|h
     ·omega
     ·omega
     have:k=w.heap.size+4:=h;omega
    rcases hk with h|h|h
    ·omega
    ·omega
    have:k=w.heap.size+4:=h;omega
   rw[if_neg hf]at HADD;have hno:a3M (pre++[x])=none:=by rw[HSN3.out];unfold a3p;rw[if_neg hf]
   have HNO:=hid (a8Q PRE.out hno);clear hf hno;gi_wp2;refine a8N (SxW w.heap.size X.heap.size X1.heap.size q (z 3)) ot ot (fun _ _ h=>h) ?_;refine tk [0,1,2,3,4,5,6,7,8,9,10] ?_;repeat (refine tkC hHeld (h:=?_);apply exq;(· intro W3 hS3;go_simp;try rfl);try simp only[gS])
   with_reducible refine tkE ?_
   refine wpAnyH_ready (rs:=[11]) ot oz ?_;refine AllReadyH.cons rfl (fun K hK=>?_) AllReadyH.nil;go_simp;refine HADD.out.mono ?_;rintro e w2 ⟨rfl,hb2⟩
   have hlt2:∀{k v j},wr.drew.cell? ⟨k,j,none⟩=some v->k<wr.drew.heap.size:=fun {k v j} h=>by
    rcases Nat.lt_or_ge k wr.drew.heap.size with h9|h9
    ·exact h9
    unfold World.cell? at h;rw[show wr.drew.heap[(⟨k,j,none⟩:Addr).block]? =none from apz h9]at h;cases h
   have HSX2:=hid (HSX.out.kept (hb2.block _ (hlt2 HSX.out.1)) (hb2.block _ (hlt2 HSX.out.2.1)) (hb2.block _ (hlt2 HSX.out.2.2.2.2)));have HA2:=hid (HAD.out.below hb2);have HB2:=hid (HBWD.out.trans (hb2.mono (by have:=HBW.out.size;exact this)));clear hb2 hlt2;dsimp only;refine hK.out _ _ HSX2.out (fun hHeld=>?_);clear hK K;try simp only[Act.put,aoF,aoU,aoN]
   refine tk [12] ?_;repeat (refine tkC hHeld (h:=?_);apply exq;(· intro W3 hS3;go_simp;try rfl);try simp only[gS])
   with_reducible refine tkE ?_
   refine wpAnyH_done ot ?_ _;simp only[Exit.then];clear r0 r1 r2 r3 r4 hHeld;have c2:(w2).cell? ⟨w.heap.size,0,none⟩=some (.pointer none):=heap_cell (HA2.out).p rfl
   have c3:(w2).cell? ⟨w.heap.size+1,0,none⟩=some (.bool false):=heap_cell (HA2.out).ok rfl
   have f2:(w2).frozen? ⟨w.heap.size,0,none⟩=false:=by simp[World.frozen?,(HA2.out).p]
   have f3:(w2).frozen? ⟨w.heap.size+1,0,none⟩=false:=by simp[World.frozen?,(HA2.out).ok]
   gi_wp2;exact a9Z hsz HA2.out (HBX.out.trans (HB2.out.mono HBX.out.size)) (fun k h1 _ _=>HB2.out.block k h1) hrl HNO.out
 case done=>
  intro W hi hd;rw[hsz]at hd;obtain⟨vs,b,hsf,hat,hbW⟩:=hi;have hok:=a6S _ a4b hsf;have HRL:=hid (akj hsf);have HD:=hid hd;have HBW:=hid hbW;have HAT:=hid hat;have HV2:=hid (hV.below hbW);have hv:=heap_cell (j:=0) hat.v rfl;clear hd hTI hrd hln hbW hat;have r0:∀W,SyW w.heap.size W->W.cell? ⟨w.heap.size+3,0,none⟩=some (.pointer (some ⟨w.heap.size+2,0,none⟩)):=fun W h=>h;have hS:SyW w.heap.size W.drew:=hv;have HSY:=hid hS;have HAD:Hid (RdAt w.heap.size vs b W.drew):=hid (HAT.out.keep fun _ _ _=>rfl);have HTX:=hid (text_any (w.heap.size+2) _ b W.drew HAD.out.bk.at hok (HV2.out.below (aoi _ W).drew));gi_wp2_with fail
  refine wpIn_wide.2 ?_;refine wp_region_noPanic ?_;refine wp_region_held_drew (S:=SyW w.heap.size) ot hS (fun hHeld=>?_);refine tk [0,1,3] ?_;repeat (refine tkC hHeld (h:=?_);apply exq;(· intro W3 hS3;go_simp;try rfl);try simp only[gS])
  with_reducible refine tkE ?_
  refine wpAnyH_ready (rs:=[2]) ot oz ?_;refine AllReadyH.cons rfl (fun K hK=>?_) AllReadyH.nil;go_simp;refine HTX.out.mono ?_;rintro e w2 ⟨rfl,hb2⟩;have HSY2:Hid (SyW w.heap.size w2):=hid (keep_cell hb2 HSY.out);have HA2:=hid (HAD.out.below hb2);have HB2:Hid (Below w.heap.size w w2):=hid ((HBW.out.drew).trans (hb2.mono (by have:=HBW.out.size;exact this)));have HD2:Hid (w2.heap[w.heap.size+5]? =some (.deferred (some []))):=hid ((hb2.block _ (aog.1 HD.out).1).trans HD.out);clear hb2;have c2:(w2).cell? ⟨w.heap.size,0,none⟩=some (.pointer none):=heap_cell (HA2.out).p rfl
  have c3:(w2).cell? ⟨w.heap.size+1,0,none⟩=some (.bool false):=heap_cell (HA2.out).ok rfl
  have f2:(w2).frozen? ⟨w.heap.size,0,none⟩=false:=by simp[World.frozen?,(HA2.out).p]
  have f3:(w2).frozen? ⟨w.heap.size+1,0,none⟩=false:=by simp[World.frozen?,(HA2.out).ok]
  have f4:(w2.setCell ⟨w.heap.size,0,none⟩ (.pointer (some ⟨w.heap.size+2,0,none⟩))).frozen? ⟨w.heap.size+1,0,none⟩=false:=by
   have:=(set_other (X:=w2) (v:=.pointer (some ⟨w.heap.size+2,0,none⟩)) (show w.heap.size+1≠w.heap.size by omega)).trans HA2.out.ok
   simp[World.frozen?,this]
  have c4:(w2.setCell ⟨w.heap.size,0,none⟩ (.pointer (some ⟨w.heap.size+2,0,none⟩))).cell? ⟨w.heap.size+1,0,none⟩=some (.bool false):=
   heap_cell ((set_other (X:=w2) (v:=.pointer (some ⟨w.heap.size+2,0,none⟩)) (show w.heap.size+1≠w.heap.size by omega)).trans HA2.out.ok) rfl
  dsimp only;refine hK.out _ _ HSY2.out (fun hHeld=>?_);clear hK K;try simp only[Act.put,aoF,aoU,aoN]
  refine wpAnyH_take (i:=4) (v:=.bool (decide (a0z b=s))) rfl ot ot ot (fun _ _ _ h=>h) (Or.inl ⟨by rfl,fun W3 hS3=>?take⟩) hHeld ?_
  case take=>
   go_simp;rw[a54]
  try simp only[Act.put,apB,aoP,apd,aoF,aoU,aoN]
  have HRB:Hid (a2L s=if a0z b=s then some b else none):=hid (by unfold a2L;rw[HRL.out])
  have hn1:SyW w.heap.size (w2.setCell ⟨w.heap.size,0,none⟩ (.pointer (some ⟨w.heap.size+2,0,none⟩))):=by
   have h9:=(set_other (X:=w2) (v:=.pointer (some ⟨w.heap.size+2,0,none⟩)) (show w.heap.size+3≠w.heap.size by omega)).trans HA2.out.v
   exact heap_cell h9 rfl
  have hn2:SyW w.heap.size ((w2.setCell ⟨w.heap.size,0,none⟩ (.pointer (some ⟨w.heap.size+2,0,none⟩))).setCell ⟨w.heap.size+1,0,none⟩ (.bool (decide (a0z b=s)))):=by
   have h9:=(set_other (X:=w2.setCell ⟨w.heap.size,0,none⟩ (.pointer (some ⟨w.heap.size+2,0,none⟩))) (v:=.bool (decide (a0z b=s))) (show w.heap.size+3≠w.heap.size+1 by omega)).trans ((set_other (X:=w2) (v:=.pointer (some ⟨w.heap.size+2,0,none⟩)) (show w.heap.size+3≠w.heap.size by omega)).trans HA2.out.v)
   exact heap_cell h9 rfl
  have HS1:=hid hn1;have HS2:=hid hn2;clear hn1 hn2;refine wpAnyH_ready (rs:=[5]) ot oz ?_;refine AllReadyH.cons rfl (fun K hK=>?_) AllReadyH.nil;go_simp;refine hK.out _ _ HS1.out (fun hHeld=>?_);clear hK K;try simp only[Act.put,aoF,aoU,aoN]
  refine wpAnyH_ready (rs:=[6]) ot oz ?_;refine AllReadyH.cons rfl (fun K hK=>?_) AllReadyH.nil;go_simp;refine hK.out _ _ HS2.out (fun hHeld=>?_);clear hK K;try simp only[Act.put,aoF,aoU,aoN]
  refine wpAnyH_done ot ?_ _;refine NoPanic.normal ?_;simp only[Exit.then];clear hHeld c2 c3 c4 f2 f3 f4 r0 hS hv;gi_wp2;obtain⟨W5,hW5⟩:∃W5,W5=((w2.setCell ⟨w.heap.size,0,none⟩ (.pointer (some ⟨w.heap.size+2,0,none⟩))).setCell ⟨w.heap.size+1,0,none⟩ (.bool (decide (a0z b=s)))):=⟨_,rfl⟩
  have hoth:∀k,k≠w.heap.size->k≠w.heap.size+1->W5.heap[k]? =w2.heap[k]? :=fun k h1 h2=>by
   rw[hW5];exact(set_other h2).trans (set_other h1)
  have hp:W5.heap[w.heap.size]? =some (.cells #[.pointer (some ⟨w.heap.size+2,0,none⟩)] 79 (0,0)):=by
   rw[hW5];exact(set_other om).trans (box_set HA2.out.p)
  have hk:W5.heap[w.heap.size+1]? =some (.cells #[.bool (decide (a0z b=s))] 4 (0,0)):=by
   rw[hW5];exact box_set ((set_other om).trans HA2.out.ok)
  have hB5:Below w.heap.size w W5:=by
   rw[hW5];exact(HB2.out.setCell (p:=⟨w.heap.size,0,none⟩) (aof _) _).setCell (p:=⟨w.heap.size+1,0,none⟩) (by show w.heap.size<=w.heap.size+1;omega) _
  rw[<-hW5];have ht:=a2u (S:=fun k=>k=w.heap.size+5) W5 (w.heap.size+5) (.deferred none) rfl;refine akk ?t2 ?t3 hp hk ((hoth _ om om).trans HD2.out) rfl ⟨?rp,hB5.trans (ht.below fun k hk=>om)⟩;case t2=>rfl
  case t3=>rfl
  rw[HRB.out];by_cases he:a0z b=s
  ·rw[if_pos he];refine⟨_,vs,by rw[decide_eq_true he],om,HA2.out.bk.keep ?_ ?_,fun i hi g hg=>by have:=HA2.out.far i hi g hg;omega⟩
   ·exact(ht.block _ (fun h=>om)).trans (hoth _ om om)
   intro i hi g hg;have:=HA2.out.far i hi g hg;exact(ht.block _ (fun h=>om)).trans (hoth _ om om)
  rw[if_neg he];exact⟨_,by rw[decide_eq_false he]⟩
 case stop=>
  intro c pre W hpre hx hd;rw[hsz]at hd;obtain⟨rfl,hno,h1,h2,h3⟩:=hx;gi_wp2;have ht:=a2u (S:=fun k=>k=w.heap.size+5) W (w.heap.size+5) (.deferred none) rfl;exact akk rfl rfl h1 h2 hd hsz ⟨by rw[hno];exact⟨_,rfl⟩,h3.trans (ht.below fun k hk=>om)⟩
theorem am9(s:ByteArray)(w:World)(hV:Vars w)(hs:s.size<=4000000000):Calls prog 66 #[.string s] w (a5T s w):=callsIn_wide.1 (anu s w hV hs)
end Go.Proofs.YtdfkaijeppdhaaaGreatDoor
namespace Go.Proofs.YtdfkaijeppdhaaaGreatDoor
open Lib (hid)
open Proofs.Tryz Go.RowKit Go.Shelf
def a3X(b:a00)(s:ByteArray):Int×a00:=match a2L s with
 |some c=>a0L b c
 |none=>(3,b)
theorem ama{b:a00}(hb:a02 b)(s:ByteArray):a02 (a3X b s).2:=by
 unfold a3X;cases h:a2L s with
 |none=>exact hb
 |some c=>exact a5C hb (a6T h).1
theorem TurnPost.ahead{w0 w:World}{P n:Nat}{F:List Nat}{r:Int×a00}(hb:Below w0.heap.size w0 w){e:Ending}{w':World}(h:TurnPost P n F r w e w'):TurnPost P n F r w0 e w':=by
 obtain⟨he,F',h1,h2,h3⟩:=h;exact⟨he,F',h1,fun k hk=>(h2 k hk).imp id (fun h=>aor hb.size h),⟨h3.os.trans hb.os,h3.tape.trans hb.tape,h3.output.trans hb.output,aor hb.size h3.size,fun k hk hn=>(h3.block k (aox hk hb.size) hn).trans (hb.block k hk)⟩⟩
theorem akl(P n:Nat)(F:List Nat)(b:a00)(s:ByteArray)(hs:s.size<=4000000000)(w:World)(h:PostAt w P F n b)(hok:a02 b)(hV:Vars w):
  Calls prog 44 #[.pointer (some ⟨P,0,none⟩),.string s] w (TurnPost P n F (a3X b s) w):=by
 obtain⟨K,vs,hP,hvs,hF⟩:=h.parts;have HN:=hid (a0T P K n _ w hP);have HR:=hid (am9 s w hV hs);have HP:=hid h;have HOK:=hid hok;clear h hP hvs hF hok hV;unfold a5T at HR;unfold a3X;cases hr:a2L s with
 |none=>
  rw[hr]at HR;simp only at HR;clear hr;go_enter func44,ntmps44;go_wp2_with fail
  refine HN.out.mono ?_;rintro e w' ⟨rfl,rfl⟩;go_wp2_with fail
  refine HR.out.mono ?_;rintro e w1 ⟨⟨pv,rfl⟩,hb⟩;go_wp2;go_ret;exact⟨rfl,F,HP.out.below hb,a2e _ _,Off.of_below hb⟩
 |some c=>
  have HC:=hid (a6T hr).1
  rw[hr]at HR;simp only at HR;clear hr;go_enter func44,ntmps44;go_wp2_with fail
  refine HN.out.mono ?_;rintro e w' ⟨rfl,rfl⟩;go_wp2_with fail
  refine HR.out.mono ?_;rintro e w1 ⟨⟨K2,vs2,rfl,_,hbk,_⟩,hb⟩;have HT:=hid (adH P n F b K2 vs2 c w1 (HP.out.below hb) hbk HOK.out HC.out);have HB:=hid hb;clear hbk hb;go_wp2_with fail
  refine HT.out.mono ?_;rintro e w2 h;have HH:=hid (TurnPost.ahead HB.out h);obtain⟨rfl,_⟩:=h;go_wp2;go_ret;exact HH.out
end Go.Proofs.YtdfkaijeppdhaaaGreatDoor
