/- Part of the proof. -/
import Derived.Test.YtdfkaijeppdhaaaGreatDoorZHs44
import Derived.Test.YtdfkaijeppdhaaaGreatDoorZHs45
set_option maxRecDepth 100000
set_option maxHeartbeats 8000000

namespace Go.Proofs.YtdfkaijeppdhaaaGreatDoor
open Go.RowKit Go.Shelf
theorem amb(b:a00){c d:a00}(h:BookEq c d):(a0L b c).1=(a0L b d).1/\BookEq (a0L b c).2 (a0L b d).2:=by
 have hc:(a0R (b 0) (c 0)&&a0R (b 1) (c 1)&&a0R (b 2) (c 2)&&a0R (b 3) (c 3))=(a0R (b 0) (d 0)&&a0R (b 1) (d 1)&&a0R (b 2) (d 2)&&a0R (b 3) (d 3)):=by
  rw[h 0 om,h 1 om,h 2 om,h 3 om]
 unfold a0L a3T;rw[hc];by_cases hd:(a0R (b 0) (d 0)&&a0R (b 1) (d 1)&&a0R (b 2) (d 2)&&a0R (b 3) (d 3))=true
 ·rw[if_pos hd,if_pos hd];exact⟨rfl,fun i hi=>by show a1g (b i) (c i)=a1g (b i) (d i);rw[h i hi]⟩
 rw[if_neg hd,if_neg hd];exact⟨rfl,fun _ _=>rfl⟩
theorem acU(b:a00)(s:ByteArray):(a2P s=none/\a3X b s=(3,b))\/∃c,a2P s=some c/\a02 c/\(a3X b s).1=(a0L b c).1/\BookEq (a0L b c).2 (a3X b s).2:=by
 unfold a3X;rcases aj8 s with⟨h1,h2⟩|⟨d,c,h1,h2,_,hc,he⟩
 ·rw[h1];exact .inl ⟨h2,rfl⟩
 rw[h1];have h3:=amb b he;exact .inr ⟨c,h2,hc,h3.1,h3.2.symm⟩
theorem aib{b:a00}(hb:a02 b):(a0z b).size<=48000:=by
 have h1:=a88 (l:=a06 b) (fun e he=>a6o ⟨(a0y hb he).1,(a0y hb he).2.1,(a0y hb he).2.2.1⟩ (a0y hb he).2.2.2);have h2:(a06 b).length<=240:=by rw[a1j];exact a1X hb
 rw[a05];show (a0Q (a06 b)).length<=48000
 have h3:=apC 200 h2;omega
section
variable{base:Nat}{w w':World}{m r:Nat}{P n R k:Nat->Nat}{B C C':Nat->a00}{X:List Nat}
theorem RpAt.req{w:World}{R n:Nat}{G:List Nat}{b c:a00}(h:RpAt w R n G b)(hb:BookEq b c):RpAt w R n G c:=by
 obtain⟨vs,h1,h2⟩:=h;exact⟨vs,⟨h1.1,fun i hi=>by rw[<-hb i hi];exact h1.2 i hi⟩,fun i hi h0=>h2 i hi (by rw[hb i hi];exact h0)⟩
theorem DuoL.req(h:DuoL base w X m P n B r R k C)(hb:∀j,j<r->BookEq (C j) (C' j)):DuoL base w X m P n B r R k C':=by
 obtain⟨F,G,h0⟩:=h;exact⟨F,G,h0.posts,h0.low,h0.ok,fun j hj=>(h0.refs j hj).req (hb j hj),h0.rlow,fun j hj=>⟨(hb j hj).ok (h0.rok j hj).1,(h0.rok j hj).2⟩,h0.one,h0.off,h0.roff,h0.lt,h0.free,h0.size,h0.side⟩
theorem DuoL.less{g:Nat}(h:DuoL base w (g::X) m P n B r R k C):DuoL base w X m P n B r R k C:=by
 obtain⟨F,G,h0⟩:=h;exact⟨F,G,h0.posts,h0.low,h0.ok,h0.refs,h0.rlow,h0.rok,h0.one,h0.off,h0.roff,h0.lt,h0.free,h0.size,fun q hq=>h0.side q (List.mem_cons_of_mem _ hq)⟩
end
theorem ArrAt.set{w:World}{g:Nat}{t:TypeId}{P:Nat->Nat}(h:ArrAt w g t P){i:Nat}(hi:i<4)(x:Nat):ArrAt (w.setCell ⟨g,i,none⟩ (.pointer (some ⟨x,0,none⟩))) g t (upN P i x):=by
 unfold ArrAt;rw[a0K h];congr 1;unfold upN;rcases (show i=0\/i=1\/i=2\/i=3 by omega)with rfl|rfl|rfl|rfl<;>simp
theorem ArrAt.frozen{w:World}{g:Nat}{t:TypeId}{P:Nat->Nat}(h:ArrAt w g t P)(j:Nat):w.frozen? ⟨g,j,none⟩=false:=by
 have h9:w.heap[g]? =_:=h;simp[World.frozen?,h9]
theorem ArrAt.keep{w w':World}{g:Nat}{t:TypeId}{P:Nat->Nat}(h:ArrAt w g t P)(hk:w'.heap[g]? =w.heap[g]?):ArrAt w' g t P:=hk.trans h
structure StI(base ga gb:Nat)(P R n:Nat->Nat)(B C:Nat->a00)(w0 wr:World):Prop where
 duo:DuoL base wr (gb::ga::X4 base) 4 P n B 4 R n C
 arrP:ArrAt wr ga 45 P
 arrR:ArrAt wr gb 47 R
 bel:Below base w0 wr
 low:base<=ga/\base<=gb/\ga≠gb
def adg(x:a5v):Obj:=.cells #[.int .u8 x.1,.int .u8 x.2.1,.int .u8 x.2.2.1,.string x.2.2.2] 75
structure StR(base ga gb gx:Nat)(P R n:Nat->Nat)(B C:Nat->a00)(x:a5v)(w0 wr:World):Prop where
 st:StI base ga gb P R n B C w0 wr
 x:wr.heap[gx]? =some (.cells #[.int .u8 x.1,.int .u8 x.2.1,.int .u8 x.2.2.1,.string x.2.2.2] 75 (0,0))
 nx:gx≠ga/\gx≠gb
theorem aeP:¬a3a 75:=by unfold a3a a3e;decide
theorem acV:¬a3a 52:=by unfold a3a a3e;decide
section
variable{base ga gb gx:Nat}{P R n P' R' n':Nat->Nat}{B C B' C':Nat->a00}{x:a5v}{w0 wr w':World}
theorem StI.turn(h:StI base ga gb P R n B C w0 wr)(hd:DuoL base w' (gb::ga::X4 base) 4 P n B' 4 R n C')(hk:Kid base wr w'):StI base ga gb P R n B' C' w0 w':=
 ⟨hd,h.arrP.kid hk a9D,h.arrR.kid hk a9E,h.bel.trans (hk.below h.duo.size),h.low⟩
theorem StR.turn(h:StR base ga gb gx P R n B C x w0 wr)(hd:DuoL base w' (gb::ga::X4 base) 4 P n B' 4 R n C')(hk:Kid base wr w'):StR base ga gb gx P R n B' C' x w0 w':=
 ⟨h.st.turn hd hk,hk.keep h.x aeP,h.nx⟩
theorem StR.below(h:StR base ga gb gx P R n B C x w0 wr)(hb:Below wr.heap.size wr w'):StR base ga gb gx P R n B C x w0 w':=h.turn (h.st.duo.below hb) (Kid.of_below hb)
theorem StI.step(h:StI base ga gb P R n B C w0 wr)(x:a5v):StR base ga gb wr.heap.size P R n B C x w0 (wr.alloc (adg x)):=by
 have hb:Below wr.heap.size wr (wr.alloc (adg x)):=(aoi _ _).alloc (aof _) _
 have h1:=(aog.1 h.arrP).1
 have h2:=(aog.1 h.arrR).1
 exact⟨h.turn (h.duo.below hb) (Kid.of_below hb),World.alloc_heap_new wr _,om,om⟩
theorem StR.ff(h:StR base ga gb gx P R n B C x w0 wr){p q:Nat}(hp:p<4)(hq:q<4):∀W,KD base wr W->
  W.cell? ⟨ga,p,none⟩=some (.pointer (some ⟨P p,0,none⟩))/\W.cell? ⟨ga,q,none⟩=some (.pointer (some ⟨P q,0,none⟩))/\W.cell? ⟨gb,p,none⟩=some (.pointer (some ⟨R p,0,none⟩))/\W.cell? ⟨gb,q,none⟩=some (.pointer (some ⟨R q,0,none⟩))/\
  W.cell? ⟨gx,0,none⟩=some (.int .u8 x.1)/\W.cell? ⟨gx,1,none⟩=some (.int .u8 x.2.1)/\W.cell? ⟨gx,2,none⟩=some (.int .u8 x.2.2.1)/\W.cell? ⟨gx,3,none⟩=some (.string x.2.2.2):=fun W hk=>by
 have hx:=Kid.keep hk h.x aeP;exact⟨(h.st.arrP.kid hk a9D).cell hp,(h.st.arrP.kid hk a9D).cell hq,(h.st.arrR.kid hk a9E).cell hp,(h.st.arrR.kid hk a9E).cell hq,heap_cell hx rfl,heap_cell hx rfl,heap_cell hx rfl,heap_cell hx rfl⟩
theorem StR.setP(h:StR base ga gb gx P R n B C x w0 wr){q a:Nat}{k:Nat->Nat}(hq:q<4)(hd:DuoL base wr (gb::ga::X4 base) 4 (upN P q a) n' B' 4 R k C'):
  DuoL base (wr.setCell ⟨ga,q,none⟩ (.pointer (some ⟨a,0,none⟩))) (gb::ga::X4 base) 4 (upN P q a) n' B' 4 R k C'/\ArrAt (wr.setCell ⟨ga,q,none⟩ (.pointer (some ⟨a,0,none⟩))) ga 45 (upN P q a)/\
  ArrAt (wr.setCell ⟨ga,q,none⟩ (.pointer (some ⟨a,0,none⟩))) gb 47 R/\Below base w0 (wr.setCell ⟨ga,q,none⟩ (.pointer (some ⟨a,0,none⟩)))/\
  (wr.setCell ⟨ga,q,none⟩ (.pointer (some ⟨a,0,none⟩))).heap[gx]? =some (.cells #[.int .u8 x.1,.int .u8 x.2.1,.int .u8 x.2.2.1,.string x.2.2.2] 75 (0,0)):=
 ⟨hd.setX oz _ _,h.st.arrP.set hq a,h.st.arrR.keep (aok _ _ _ _ (by simpa using Ne.symm h.st.low.2.2)),h.st.bel.setCell (p:=⟨ga,q,none⟩) h.st.low.1 _,(aok _ _ _ _ (by simpa using h.nx.1)).trans h.x⟩
def a4v:Obj:=.cells #[.slice none 0 0,.slice none 0 0,.slice none 0 0,.slice none 0 0] 52
def a2d(w:World)(g:Nat)(u0 u1 u2 u3:Value):World:=(((w.setCell ⟨g,0,none⟩ u0).setCell ⟨g,1,none⟩ u1).setCell ⟨g,2,none⟩ u2).setCell ⟨g,3,none⟩ u3
theorem a3S{w:World}{g k:Nat}{u0 u1 u2 u3:Value}(h:k≠g):(a2d w g u0 u1 u2 u3).heap[k]? =w.heap[k]? :=by
 unfold a2d;rw[aok _ _ _ _ (by simpa using h),aok _ _ _ _ (by simpa using h),aok _ _ _ _ (by simpa using h),aok _ _ _ _ (by simpa using h)]
theorem aku{w:World}{g:Nat}{a b c d u0 u1 u2 u3:Value}{t:TypeId}(h:w.heap[g]? =some (.cells #[a,b,c,d] t (0,0))):(a2d w g u0 u1 u2 u3).heap[g]? =some (.cells #[u0,u1,u2,u3] t (0,0)):=by
 have h0:=a0K h 0 u0;have h1:=a0K (a:=u0) (b:=b) (c:=c) (d:=d) (by simpa using h0) 1 u1;have h2:=a0K (a:=u0) (b:=u1) (c:=c) (d:=d) (by simpa using h1) 2 u2;have h3:=a0K (a:=u0) (b:=u1) (c:=u2) (d:=d) (by simpa using h2) 3 u3;simpa [a2d]using h3
theorem StR.lists(h:StR base ga gb gx P R n B C x w0 wr)(hb:Below (wr.alloc a4v).heap.size (wr.alloc a4v) w')(u0 u1 u2 u3:Value):
  StR base ga gb gx P R n B C x w0 (a2d w' wr.heap.size u0 u1 u2 u3)/\(a2d w' wr.heap.size u0 u1 u2 u3).heap[wr.heap.size]? =some (.cells #[u0,u1,u2,u3] 52 (0,0)):=by
 have ha:Below wr.heap.size wr (wr.alloc a4v):=(aoi _ _).alloc (aof _) _
 have h1:=h.below (below_trans ha hb);have hd:=(h.st.duo.alloc a4v).below hb
 have hn:=(hb.block wr.heap.size oz).trans (World.alloc_heap_new wr a4v)
 have g1:=(aog.1 h.st.arrP).1
 have g2:=(aog.1 h.st.arrR).1
 have g3:=(aog.1 h.x).1
 refine⟨⟨⟨?_,h1.st.arrP.keep (a3S om),h1.st.arrR.keep (a3S om),?_,h.st.low⟩,(a3S om).trans h1.x,h.nx⟩,aku hn⟩
 ·unfold a2d;exact((((hd.setX oz _ _).setX oz _ _).setX oz _ _).setX oz _ _).less
 have hz:=h.st.duo.size;unfold a2d;exact(((h1.st.bel.setCell (p:=⟨wr.heap.size,0,none⟩) hz _).setCell (p:=⟨wr.heap.size,1,none⟩) hz _).setCell (p:=⟨wr.heap.size,2,none⟩) hz _).setCell (p:=⟨wr.heap.size,3,none⟩) hz _
theorem StR.copied{q a j:Nat}{vs:Nat->Value}(hq:q<4)(hj:j<4)(nx:gx≠ga/\gx≠gb)(low:base<=ga/\base<=gb/\ga≠gb)(hd:DuoL base wr (gb::ga::X4 base) 4 (upN P q a) (upN n q (n j)) (upN B q (B j)) 4 R n B)
  (hP:ArrAt wr ga 45 (upN P q a))(hR:ArrAt wr gb 47 R)(hb:Below base w0 wr)(hx:wr.heap[gx]? =some (.cells #[.int .u8 x.1,.int .u8 x.2.1,.int .u8 x.2.2.1,.string x.2.2.2] 75 (0,0)))(hv:RfAt wr (R j) (n j) vs (B j)):
  StR base ga gb gx (upN P q a) (upN R q wr.heap.size) (upN n q (n j)) (upN B q (B j)) (upN B q (B j)) x w0 ((wr.alloc (.cells #[.int .i64 (n j:Nat),vs 0,vs 1,vs 2,vs 3] 54)).setCell ⟨gb,q,none⟩ (.pointer (some ⟨wr.heap.size,0,none⟩))):=by
 have ha:Below wr.heap.size wr (wr.alloc (.cells #[.int .i64 (n j:Nat),vs 0,vs 1,vs 2,vs 3] 54)):=(aoi _ _).alloc (aof _) _
 have hc:=amM (r':=4) (l:=q) hd hj (fun i hi=>.inr hi) hv;refine⟨⟨hc.setX oz _ _,(hP.below ha).keep (aok _ _ _ _ (by simpa using low.2.2)),(hR.below ha).set hq _,(hb.trans (ha.mono hd.size)).setCell (p:=⟨gb,q,none⟩) low.2.1 _,low⟩,?_,nx⟩;exact(aok _ _ _ _ (by simpa using nx.2)).trans ((ha.block _ (aog.1 hx).1).trans hx)
end
theorem akv{α:Type}(f:Nat->α)(i:Nat):upN f i (f i)=f:=by
 funext j;unfold upN;split
 ·rename_i e;rw[e]
 rfl
def uA(a:Act)(i:Nat):Value:=a.tmps.getD i undef
def stF(s0 tp ap ar:Value)(ln k q1 q2:Int)(ga gb gx:Nat)(sa:ByteArray)(ea:Int)(u:Nat->Value):Act:=
 {tmps:=#[s0,undef,(u 2),.pointer (some ⟨ga,0,none⟩),.pointer (some ⟨gb,0,none⟩),.bool true,.int .i64 k,.pointer (some ⟨gx,0,none⟩),.int .u8 q1,.int .u8 q2,.string sa,.string sa,.int .i64 ea,.int .i64 ea,(u 14),(u 15),(u 16),s0,.int .i64 ln,.bool false,undef,tp,tp,ap,ar,.bool true,.bool true,.bool false,(u 28),(u 29),(u 30),(u 31),(u 32),(u 33),(u 34),(u 35),(u 36),(u 37),(u 38),(u 39),(u 40),(u 41),(u 42),(u 43),(u 44),(u 45),(u 46),(u 47),(u 48),(u 49),(u 50),(u 51),(u 52),(u 53),(u 54),(u 55),(u 56),(u 57),(u 58),(u 59),(u 60),(u 61),(u 62),(u 63),(u 64),(u 65),(u 66),(u 67),(u 68),(u 69),(u 70),(u 71),(u 72),(u 73),(u 74),(u 75),(u 76),(u 77),(u 78),(u 79),(u 80),(u 81),(u 82),(u 83),(u 84),(u 85),(u 86),(u 87),(u 88),(u 89),(u 90),(u 91),(u 92),(u 93),(u 94),(u 95),(u 96),(u 97),(u 98),(u 99),(u 100),(u 101),(u 102),(u 103),(u 104),(u 105),(u 106),(u 107),(u 108),(u 109),(u 110),(u 111),(u 112),(u 113),(u 114),(u 115),(u 116),(u 117),(u 118),(u 119),(u 120),(u 121),(u 122),(u 123),(u 124),(u 125),(u 126),(u 127),(u 128),(u 129),(u 130),(u 131),(u 132),(u 133),(u 134),(u 135),(u 136),(u 137),(u 138),(u 139),(u 140),(u 141),(u 142),(u 143),(u 144),(u 145),(u 146),(u 147),(u 148),(u 149),(u 150),(u 151),(u 152),(u 153),(u 154),(u 155),(u 156),(u 157),(u 158),(u 159),(u 160),(u 161),(u 162),(u 163),(u 164),(u 165),(u 166),(u 167),(u 168),(u 169),(u 170),(u 171),(u 172),(u 173),(u 174),(u 175),(u 176),(u 177),(u 178),(u 179),(u 180),(u 181),(u 182),(u 183),(u 184),(u 185),(u 186),(u 187),(u 188),(u 189),(u 190),(u 191),(u 192),(u 193),(u 194),(u 195),(u 196),(u 197),(u 198),(u 199),(u 200),(u 201),(u 202),(u 203),(u 204),(u 205),(u 206),undef],defers:=[]}
open Lib (hid)
open Proofs.Tryz
theorem amc(b c:a00):((a0z b).toList==(a0z c).toList)=decide (a0z b=a0z c):=by
 by_cases h:a0z b=a0z c
 ·rw[h];simp
 rw[decide_eq_false h,ba_lne h]
theorem aeQ{x:Int}(h:0<=x/\x<256)(m:Nat)(hm:0<m):∃q:Nat,q<m/\x.tmod m=(q:Int):=
 ⟨(x % m).toNat,by have:=apW x (show (0:Int)<m by omega);have:=apZ x (show (m:Int)≠0 by omega);omega,by
  rw[aq2 h.1];have:=apZ x (show (m:Int)≠0 by omega);omega⟩
theorem PostSteps_walk(v:Value)(l:List a5v)(w:World)(hL:agk w v l)(hV:Vars w):Calls prog 11 #[v] w (a4A true w):=by
 obtain⟨a0,cap,rfl,hml,hc⟩:=hL;have HLC:=hid hc;obtain⟨ln,hln⟩:∃ln,ln=l.length:=⟨_,rfl⟩
 have HN:=hid hln;have HV:=hid hV;rw[<-hln];clear hc hln hml hV;by_cases h30:30<ln
 ·have h30i:(30:Int)<(ln:Int):=om;clear h30;go_enter func11,ntmps11;go_wp2_with fail
  refine(a9A w HV.out).mono ?_
  rintro e w2 ⟨rfl,hb2⟩;go_wp2;go_ret;exact⟨rfl,hb2⟩
 have h30i:¬(30:Int)<(ln:Int):=om;go_enter func11,ntmps11;go_wp2_with fail
 refine(akr w HV.out).mono ?_
 rintro e w3 ⟨P0,R0,rfl,hd3,hb3⟩;obtain⟨w5,hw5⟩:∃w5,w5=(w3.alloc (.cells #[.pointer (some ⟨P0 0,0,none⟩),.pointer (some ⟨P0 1,0,none⟩),.pointer (some ⟨P0 2,0,none⟩),.pointer (some ⟨P0 3,0,none⟩)] 45)).alloc (.cells #[.pointer (some ⟨R0 0,0,none⟩),.pointer (some ⟨R0 1,0,none⟩),.pointer (some ⟨R0 2,0,none⟩),.pointer (some ⟨R0 3,0,none⟩)] 47):=⟨_,rfl⟩
 obtain⟨base,hbase⟩:∃base,base=w.heap.size:=⟨_,rfl⟩
 have HBW:Hid (Below base w w5):=hid (by rw[hw5,hbase];exact below_trans hb3 (((aoi _ _).alloc (aof _) _).alloc oz _))
 have HI0:Hid (StI base w3.heap.size (w3.heap.size+1) P0 R0 idN a4L a4L w5 w5):=hid (by
  rw[<-hbase]at hd3;have h2:=(hd3.alloc (.cells #[.pointer (some ⟨P0 0,0,none⟩),.pointer (some ⟨P0 1,0,none⟩),.pointer (some ⟨P0 2,0,none⟩),.pointer (some ⟨P0 3,0,none⟩)] 45)).alloc (.cells #[.pointer (some ⟨R0 0,0,none⟩),.pointer (some ⟨R0 1,0,none⟩),.pointer (some ⟨R0 2,0,none⟩),.pointer (some ⟨R0 3,0,none⟩)] 47)
  rw[aoq]at h2;rw[hw5];refine⟨h2,(aop _ _ _ oz).trans (World.alloc_heap_new w3 _),?_,aoi _ _,by have:=hd3.size;exact this,by have:=hd3.size;omega,om⟩;have:=World.alloc_heap_new (w3.alloc (.cells #[.pointer (some ⟨P0 0,0,none⟩),.pointer (some ⟨P0 1,0,none⟩),.pointer (some ⟨P0 2,0,none⟩),.pointer (some ⟨P0 3,0,none⟩)] 45)) (.cells #[.pointer (some ⟨R0 0,0,none⟩),.pointer (some ⟨R0 1,0,none⟩),.pointer (some ⟨R0 2,0,none⟩),.pointer (some ⟨R0 3,0,none⟩)] 47);rw[aoq]at this;exact this)
 have HW5:=hid hw5;have HBS:=hid hbase;have HKW:Hid (Kid base w w5):=hid (by rw[hbase]at HBW⊢;exact Kid.of_below HBW.out);clear hw5 hd3 hb3 hbase;obtain⟨gz,hgz⟩:∃gz,gz=w3.heap.size:=⟨_,rfl⟩
 have HGZ:=hid hgz;clear hgz;go_wp2_with fail
 rw[<-HW5.out];go_loopw [6] (fun i wr=>∃(k:Nat) (P R n:Nat->Nat) (B:Nat->a00),k<=ln/\i= .int .i64 k/\Hid (StI base w3.heap.size (w3.heap.size+1) P R n B B w5 wr)) (fun i _=>ln-(intOf i).toNat)
 case atStart=>exact⟨0,_,_,_,_,aot _,rfl,HI0⟩
 case round=>
  obtain⟨k,P,R,n,B,hk,rfl,HI⟩:=hrel;by_cases hlt:k<ln
  ·have hlt2:(k:Int)<(ln:Int):=om;have hk0:(0:Int)<=(k:Int):=om;obtain⟨bl,ol,rfl,hcc⟩:=HLC.out (by rw[<-HN.out];omega);obtain⟨e0,e1,e2,e3,hok⟩:=hcc k (by rw[<-HN.out];exact hlt);have HBX:Hid (Below w.heap.size w wr):=hid (by have h1:=HBW.out.trans HI.out.bel;rwa[HBS.out]at h1);replace e0:=keep_cell HBX.out e0;replace e1:=keep_cell HBX.out e1;replace e2:=keep_cell HBX.out e2;replace e3:=keep_cell HBX.out e3;generalize l.getD k a5U=x at *;obtain⟨xw,xa,xb,xs⟩:=x;simp only at e0 e1 e2 e3;rw[<-Nat.add_assoc]at e1 e2 e3;obtain⟨o1,o2,o3,_⟩:=hok;obtain⟨c,hc6,m3⟩:=aeQ o1 6 om;obtain⟨q1,hq1,m1⟩:=aeQ o2 4 om;obtain⟨q2,hq2,m2⟩:=aeQ o3 4 om;simp only at m1 m2 m3;replace m1:xa.tmod 4=(q1:Int):=m1;replace m2:xb.tmod 4=(q2:Int):=m2;have HR6:=hid (HI.out.step (xw,xa,xb,xs));obtain⟨w6,hw6⟩:∃w6,w6=wr.alloc (adg (xw,xa,xb,xs)):=⟨_,rfl⟩
   have HW6:=hid hw6;rw[<-hw6]at HR6;clear hw6 hcc o1 o2 o3;unfold adg at HW6;by_cases h5:500<xs.size
   ·have h5i:(500:Int)<(xs.size:Int):=om;have HV6:=hid HR6.out.st.duo.vars;have HB6:Hid (Below w.heap.size w w6):=hid (by have h1:=HBW.out.trans HR6.out.st.bel;rwa[HBS.out]at h1);clear h5;rw[HW6.out]at HV6 HB6;simp only at HV6 HB6;go_wp2_with fail
    refine(a9A _ (HV6.out)).mono ?_
    rintro e w2 ⟨rfl,hb2⟩;have HB2:=hid (below_trans HB6.out hb2);clear hb2;go_wp2;go_ret;exact⟨rfl,HB2.out⟩
   have h5i:¬(500:Int)<(xs.size:Int):=om;have i0:(0:Int)<=(q1:Int):=om;have i1:(q1:Int)<4:=om;have i2:(0:Int)<=(q2:Int):=om;have i3:(q2:Int)<4:=om;have hs1:xs.size<=1000000:=om;go_wp2;rw[<-HW6.out];have hFF:=HR6.out.ff hq1 hq2;simp only at hFF;refine wp_region_held_drew (S:=KD base w6) ot (KD.drew (KD.refl _ _)) (fun hHeld=>?_);refine tk [0,1,2,3,4,5,6,7] ?_;repeat (refine tkC hHeld (h:=?_);apply exq;(· intro W3 hS3;obtain⟨z1,z2,z3,z4,z5,z6,z7,z8⟩:=hFF W3 hS3;go_simp;try rfl);try simp only[gS])
   with_reducible refine tkE ?_
   refine wpAnyH_done ot ?_ _;try simp only[Exit.then]
   obtain⟨w7,hw7⟩:∃w7,w7=w6.drew:=⟨_,rfl⟩
   rw[<-hw7];have HR7:Hid (StR base w3.heap.size (w3.heap.size+1) wr.heap.size P R n B B (xw,xa,xb,xs) w5 w7):=hid (by rw[hw7];exact HR6.out.below (aoi _ _).drew);have HGX:=hid HR6.out.nx;clear hHeld hFF hw7 HW6 HR6 e0 e1 e2 e3 h5 h5i m1 m2;have hFF:=HR7.out.ff hq1 hq2;simp only at hFF;have y5:=(hFF w7 (KD.refl _ _)).2.2.2.2.1
   go_upto_region 15 with fail
   rename_i K1 hK1 K2 hK2
   have HT0:Hid (∀(u:Nat->Value) (P2 R2 n2:Nat->Nat) (B2:Nat->a00) (w9:World) (sa:ByteArray) (ea:Int),Hid (StR base w3.heap.size (w3.heap.size+1) wr.heap.size P2 R2 n2 B2 B2 (xw,xa,xb,xs) w5 w9)->K1 (stF (.slice (some ⟨bl,ol,none⟩) ln cap) (.tuple #[(.agg #[.pointer (some ⟨P0 0,0,none⟩),.pointer (some ⟨P0 1,0,none⟩),.pointer (some ⟨P0 2,0,none⟩),.pointer (some ⟨P0 3,0,none⟩)]),(.agg #[.pointer (some ⟨R0 0,0,none⟩),.pointer (some ⟨R0 1,0,none⟩),.pointer (some ⟨R0 2,0,none⟩),.pointer (some ⟨R0 3,0,none⟩)]),.bool true]) (.agg #[.pointer (some ⟨P0 0,0,none⟩),.pointer (some ⟨P0 1,0,none⟩),.pointer (some ⟨P0 2,0,none⟩),.pointer (some ⟨P0 3,0,none⟩)]) (.agg #[.pointer (some ⟨R0 0,0,none⟩),.pointer (some ⟨R0 1,0,none⟩),.pointer (some ⟨R0 2,0,none⟩),.pointer (some ⟨R0 3,0,none⟩)]) ln k q1 q2 w3.heap.size (w3.heap.size+1) wr.heap.size sa ea u) w9):=hid (by
    intro u P2 R2 n2 B2 w9 sa ea HR9;refine hK1 _ _ ?_;unfold stF;clear hK1 hK2 y5 hFF;have hFF:=fun W (hW:KB w9 W)=>HR9.out.ff hq1 hq2 W (Kid.of_below hW);have HI1:=hid (fun W (hW:KB w9 W)=>is_d (HR9.out.st.duo.below hW) hq1 hq1 rfl (BookEq.refl _));have HI2:=hid (fun W (hW:KB w9 W)=>is_d (HR9.out.st.duo.below hW) hq2 hq2 rfl (BookEq.refl _));have HSM:=hid (fun W (hW:KB w9 W)=>anH (HR9.out.st.duo.below hW) hq1 hq2);have HT1:=hid (fun W (hW:KB w9 W)=>abH (HR9.out.st.duo.below hW) hq1);have HT2:=hid (fun W (hW:KB w9 W)=>abH (HR9.out.st.duo.below hW) hq2);have htt:=amc (B2 q1) (B2 q2);generalize a0z (B2 q1)=t1 at *;generalize a0z (B2 q2)=t2 at *;generalize decide (t1=t2)=qb at *;have hsa:(sa.toList==sa.toList)=true:=by simp
    have HBE:=hid HR9.out.st;go_wp2;refine wp_region_held_drew (S:=KB w9) ot (KB.drew (KB.refl _)) (fun hHeld=>?_);refine tk [0,1,2,3,4,5,6,7,8,9,10,11,12,13,14] ?_;repeat (refine tkC hHeld (h:=?_);apply exq;(· intro W3 hS3;obtain⟨z1,z2,z3,z4,z5,z6,z7,z8⟩:=hFF W3 hS3;go_simp;try rfl);try simp only[gS])
    with_reducible refine tkE ?_
    refine rdy 15 (h:=fun K hK=>?_);go_simp;refine(HI1.out _ hHeld).mono ?_
    rintro e w11 ⟨rfl,hb⟩;have hk2:=KB.call hHeld hb;clear hb;try dsimp only
    refine hK.out _ _ hk2 (fun hHeld=>?_);clear hK K hk2;try simp only[gS]
    refine tk [16,17,18,19,20,21,22,23,24] ?_;repeat (refine tkC hHeld (h:=?_);apply exq;(· intro W3 hS3;obtain⟨z1,z2,z3,z4,z5,z6,z7,z8⟩:=hFF W3 hS3;go_simp;try rfl);try simp only[gS])
    with_reducible refine tkE ?_
    refine rdy 25 (h:=fun K hK=>?_);go_simp;refine(HI2.out _ hHeld).mono ?_
    rintro e w12 ⟨rfl,hb⟩;have hk2:=KB.call hHeld hb;clear hb;try dsimp only
    refine hK.out _ _ hk2 (fun hHeld=>?_);clear hK K hk2;try simp only[gS]
    refine tk [26,27,28,29,30,31,32,33,34,36,37,38,40,41,42] ?_;repeat (refine tkC hHeld (h:=?_);apply exq;(· intro W3 hS3;obtain⟨z1,z2,z3,z4,z5,z6,z7,z8⟩:=hFF W3 hS3;go_simp;try rfl);try simp only[gS])
    with_reducible refine tkE ?_
    refine rdy 35 (h:=fun K hK=>?_);go_simp;refine(HSM.out _ hHeld).mono ?_
    rintro e w13 ⟨rfl,hb⟩;have hk2:=KB.call hHeld hb;clear hb;try dsimp only
    refine hK.out _ _ hk2 (fun hHeld=>?_);clear hK K hk2;try simp only[gS]
    refine rdy 39 (h:=fun K hK=>?_);go_simp;refine(HT1.out _ hHeld).mono ?_
    rintro e w14 ⟨rfl,hb⟩;have hk2:=KB.call hHeld hb;clear hb;try dsimp only
    refine hK.out _ _ hk2 (fun hHeld=>?_);clear hK K hk2;try simp only[gS]
    refine rdy 43 (h:=fun K hK=>?_);go_simp;refine(HT2.out _ hHeld).mono ?_
    rintro e w15 ⟨rfl,hb⟩;have hk2:=KB.call hHeld hb;clear hb;try dsimp only
    refine hK.out _ _ hk2 (fun hHeld=>?_);clear hK K hk2;try simp only[gS]
    refine tk [44,45,46] ?_;repeat (refine tkC hHeld (h:=?_);apply exq;(· intro W3 hS3;obtain⟨z1,z2,z3,z4,z5,z6,z7,z8⟩:=hFF W3 hS3;go_simp;try rfl);try simp only[gS])
    with_reducible refine tkE ?_
    refine wpAnyH_done ot ?_ _;try simp only[Exit.then]
    have HE9:Hid (StI base w3.heap.size (w3.heap.size+1) P2 R2 n2 B2 B2 w5 w15):=hid (HBE.out.turn (HBE.out.duo.below hHeld) (Kid.of_below hHeld));clear hHeld hFF;go_wp2;go_roundw
    case rel=>exact⟨k+1,P2,R2,n2,B2,om,by go_num,HE9⟩
    case measure=>simp[intOf];omega)
   have HT:Hid (∀(a':Act) (P2 R2 n2:Nat->Nat) (B2:Nat->a00) (w9:World) (sa:ByteArray) (ea:Int),Hid (StR base w3.heap.size (w3.heap.size+1) wr.heap.size P2 R2 n2 B2 B2 (xw,xa,xb,xs) w5 w9)->a'=stF (.slice (some ⟨bl,ol,none⟩) ln cap) (.tuple #[(.agg #[.pointer (some ⟨P0 0,0,none⟩),.pointer (some ⟨P0 1,0,none⟩),.pointer (some ⟨P0 2,0,none⟩),.pointer (some ⟨P0 3,0,none⟩)]),(.agg #[.pointer (some ⟨R0 0,0,none⟩),.pointer (some ⟨R0 1,0,none⟩),.pointer (some ⟨R0 2,0,none⟩),.pointer (some ⟨R0 3,0,none⟩)]),.bool true]) (.agg #[.pointer (some ⟨P0 0,0,none⟩),.pointer (some ⟨P0 1,0,none⟩),.pointer (some ⟨P0 2,0,none⟩),.pointer (some ⟨P0 3,0,none⟩)]) (.agg #[.pointer (some ⟨R0 0,0,none⟩),.pointer (some ⟨R0 1,0,none⟩),.pointer (some ⟨R0 2,0,none⟩),.pointer (some ⟨R0 3,0,none⟩)]) ln k q1 q2 w3.heap.size (w3.heap.size+1) wr.heap.size sa ea (uA a')->K1 a' w9):=hid (fun a' P2 R2 n2 B2 w9 sa ea h1 h2=>by rw[h2];exact HT0.out (uA a') P2 R2 n2 B2 w9 sa ea h1);clear HT0;clear hK1;rcases (show c=0\/c=1\/c=2\/c=3\/c=4\/c=5 by omega)with rfl|rfl|rfl|rfl|rfl|rfl
   ·
    replace m3:xw.tmod 6=0:=m3;have HDO:=hid (do_d HR7.out.st.duo.drewn hq1 xs hs1);obtain⟨r1,hr1⟩:∃r1,r1=doB (B q1) (n q1) xs:=⟨_,rfl⟩
    rw[<-hr1]at HDO;have HR1:=hid hr1;clear hr1;obtain⟨sa,ea,ba⟩:=r1;simp only at HDO;go_wp2;refine wp_region_held_drew (S:=KD base w7) ot (KD.drew (KD.refl _ _)) (fun hHeld=>?_);refine tk [0,1,2,3,4] ?_;repeat (refine tkC hHeld (h:=?_);apply exq;(· intro W3 hS3;obtain⟨z1,z2,z3,z4,z5,z6,z7,z8⟩:=hFF W3 hS3;go_simp;try rfl);try simp only[gS])
    with_reducible refine tkE ?_
    refine rdy 5 (h:=fun K hK=>?_);go_simp;refine(HDO.out).mono ?_
    rintro e w8 ⟨rfl,hd8,hk8⟩;have hk2:=KD.call hHeld hk8;have HD8:=hid hd8;clear hd8 hk8;try dsimp only
    refine hK.out _ _ hk2 (fun hHeld=>?_);clear hK K hk2;try simp only[gS]
    refine tk [6,7,8,9,10] ?_;repeat (refine tkC hHeld (h:=?_);apply exq;(· intro W3 hS3;obtain⟨z1,z2,z3,z4,z5,z6,z7,z8⟩:=hFF W3 hS3;go_simp;try rfl);try simp only[gS])
    with_reducible refine tkE ?_
    refine wpAnyH_done ot ?_ _;try simp only[Exit.then]
    obtain⟨wa,hwa⟩:∃wa,wa=w8:=⟨_,rfl⟩
    subst hwa;clear HDO;have HDO:=hid (ao5 HD8.out.drewn hq1 xs hs1);rw[<-HR1.out]at HDO;simp only at HDO;clear HD8;go_wp2;refine wp_region_held_drew (S:=KD base w7) ot (KD.drew hHeld) (fun hHeld=>?_);refine tk [0,1,2,3,4] ?_;repeat (refine tkC hHeld (h:=?_);apply exq;(· intro W3 hS3;obtain⟨z1,z2,z3,z4,z5,z6,z7,z8⟩:=hFF W3 hS3;go_simp;try rfl);try simp only[gS])
    with_reducible refine tkE ?_
    refine rdy 5 (h:=fun K hK=>?_);go_simp;refine(HDO.out).mono ?_
    rintro e w8 ⟨rfl,hd8,hk8⟩;have hk2:=KD.call hHeld hk8;have HD8:=hid hd8;clear hd8 hk8;try dsimp only
    refine hK.out _ _ hk2 (fun hHeld=>?_);clear hK K hk2;try simp only[gS]
    refine tk [6,7,8,9,10] ?_;repeat (refine tkC hHeld (h:=?_);apply exq;(· intro W3 hS3;obtain⟨z1,z2,z3,z4,z5,z6,z7,z8⟩:=hFF W3 hS3;go_simp;try rfl);try simp only[gS])
    with_reducible refine tkE ?_
    refine wpAnyH_done ot ?_ _;try simp only[Exit.then]
    have HR9:Hid (StR base w3.heap.size (w3.heap.size+1) wr.heap.size P R n (upN B q1 ba) (upN B q1 ba) (xw,xa,xb,xs) w5 w8):=hid (HR7.out.turn HD8.out hHeld);clear hHeld hFF HD8 HDO;go_wp2;exact HT.out _ _ _ _ _ _ _ _ HR9 rfl
   ·
    replace m3:xw.tmod 6=1:=m3;have HAS:=hid (fun W (hW:KB w7 W)=>aoe (HR7.out.st.duo.below hW) hq1 xs hs1);have HAT:=hid (fun W (hW:KB w7 W)=>ao2 (HR7.out.st.duo.below hW) hq1 xs hs1);generalize a0k (B q1) xs=r1 at *;obtain⟨sa,ea⟩:=r1;unfold a0J at HAS HAT;simp only at HAS HAT;clear hFF;have hFF:=fun W (hW:KB w7 W)=>HR7.out.ff hq1 hq2 W (Kid.of_below hW);go_wp2;refine wp_region_held_drew (S:=KB w7) ot (KB.drew (KB.refl _)) (fun hHeld=>?_);refine tk [0,1,2,3,4] ?_;repeat (refine tkC hHeld (h:=?_);apply exq;(· intro W3 hS3;obtain⟨z1,z2,z3,z4,z5,z6,z7,z8⟩:=hFF W3 hS3;go_simp;try rfl);try simp only[gS])
    with_reducible refine tkE ?_
    refine rdy 5 (h:=fun K hK=>?_);go_simp;refine(HAS.out _ hHeld).mono ?_
    rintro e wa ⟨rfl,hb⟩;have hk2:=KB.call hHeld hb;clear hb;try dsimp only
    refine hK.out _ _ hk2 (fun hHeld=>?_);clear hK K hk2;try simp only[gS]
    refine tk [6,7,8,9,10] ?_;repeat (refine tkC hHeld (h:=?_);apply exq;(· intro W3 hS3;obtain⟨z1,z2,z3,z4,z5,z6,z7,z8⟩:=hFF W3 hS3;go_simp;try rfl);try simp only[gS])
    with_reducible refine tkE ?_
    refine wpAnyH_done ot ?_ _;try simp only[Exit.then]
    go_wp2;refine wp_region_held_drew (S:=KB w7) ot (KB.drew hHeld) (fun hHeld=>?_);refine tk [0,1,2,3,4] ?_;repeat (refine tkC hHeld (h:=?_);apply exq;(· intro W3 hS3;obtain⟨z1,z2,z3,z4,z5,z6,z7,z8⟩:=hFF W3 hS3;go_simp;try rfl);try simp only[gS])
    with_reducible refine tkE ?_
    refine rdy 5 (h:=fun K hK=>?_);go_simp;refine(HAT.out _ hHeld).mono ?_
    rintro e w8 ⟨rfl,hb⟩;have hk2:=KB.call hHeld hb;clear hb;try dsimp only
    refine hK.out _ _ hk2 (fun hHeld=>?_);clear hK K hk2;try simp only[gS]
    refine tk [6,7,8,9,10] ?_;repeat (refine tkC hHeld (h:=?_);apply exq;(· intro W3 hS3;obtain⟨z1,z2,z3,z4,z5,z6,z7,z8⟩:=hFF W3 hS3;go_simp;try rfl);try simp only[gS])
    with_reducible refine tkE ?_
    refine wpAnyH_done ot ?_ _;try simp only[Exit.then]
    have HR9:Hid (StR base w3.heap.size (w3.heap.size+1) wr.heap.size P R n B B (xw,xa,xb,xs) w5 w8):=hid (HR7.out.below hHeld);clear hHeld hFF HAS HAT;go_wp2;exact HT.out _ _ _ _ _ _ _ _ HR9 rfl
   ·
    replace m3:xw.tmod 6=2:=m3;have HJO:=hid (anD HR7.out.st.duo.drewn hq1 hq2);have hje:=a8M (B q1) (B q2);obtain⟨J,hJ⟩:∃J,J=a0L (B q1) (B q2):=⟨_,rfl⟩
    rw[<-hJ]at HJO hje;have HJ:=hid hJ;clear hJ;obtain⟨ea,ba⟩:=J;simp only at HJO hje;go_wp2;refine wp_region_held_drew (S:=KD base w7) ot (KD.drew (KD.refl _ _)) (fun hHeld=>?_);refine tk [0,1,2,3,4,5] ?_;repeat (refine tkC hHeld (h:=?_);apply exq;(· intro W3 hS3;obtain⟨z1,z2,z3,z4,z5,z6,z7,z8⟩:=hFF W3 hS3;go_simp;try rfl);try simp only[gS])
    with_reducible refine tkE ?_
    refine rdy 6 (h:=fun K hK=>?_);go_simp;refine(HJO.out).mono ?_
    rintro e w8 ⟨rfl,hd8,hk8⟩;have hk2:=KD.call hHeld hk8;have HD8:=hid hd8;clear hd8 hk8;try dsimp only
    refine hK.out _ _ hk2 (fun hHeld=>?_);clear hK K hk2;try simp only[gS]
    refine tk [7] ?_;repeat (refine tkC hHeld (h:=?_);apply exq;(· intro W3 hS3;obtain⟨z1,z2,z3,z4,z5,z6,z7,z8⟩:=hFF W3 hS3;go_simp;try rfl);try simp only[gS])
    with_reducible refine tkE ?_
    refine wpAnyH_done ot ?_ _;try simp only[Exit.then]
    obtain⟨wa,hwa⟩:∃wa,wa=w8:=⟨_,rfl⟩
    subst hwa;obtain⟨vs,hvs,hrj⟩:=amL HD8.out.drewn hq1 hq2;rw[<-HJ.out]at hrj;simp only at hrj;have HRJ:=hid hrj;have x1:wa.drew.cell? ⟨R q2,1,none⟩=some (vs 0):=heap_cell hvs.1 rfl;have x2:wa.drew.cell? ⟨R q2,2,none⟩=some (vs 1):=heap_cell hvs.1 rfl;have x3:wa.drew.cell? ⟨R q2,3,none⟩=some (vs 2):=heap_cell hvs.1 rfl;have x4:wa.drew.cell? ⟨R q2,4,none⟩=some (vs 3):=heap_cell hvs.1 rfl;clear hvs hrj HD8 HJO;generalize vs 0=u0 at *;generalize vs 1=u1 at *;generalize vs 2=u2 at *;generalize vs 3=u3 at *;obtain⟨sa,_⟩:∃s:ByteArray,s=s:=⟨emp,rfl⟩
    rcases hje with rfl|rfl
    all_goals
     go_wp2;refine wp_region_held_drew (S:=KD base w7) ot (KD.drew hHeld) (fun hHeld=>?_);refine tk [0,1,2,3,4,5,6,7] ?_;repeat (refine tkC hHeld (h:=?_);apply exq;(· intro W3 hS3;obtain⟨z1,z2,z3,z4,z5,z6,z7,z8⟩:=hFF W3 hS3;go_simp;try rfl);try simp only[gS])
     with_reducible refine tkE ?_
     refine rdy 8 (h:=fun K hK=>?_);go_simp;refine hK.out _ _ hHeld (fun hHeld=>?_);clear hK K;try simp only[gS]
     refine rdy 9 (h:=fun K hK=>?_);go_simp;refine(HRJ.out).mono ?_
     rintro e w8 ⟨rfl,hd8,hk8⟩;have hk2:=KD.call hHeld hk8;have HD8:=hid hd8;clear hd8 hk8;try dsimp only
     refine hK.out _ _ hk2 (fun hHeld=>?_);clear hK K hk2;try simp only[gS]
     refine tk [10] ?_;repeat (refine tkC hHeld (h:=?_);apply exq;(· intro W3 hS3;obtain⟨z1,z2,z3,z4,z5,z6,z7,z8⟩:=hFF W3 hS3;go_simp;try rfl);try simp only[gS])
     with_reducible refine tkE ?_
     refine wpAnyH_done ot ?_ _;try simp only[Exit.then]
     have HR9:Hid (StR base w3.heap.size (w3.heap.size+1) wr.heap.size P R n (upN B q1 ba) (upN B q1 ba) (xw,xa,xb,xs) w5 w8):=hid (HR7.out.turn HD8.out hHeld);clear hHeld hFF HD8 HRJ x1 x2 x3 x4;go_wp2;exact HT.out _ _ _ _ _ _ _ _ HR9 rfl
   ·
    replace m3:xw.tmod 6=3:=m3;have HTX:=hid (abH HR7.out.st.duo hq2);obtain⟨_,_,_,y4,_,_,_,y8⟩:=hFF w7 (KD.refl _ _);have HTS:Hid ((a0z (B q2)).size<=4000000):=hid (aor (aib (HR7.out.st.duo.ok hq2)) om);generalize a0z (B q2)=T at *;go_wp2_with fail
    refine HTX.out.mono ?_;rintro e wb ⟨rfl,hbb⟩;have HRb:Hid (StR base w3.heap.size (w3.heap.size+1) wr.heap.size P R n B B (xw,xa,xb,xs) w5 wb):=hid (HR7.out.below hbb);clear hbb hFF y4 y8 HR7;have HHE:=hid (ako HRb.out.st.duo hq1 T (aor HTS.out om));have hw:=acU (B q1) T;obtain⟨H,hH⟩:∃H,H=a3X (B q1) T:=⟨_,rfl⟩
    rw[<-hH]at HHE hw;clear hH;obtain⟨ea,ba⟩:=H;simp only at HHE hw;have HWW:=hid hw;have x1:=(HRb.out.ff hq1 hq2 wb (KD.refl _ _)).1
    obtain⟨sa,_⟩:∃s:ByteArray,s=s:=⟨emp,rfl⟩
    clear hw;go_wp2_with fail
    refine HHE.out.mono ?_;rintro e wc ⟨rfl,hdc,hkc⟩;have HRc:Hid (StR base w3.heap.size (w3.heap.size+1) wr.heap.size P R n (upN B q1 ba) B (xw,xa,xb,xs) w5 wc):=hid (HRb.out.turn hdc hkc);have HRR:=hid (fun W=>acT T W HTS.out);obtain⟨wd,hwd⟩:∃wd,wd=wc.alloc a4v:=⟨_,rfl⟩
    have HWL:=hid hwd;have HWD:=hid hwd;have HWN:Hid (wd.heap[wc.heap.size]? =some (.cells #[.slice none 0 0,.slice none 0 0,.slice none 0 0,.slice none 0 0] 52 (0,0))):=hid (by rw[hwd];exact World.alloc_heap_new wc a4v);have HWZ:Hid (wd.heap.size=wc.heap.size+1):=hid (by rw[hwd,aoq]);unfold a4v at HWD;clear hwd hdc hkc HHE HRb;rcases HWW.out with⟨hrn,hh⟩|⟨c9,hrs,hok9,hj9,hb9⟩
    ·rw[hrn]at HRR;unfold a5g a1i at HRR;simp only[Prod.mk.injEq]at HRR hh;obtain⟨rfl,rfl⟩:=hh;clear hrn x1;go_wp2_with fail
     rw[<-HWD.out];refine(HRR.out wd).mono ?_
     rintro e we ⟨rfl,hbe⟩;obtain⟨hl1,hl2⟩:=HRc.out.lists (by rw[<-HWL.out];exact hbe) (.slice none 0 0) (.slice none 0 0) (.slice none 0 0) (.slice none 0 0);have hd:=(hbe.block wc.heap.size (by have:=HWZ.out;omega)).trans HWN.out
     have d0:=heap_cell (j:=0) hd rfl;have d1:=heap_cell (j:=1) hd rfl;have d2:=heap_cell (j:=2) hd rfl;have d3:=heap_cell (j:=3) hd rfl;have d4:∀j,we.frozen? ⟨wc.heap.size,j,none⟩=false:=fun j=>by simp[World.frozen?,hd]
     obtain⟨w10,hw10⟩:∃w10,w10=a2d we wc.heap.size (.slice none 0 0) (.slice none 0 0) (.slice none 0 0) (.slice none 0 0):=⟨_,rfl⟩
     rw[<-hw10]at hl1;have HL1:=hid hl1;have HW10:=hid hw10;unfold a2d at HW10;clear hw10 hl1 hl2 hbe hd;go_wp2;rw[<-HW10.out];have hFF:=HL1.out.ff hq1 hq2;refine wp_region_held_drew (S:=KD base w10) ot (KD.drew (KD.refl _ _)) (fun hHeld=>?_);refine tk [0,1,2] ?_;repeat (refine tkC hHeld (h:=?_);apply exq;(· intro W3 hS3;obtain⟨z1,z2,z3,z4,z5,z6,z7,z8⟩:=hFF W3 hS3;go_simp;try rfl);try simp only[gS])
     with_reducible refine tkE ?_
     refine tk [3,4,5,6,7,8] ?_;repeat (refine tkS hHeld (h:=?_);try simp only[gS])
     with_reducible refine tkE ?_
     refine tk [9] ?_;repeat (refine tkC hHeld (h:=?_);apply exq;(· intro W3 hS3;obtain⟨z1,z2,z3,z4,z5,z6,z7,z8⟩:=hFF W3 hS3;go_simp;try rfl);try simp only[gS])
     with_reducible refine tkE ?_
     refine wpAnyH_done ot ?_ _;try simp only[Exit.then]
     have hup:upN B q1 (B q1)=B:=akv B q1
     have HR9:Hid (StR base w3.heap.size (w3.heap.size+1) wr.heap.size P R n B B (xw,xa,xb,xs) w5 w10.drew):=hid (by
      have h9:=HL1.out.below (aoi _ _).drew
      rwa[hup]at h9)
     clear hHeld hFF HL1 hup d0 d1 d2 d3 d4;go_wp2;exact HT.out _ _ _ _ _ _ _ _ HR9 rfl
    rw[hrs]at HRR;unfold a5g at HRR;simp only at HRR;have hje:=a8M (B q1) c9;rw[<-hj9]at hje;have HJ9:=hid hj9;clear hrs x1 hj9;rcases hje with rfl|rfl
    all_goals
     go_wp2_with fail
     rw[<-HWD.out];refine(HRR.out wd).mono ?_
     rintro e we ⟨⟨vs,rfl,_,hvs⟩,hbe⟩;obtain⟨hl1,hl2⟩:=HRc.out.lists (by rw[<-HWL.out];exact hbe) (vs 0) (vs 1) (vs 2) (vs 3);have hd:=(hbe.block wc.heap.size (by have:=HWZ.out;omega)).trans HWN.out
     have d0:=heap_cell (j:=0) hd rfl;have d1:=heap_cell (j:=1) hd rfl;have d2:=heap_cell (j:=2) hd rfl;have d3:=heap_cell (j:=3) hd rfl;have d4:∀j,we.frozen? ⟨wc.heap.size,j,none⟩=false:=fun j=>by simp[World.frozen?,hd]
     obtain⟨w10,hw10⟩:∃w10,w10=a2d we wc.heap.size (vs 0) (vs 1) (vs 2) (vs 3):=⟨_,rfl⟩
     have hu:∀i,i<4->EntsAt w10 (vs i) (c9 i):=fun i hi=>by
      have h8:=hvs i hi;refine(h8.1.ents (by have:=(hok9 i hi).len;omega)).keep fun h0 k hk=>?_
      rw[hw10];have h7:=h8.2 k hk;have h6:=HWZ.out;exact a3S om
     rw[<-hw10]at hl1 hl2;have HL1:=hid hl1;have HRJ:=hid (aeO hl1.st.duo.drewn hq1 (us:=vs) (fun i hi=>(hu i hi).below (aoi _ _).drew) hok9);rw[<-HJ9.out]at HRJ;clear HJ9;have HW10:=hid hw10
     have hFG:∀W,KD base w10 W->W.cell? ⟨wc.heap.size,0,none⟩=some (vs 0)/\W.cell? ⟨wc.heap.size,1,none⟩=some (vs 1)/\W.cell? ⟨wc.heap.size,2,none⟩=some (vs 2)/\W.cell? ⟨wc.heap.size,3,none⟩=some (vs 3):=fun W hW=>by
      have h9:=Kid.keep hW hl2 acV;exact⟨heap_cell h9 rfl,heap_cell h9 rfl,heap_cell h9 rfl,heap_cell h9 rfl⟩
     unfold a2d at HW10;obtain⟨a0,k0,s0⟩:=own_shape (hvs 0 om).1
     obtain⟨a1,k1,s1⟩:=own_shape (hvs 1 om).1
     obtain⟨a2,k2,s2⟩:=own_shape (hvs 2 om).1
     obtain⟨a3,k3,s3⟩:=own_shape (hvs 3 om).1
     rw[s0,s1,s2,s3]at HRJ HW10 hFG⊢;clear hw10 hl1 hl2 hbe hd hu hvs s0 s1 s2 s3;generalize (c9 0).length=l0 at *
     generalize (c9 1).length=l1 at *
     generalize (c9 2).length=l2 at *
     generalize (c9 3).length=l3 at *
     go_wp2;rw[<-HW10.out];have hFF:=HL1.out.ff hq1 hq2;refine wp_region_held_drew (S:=KD base w10) ot (KD.drew (KD.refl _ _)) (fun hHeld=>?_);refine tk [0,1,2,3,4,5,6] ?_;repeat (refine tkC hHeld (h:=?_);apply exq;(· intro W3 hS3;obtain⟨z1,z2,z3,z4,z5,z6,z7,z8⟩:=hFF W3 hS3;obtain⟨y1,y2,y3,y4⟩:=hFG W3 hS3;go_simp;try rfl);try simp only[gS])
     with_reducible refine tkE ?_
     refine rdy 7 (h:=fun K hK=>?_);go_simp;refine(HRJ.out).mono ?_
     rintro e w8 ⟨rfl,hd8,hk8⟩;have hk2:=KD.call hHeld hk8;have HD8:=hid hd8;clear hd8 hk8;try dsimp only
     refine hK.out _ _ hk2 (fun hHeld=>?_);clear hK K hk2;try simp only[gS]
     refine tk [8,9] ?_;repeat (refine tkC hHeld (h:=?_);apply exq;(· intro W3 hS3;obtain⟨z1,z2,z3,z4,z5,z6,z7,z8⟩:=hFF W3 hS3;go_simp;try rfl);try simp only[gS])
     with_reducible refine tkE ?_
     refine wpAnyH_done ot ?_ _;try simp only[Exit.then]
     have HR9:Hid (StR base w3.heap.size (w3.heap.size+1) wr.heap.size P R n (upN B q1 ba) (upN B q1 ba) (xw,xa,xb,xs) w5 w8):=hid (HL1.out.turn (HD8.out.req fun j _=>by
      unfold upN;split
      ·exact hb9
      exact BookEq.refl _) hHeld)
     clear hHeld hFF hFG HL1 HD8 HRJ d0 d1 d2 d3 d4;go_wp2;exact HT.out _ _ _ _ _ _ _ _ HR9 rfl
   ·
    replace m3:xw.tmod 6=4:=m3;obtain⟨_,_,_,_,_,_,_,y8⟩:=hFF w7 (KD.refl _ _);have HTS:Hid (xs.size<=4000000):=hid om;obtain⟨T,hT⟩:∃T,T=xs:=⟨_,rfl⟩
    rw[<-hT]at HTS y8;have HRb:=hid HR7.out;obtain⟨wb,hwb⟩:∃wb,wb=w7:=⟨_,rfl⟩
    rw[<-hwb]at HRb y5 y8⊢;clear hwb hT hFF HR7;have HHE:=hid (ako HRb.out.st.duo hq1 T (aor HTS.out om));have hw:=acU (B q1) T;obtain⟨H,hH⟩:∃H,H=a3X (B q1) T:=⟨_,rfl⟩
    rw[<-hH]at HHE hw;clear hH;obtain⟨ea,ba⟩:=H;simp only at HHE hw;have HWW:=hid hw;have x1:=(HRb.out.ff hq1 hq2 wb (KD.refl _ _)).1
    obtain⟨sa,_⟩:∃s:ByteArray,s=s:=⟨emp,rfl⟩
    clear hw;go_wp2_with fail
    refine HHE.out.mono ?_;rintro e wc ⟨rfl,hdc,hkc⟩;have HRc:Hid (StR base w3.heap.size (w3.heap.size+1) wr.heap.size P R n (upN B q1 ba) B (xw,xa,xb,xs) w5 wc):=hid (HRb.out.turn hdc hkc);have HRR:=hid (fun W=>acT T W HTS.out);obtain⟨wd,hwd⟩:∃wd,wd=wc.alloc a4v:=⟨_,rfl⟩
    have HWL:=hid hwd;have HWD:=hid hwd;have HWN:Hid (wd.heap[wc.heap.size]? =some (.cells #[.slice none 0 0,.slice none 0 0,.slice none 0 0,.slice none 0 0] 52 (0,0))):=hid (by rw[hwd];exact World.alloc_heap_new wc a4v);have HWZ:Hid (wd.heap.size=wc.heap.size+1):=hid (by rw[hwd,aoq]);unfold a4v at HWD;clear hwd hdc hkc HHE HRb;rcases HWW.out with⟨hrn,hh⟩|⟨c9,hrs,hok9,hj9,hb9⟩
    ·rw[hrn]at HRR;unfold a5g a1i at HRR;simp only[Prod.mk.injEq]at HRR hh;obtain⟨rfl,rfl⟩:=hh;clear hrn x1;go_wp2_with fail
     rw[<-HWD.out];refine(HRR.out wd).mono ?_
     rintro e we ⟨rfl,hbe⟩;obtain⟨hl1,hl2⟩:=HRc.out.lists (by rw[<-HWL.out];exact hbe) (.slice none 0 0) (.slice none 0 0) (.slice none 0 0) (.slice none 0 0);have hd:=(hbe.block wc.heap.size (by have:=HWZ.out;omega)).trans HWN.out
     have d0:=heap_cell (j:=0) hd rfl;have d1:=heap_cell (j:=1) hd rfl;have d2:=heap_cell (j:=2) hd rfl;have d3:=heap_cell (j:=3) hd rfl;have d4:∀j,we.frozen? ⟨wc.heap.size,j,none⟩=false:=fun j=>by simp[World.frozen?,hd]
     obtain⟨w10,hw10⟩:∃w10,w10=a2d we wc.heap.size (.slice none 0 0) (.slice none 0 0) (.slice none 0 0) (.slice none 0 0):=⟨_,rfl⟩
     rw[<-hw10]at hl1;have HL1:=hid hl1;have HW10:=hid hw10;unfold a2d at HW10;clear hw10 hl1 hl2 hbe hd;go_wp2;rw[<-HW10.out];have hFF:=HL1.out.ff hq1 hq2;refine wp_region_held_drew (S:=KD base w10) ot (KD.drew (KD.refl _ _)) (fun hHeld=>?_);refine tk [0,1,2] ?_;repeat (refine tkC hHeld (h:=?_);apply exq;(· intro W3 hS3;obtain⟨z1,z2,z3,z4,z5,z6,z7,z8⟩:=hFF W3 hS3;go_simp;try rfl);try simp only[gS])
     with_reducible refine tkE ?_
     refine tk [3,4,5,6,7,8] ?_;repeat (refine tkS hHeld (h:=?_);try simp only[gS])
     with_reducible refine tkE ?_
     refine tk [9] ?_;repeat (refine tkC hHeld (h:=?_);apply exq;(· intro W3 hS3;obtain⟨z1,z2,z3,z4,z5,z6,z7,z8⟩:=hFF W3 hS3;go_simp;try rfl);try simp only[gS])
     with_reducible refine tkE ?_
     refine wpAnyH_done ot ?_ _;try simp only[Exit.then]
     have hup:upN B q1 (B q1)=B:=akv B q1
     have HR9:Hid (StR base w3.heap.size (w3.heap.size+1) wr.heap.size P R n B B (xw,xa,xb,xs) w5 w10.drew):=hid (by
      have h9:=HL1.out.below (aoi _ _).drew
      rwa[hup]at h9)
     clear hHeld hFF HL1 hup d0 d1 d2 d3 d4;go_wp2;exact HT.out _ _ _ _ _ _ _ _ HR9 rfl
    rw[hrs]at HRR;unfold a5g at HRR;simp only at HRR;have hje:=a8M (B q1) c9;rw[<-hj9]at hje;have HJ9:=hid hj9;clear hrs x1 hj9;rcases hje with rfl|rfl
    all_goals
     go_wp2_with fail
     rw[<-HWD.out];refine(HRR.out wd).mono ?_
     rintro e we ⟨⟨vs,rfl,_,hvs⟩,hbe⟩;obtain⟨hl1,hl2⟩:=HRc.out.lists (by rw[<-HWL.out];exact hbe) (vs 0) (vs 1) (vs 2) (vs 3);have hd:=(hbe.block wc.heap.size (by have:=HWZ.out;omega)).trans HWN.out
     have d0:=heap_cell (j:=0) hd rfl;have d1:=heap_cell (j:=1) hd rfl;have d2:=heap_cell (j:=2) hd rfl;have d3:=heap_cell (j:=3) hd rfl;have d4:∀j,we.frozen? ⟨wc.heap.size,j,none⟩=false:=fun j=>by simp[World.frozen?,hd]
     obtain⟨w10,hw10⟩:∃w10,w10=a2d we wc.heap.size (vs 0) (vs 1) (vs 2) (vs 3):=⟨_,rfl⟩
     have hu:∀i,i<4->EntsAt w10 (vs i) (c9 i):=fun i hi=>by
      have h8:=hvs i hi;refine(h8.1.ents (by have:=(hok9 i hi).len;omega)).keep fun h0 k hk=>?_
      rw[hw10];have h7:=h8.2 k hk;have h6:=HWZ.out;exact a3S om
     rw[<-hw10]at hl1 hl2;have HL1:=hid hl1;have HRJ:=hid (aeO hl1.st.duo.drewn hq1 (us:=vs) (fun i hi=>(hu i hi).below (aoi _ _).drew) hok9);rw[<-HJ9.out]at HRJ;clear HJ9;have HW10:=hid hw10
     have hFG:∀W,KD base w10 W->W.cell? ⟨wc.heap.size,0,none⟩=some (vs 0)/\W.cell? ⟨wc.heap.size,1,none⟩=some (vs 1)/\W.cell? ⟨wc.heap.size,2,none⟩=some (vs 2)/\W.cell? ⟨wc.heap.size,3,none⟩=some (vs 3):=fun W hW=>by
      have h9:=Kid.keep hW hl2 acV;exact⟨heap_cell h9 rfl,heap_cell h9 rfl,heap_cell h9 rfl,heap_cell h9 rfl⟩
     unfold a2d at HW10;obtain⟨a0,k0,s0⟩:=own_shape (hvs 0 om).1
     obtain⟨a1,k1,s1⟩:=own_shape (hvs 1 om).1
     obtain⟨a2,k2,s2⟩:=own_shape (hvs 2 om).1
     obtain⟨a3,k3,s3⟩:=own_shape (hvs 3 om).1
     rw[s0,s1,s2,s3]at HRJ HW10 hFG⊢;clear hw10 hl1 hl2 hbe hd hu hvs s0 s1 s2 s3;generalize (c9 0).length=l0 at *
     generalize (c9 1).length=l1 at *
     generalize (c9 2).length=l2 at *
     generalize (c9 3).length=l3 at *
     go_wp2;rw[<-HW10.out];have hFF:=HL1.out.ff hq1 hq2;refine wp_region_held_drew (S:=KD base w10) ot (KD.drew (KD.refl _ _)) (fun hHeld=>?_);refine tk [0,1,2,3,4,5,6] ?_;repeat (refine tkC hHeld (h:=?_);apply exq;(· intro W3 hS3;obtain⟨z1,z2,z3,z4,z5,z6,z7,z8⟩:=hFF W3 hS3;obtain⟨y1,y2,y3,y4⟩:=hFG W3 hS3;go_simp;try rfl);try simp only[gS])
     with_reducible refine tkE ?_
     refine rdy 7 (h:=fun K hK=>?_);go_simp;refine(HRJ.out).mono ?_
     rintro e w8 ⟨rfl,hd8,hk8⟩;have hk2:=KD.call hHeld hk8;have HD8:=hid hd8;clear hd8 hk8;try dsimp only
     refine hK.out _ _ hk2 (fun hHeld=>?_);clear hK K hk2;try simp only[gS]
     refine tk [8,9] ?_;repeat (refine tkC hHeld (h:=?_);apply exq;(· intro W3 hS3;obtain⟨z1,z2,z3,z4,z5,z6,z7,z8⟩:=hFF W3 hS3;go_simp;try rfl);try simp only[gS])
     with_reducible refine tkE ?_
     refine wpAnyH_done ot ?_ _;try simp only[Exit.then]
     have HR9:Hid (StR base w3.heap.size (w3.heap.size+1) wr.heap.size P R n (upN B q1 ba) (upN B q1 ba) (xw,xa,xb,xs) w5 w8):=hid (HL1.out.turn (HD8.out.req fun j _=>by
      unfold upN;split
      ·exact hb9
      exact BookEq.refl _) hHeld)
     clear hHeld hFF hFG HL1 HD8 HRJ d0 d1 d2 d3 d4;go_wp2;exact HT.out _ _ _ _ _ _ _ _ HR9 rfl
   -- Copy
   replace m3:xw.tmod 6=5:=m3;have HCP:=hid (anE HR7.out.st.duo hq1 (m':=4) (l:=q2) (fun j hj=>.inr hj));obtain⟨x1,_⟩:=hFF w7 (KD.refl _ _);go_wp2_with fail
   refine HCP.out.mono ?_;rintro e wb ⟨a,rfl,hdb,hbb⟩;have hRb:=HR7.out.below hbb;obtain⟨_,p2,r1,r2,_⟩:=hRb.ff hq1 hq2 wb (KD.refl _ _);have f2:=hRb.st.arrP.frozen q2;have fr:=hRb.st.arrR.frozen q2;obtain⟨b1,b2,b3,b4,b5⟩:=hRb.setP hq2 hdb
   have hne:w3.heap.size≠R q1:=by
    obtain⟨F,G,h0⟩:=hdb;exact((h0.side w3.heap.size oz).2.2.2 q1 hq1).1
   obtain⟨vs,hvs,_⟩:=b1.ref hq1;obtain⟨a0,k0,s0⟩:=(hvs.2 0 om).shape
   obtain⟨a1,k1,s1⟩:=(hvs.2 1 om).shape
   obtain⟨a2,k2,s2⟩:=(hvs.2 2 om).shape
   obtain⟨a3,k3,s3⟩:=(hvs.2 3 om).shape
   have hw9:=(aok wb ⟨w3.heap.size,q2,none⟩ (.pointer (some ⟨a,0,none⟩)) (R q1) (by simpa using Ne.symm hne))
   have hv1:=hw9.symm.trans hvs.1;have hRR:=StR.copied hq2 hq1 HGX.out hRb.st.low b1 b2 b3 b4 b5 hvs;simp only[aos]at hRR;have HR9:=hid hRR;have c0:=heap_cell (j:=0) hv1 rfl;have c1:=heap_cell (j:=1) hv1 rfl;have c2:=heap_cell (j:=2) hv1 rfl;have c3:=heap_cell (j:=3) hv1 rfl;have c4:=heap_cell (j:=4) hv1 rfl;have hne2:¬R q1=w3.heap.size:=Ne.symm hne;obtain⟨sa,_⟩:∃s:ByteArray,s=s:=⟨emp,rfl⟩
   have HFZ:Hid (∀j o,((wb.setCell ⟨w3.heap.size,q2,none⟩ (.pointer (some ⟨a,0,none⟩))).alloc o).frozen? ⟨w3.heap.size+1,j,none⟩=false):=hid (fun j o=>(b3.below ((aoi _ _).alloc (aof _) o)).frozen j);clear hFF hdb hbb hRb b1 b2 b3 b4 b5 hvs hw9 hv1 hRR hne HR7 x1;have C0:wb.cell? ⟨R q1,0,none⟩=some (.int .i64 (n q1:Nat)):=c0;have C1:wb.cell? ⟨R q1,1,none⟩=some (vs 0):=c1;have C2:wb.cell? ⟨R q1,2,none⟩=some (vs 1):=c2;have C3:wb.cell? ⟨R q1,3,none⟩=some (vs 2):=c3;have C4:wb.cell? ⟨R q1,4,none⟩=some (vs 3):=c4;rw[s0,s1,s2,s3]at HR9;rw[s0]at C1;rw[s1]at C2;rw[s2]at C3;rw[s3]at C4;clear s0 s1 s2 s3 c0 c1 c2 c3 c4;have FZ:Hid (∀o,((wb.setCell ⟨w3.heap.size,q2,none⟩ (.pointer (some ⟨a,0,none⟩))).alloc o).frozen? ⟨w3.heap.size+1,q2,none⟩=false):=hid (fun o=>HFZ.out _ o);generalize (B q1 0).length=l0 at C1 HR9
   generalize (B q1 1).length=l1 at C2 HR9
   generalize (B q1 2).length=l2 at C3 HR9
   generalize (B q1 3).length=l3 at C4 HR9
   have E1:(wb.setCell ⟨w3.heap.size,q2,none⟩ (.pointer (some ⟨a,0,none⟩))).cell? ⟨w3.heap.size+1,q2,none⟩=some (.pointer (some ⟨R q2,0,none⟩)):=(World.cell?_setCell_other _ _ _ _ oz).trans r2
   have E2:((wb.setCell ⟨w3.heap.size,q2,none⟩ (.pointer (some ⟨a,0,none⟩))).alloc (.cells #[.int .i64 (n q1:Nat),.slice a0 l0 k0,.slice a1 l1 k1,.slice a2 l2 k2,.slice a3 l3 k3] 54)).cell? ⟨w3.heap.size+1,q2,none⟩=some (.pointer (some ⟨R q2,0,none⟩)):=keep_cell ((aoi _ _).alloc (aof _) _) E1
   have E3:((wb.setCell ⟨w3.heap.size,q2,none⟩ (.pointer (some ⟨a,0,none⟩))).alloc (.cells #[.int .i64 (n q1:Nat),.slice a0 l0 k0,.slice a1 l1 k1,.slice a2 l2 k2,.slice a3 l3 k3] 54)).frozen? ⟨w3.heap.size+1,q2,none⟩=false:=FZ.out _
   go_wp2;go_wp2;exact HT.out _ _ _ _ _ _ _ _ HR9 rfl
  obtain rfl:k=ln:=om;have HBE:Hid (Below w.heap.size w wr):=hid (by have h1:=HBW.out.trans HI.out.bel;rwa[HBS.out]at h1);go_wp2_with fail
  refine(a9A wr HI.out.duo.vars).mono ?_
  rintro e w9 ⟨rfl,hb9⟩;have HB9:=hid (below_trans HBE.out hb9);clear hb9;go_wp2;go_ret;exact⟨rfl,HB9.out⟩
end Go.Proofs.YtdfkaijeppdhaaaGreatDoor
