/- Part of the proof. -/
import Derived.Test.YtdfkaijeppdhaaaGreatDoorZHs17
import Derived.Test.YtdfkaijeppdhaaaGreatDoorZHs18
set_option maxRecDepth 100000
set_option maxHeartbeats 8000000

namespace Go.Proofs.YtdfkaijeppdhaaaGreatDoor
open Lib (hid)
open Proofs.Tryz Go.RowKit Go.Shelf
attribute [local go_sem] Oper.semAt_some
theorem Tryz.infoRest:(prog.info? 257).map (fun i=>(i.zero,i.size,i.bytes))=some (some (.agg #[.int .i64 0,.int .i64 0]),2,16):=ot
theorem Tryz.infoRests:(prog.info? 258).map (fun i=>(i.zero,i.size,i.bytes))=some (some (.slice none 0 0),1,24):=ot
def a8o(N:Nat):Array Value:=madeCells (Value.agg #[.int .i64 0,.int .i64 0]).cells (N * 2)
def a69(N:Nat):Array Value:=madeCells (Value.slice none 0 0).cells (N * 1)
theorem ajq(N:Nat):(a8o N).size=N * 2:=by simp[a8o,madeCells]
theorem agX(N:Nat):(a69 N).size=N:=by simp[a69,madeCells]
theorem alg(N:Nat)(hN:N<=100)(W:World):(Instr.makeSlice 258 (.int .i64 (N:Int)) (.int .i64 (N:Int))).run prog W= .ok (.slice (some ⟨W.heap.size,0,none⟩) N N) (W.alloc (.cells (a8o N) 257)):=by
 obtain⟨i,h1,h2,h3,h4⟩:=info_parts Tryz.infoRest;have:=run_make (P:=prog) W 258 257 i (.agg #[.int .i64 0,.int .i64 0]) underlying258 h1 h2 .i64 .i64 N N om (aoR _) (by rw[h4];omega) om
 rw[h3]at this;simpa [a8o]using this
theorem ajr(N:Nat)(hN:N<=100)(W:World):(Instr.makeSlice 259 (.int .i64 (N:Int)) (.int .i64 (N:Int))).run prog W= .ok (.slice (some ⟨W.heap.size,0,none⟩) N N) (W.alloc (.cells (a69 N) 258)):=by
 obtain⟨i,h1,h2,h3,h4⟩:=info_parts Tryz.infoRests;have:=run_make (P:=prog) W 259 258 i (.slice none 0 0) underlying259 h1 h2 .i64 .i64 N N om (aoR _) (by rw[h4];omega) om
 rw[h3]at this;simpa [a69]using this
def a7i(n0 Bo:Nat)(i:Int)(ms:List Nat)(u:Nat->Value):Act:=
 {tmps:=#[(u 0),.pointer (some ⟨n0,0,none⟩),(u 2),.pointer (some ⟨Bo,0,none⟩),.int .i64 i,(u 5),(u 6),(u 7),(u 8),(u 9),(u 10),(u 11),(u 12),(u 13),(u 14),(u 15),(u 16),(u 17),(u 18),(u 19),(u 20),(u 21),(u 22),(u 23),(u 24),(u 25),(u 26),(u 27),(u 28),(u 29),(u 30),(u 31),(u 32),(u 33),(u 34),(u 35),(u 36),(u 37),(u 38),(u 39),(u 40),(u 41),(u 42),(u 43),(u 44),(u 45),(u 46),(u 47),(u 48),(u 49),(u 50),(u 51),(u 52),(u 53),(u 54),(u 55),(u 56),(u 57),(u 58),(u 59),(u 60),(u 61),(u 62),(u 63),(u 64),(u 65),(u 66),(u 67),(u 68),(u 69),(u 70),(u 71),(u 72),(u 73),(u 74),(u 75),(u 76),(u 77),(u 78),(u 79),(u 80),(u 81),(u 82),(u 83),(u 84),(u 85),(u 86),(u 87)],defers:=ms.map adX}
theorem a9F{a':Act}{n0 Bo:Nat}{i:Int}{ms:List Nat}(h:a'=a7i n0 Bo i ms (fun k=>a'.tmps.getD k undef)):∃u,a'=a7i n0 Bo i ms u:=⟨_,h⟩
theorem amR(n0 Bo:Nat)(i:Int)(ms:List Nat)(u:Nat->Value):(a7i n0 Bo i ms u).tmps.getD 4 undef= .int .i64 i:=rfl
def a7j(n0 Bo:Nat)(i k:Int)(ms:List Nat)(u:Nat->Value):Act:=
 {tmps:=#[(u 0),.pointer (some ⟨n0,0,none⟩),(u 2),.pointer (some ⟨Bo,0,none⟩),.int .i64 i,.int .i64 k,(u 6),(u 7),(u 8),(u 9),(u 10),(u 11),(u 12),(u 13),(u 14),(u 15),(u 16),(u 17),(u 18),(u 19),(u 20),(u 21),(u 22),(u 23),(u 24),(u 25),(u 26),(u 27),(u 28),(u 29),(u 30),(u 31),(u 32),(u 33),(u 34),(u 35),(u 36),(u 37),(u 38),(u 39),(u 40),(u 41),(u 42),(u 43),(u 44),(u 45),(u 46),(u 47),(u 48),(u 49),(u 50),(u 51),(u 52),(u 53),(u 54),(u 55),(u 56),(u 57),(u 58),(u 59),(u 60),(u 61),(u 62),(u 63),(u 64),(u 65),(u 66),(u 67),(u 68),(u 69),(u 70),(u 71),(u 72),(u 73),(u 74),(u 75),(u 76),(u 77),(u 78),(u 79),(u 80),(u 81),(u 82),(u 83),(u 84),(u 85),(u 86),(u 87)],defers:=ms.map adX}
theorem a9G{a':Act}{n0 Bo:Nat}{i k:Int}{ms:List Nat}(h:a'=a7j n0 Bo i k ms (fun k=>a'.tmps.getD k undef)):∃u,a'=a7j n0 Bo i k ms u:=⟨_,h⟩
theorem amS(n0 Bo:Nat)(i k:Int)(ms:List Nat)(u:Nat->Value):(a7j n0 Bo i k ms u).tmps.getD 5 undef= .int .i64 k:=rfl
def okR(s t:ByteArray)(i k e:Nat)(v:Value):Prop:=if e=0 then v= .int .i64 (cst s.data.toList t.data.toList i k:Nat)else∃y:Int,v= .int .i64 y
abbrev TabR(s t:ByteArray)(n0 O:Nat):=Tab 258 257 2 n0 O s.size t.size (okR s t)
structure RsW(s t:ByteArray)(w:World)(n0 O Bo:Nat)(G:Nat->Nat)(lo kk:Nat)(ms:List Nat)(W:World):Prop where
 p:W.heap[n0]? =some (.cells #[.string s,.string t,.int .i64 1,.int .i64 1] 253 (0,0))
 o:W.heap[Bo]? =some (.cells #[.slice (some ⟨O,0,none⟩) (s.size+1) (s.size+1)] 259 (0,0))
 tab:TabR s t n0 O G lo kk W
 marks:MarksAt n0 ms W
 bel:Below n0 w W
 hb:n0<=Bo
 ne:O≠n0/\O≠Bo/\Bo≠n0
def KS(n0 Bo:Nat)(W W':World):Prop:=∀k,(k=n0\/k=Bo)->W'.heap[k]? =W.heap[k]?
theorem MarksAt.not_cells{B:Nat}{ms:List Nat}{W:World}(h:MarksAt B ms W){k:Nat}{A:Array Value}{T:TypeId}{fr:Nat×Nat}(hk:W.heap[k]? =some (.cells A T fr)):k∉ms:=fun hm=>by
 have:=(h.2 k hm).2
 rw[hk]at this;cases this
theorem RsW.keep{s t:ByteArray}{w:World}{n0 O Bo:Nat}{G:Nat->Nat}{lo kk:Nat}{ms:List Nat}{W W':World}(h:RsW s t w n0 O Bo G lo kk ms W)(hb:Below W.heap.size W W'):RsW s t w n0 O Bo G lo kk ms W':=
 ⟨(hb.block _ (aog.1 h.p).1).trans h.p,(hb.block _ (aog.1 h.o).1).trans h.o,h.tab.below hb,h.marks.kept (fun D hD=>hb.block D (aog.1 (h.marks.2 D hD).2).1),h.bel.trans (hb.mono (apG (aog.1 h.p).1)),h.hb,h.ne⟩
theorem RsW.more{s t:ByteArray}{w:World}{n0 O Bo:Nat}{G:Nat->Nat}{lo:Nat}{ms:List Nat}{W:World}(h:RsW s t w n0 O Bo G (lo+1) 0 ms W)(hlo:lo<=s.size):
  RsW s t w n0 O Bo (a2H G lo W.heap.size) lo (t.size+1) ms ((W.alloc (.cells (a8o (t.size+1)) 257)).setCell ⟨O,lo,none⟩ (.slice (some ⟨W.heap.size,0,none⟩) (t.size+1) (t.size+1))).drew:=by
 have hal:Below W.heap.size W (W.alloc (.cells (a8o (t.size+1)) 257)):=(aoi _ _).alloc (aof _) _
 have hOl:=h.tab.lt;have hk:∀k,k<W.heap.size->k≠O->((W.alloc (.cells (a8o (t.size+1)) 257)).setCell ⟨O,lo,none⟩ (.slice (some ⟨W.heap.size,0,none⟩) (t.size+1) (t.size+1))).drew.heap[k]? =W.heap[k]? :=fun k h1 h2=>(a01 h2).trans (hal.block k h1)
 refine⟨(hk _ (aog.1 h.p).1 (Ne.symm h.ne.1)).trans h.p,(hk _ (aog.1 h.o).1 (Ne.symm h.ne.2.1)).trans h.o,
  h.tab.more hlo (aof _) ((a01 om).trans (World.alloc_heap_new W _)) (ajq _) (fun A hA=>a0p ((hal.block _ hOl).trans hA)) hk,
  h.marks.kept (fun D hD=>hk D (aog.1 (h.marks.2 D hD).2).1 (fun e=>?_)),?_,h.hb,h.ne⟩
 ·obtain⟨A,h5,_⟩:=h.tab.rows;exact h.marks.not_cells h5 (e▸hD)
 exact((h.bel.alloc (apG (aog.1 h.p).1) _).setCell (p:=⟨O,lo,none⟩) h.tab.top _).drew
def anI(s t:ByteArray)(w:World)(n0 O Bo:Nat)(a':Act)(W:World):Prop:=∃(j:Nat) (i:Int) (ms:List Nat) (G:Nat->Nat),(j<=s.size+1/\i=(j:Int)-1/\RsW s t w n0 O Bo G j 0 ms W)/\∃u,a'=a7i n0 Bo i ms u
def anJ(s t:ByteArray)(w:World)(n0 O Bo:Nat)(G:Nat->Nat)(j0:Nat)(a':Act)(W:World):Prop:=∃(q:Nat) (k:Int) (ms:List Nat),(q<=t.size+1/\k=(q:Int)-1/\RsW s t w n0 O Bo G j0 q ms W)/\∃u,a'=a7j n0 Bo j0 k ms u
structure BdI(s t:ByteArray)(W2:World)(n4:Nat)(pre:List Stp)(W:World):Prop where
 bel:Below W2.heap.size W2 W
 best:∃y:Int,W.heap[W2.heap.size]? =some (.cells #[.int .i64 ((a1A s.data.toList t.data.toList pre).getD 0:Nat),.int .i64 y] 257 (0,0))
 first:W.heap[W2.heap.size+1]? =some (.cells #[.bool pre.isEmpty] 4 (0,0))
 size:n4<=W.heap.size
theorem adY{W:World}{r k:Nat}{o:Obj}{cur:Array Value}{t:TypeId}{fr:Nat×Nat}(ho:W.heap[r]? =some o)(hc:o.isCells=false)(hk:W.heap[k]? =some (.cells cur t fr)):some k≠some r:=fun e=>by
 simp only[Option.some.injEq]at e;subst e;rw[ho]at hk;cases hk
 simp[Obj.isCells]at hc
theorem BdI.own{s t:ByteArray}{W2:World}{n4:Nat}{α:Type}(f:α->List Stp)(hn:W2.heap.size<=n4):OwnFrom n4 (fun(a:α) W=>BdI s t W2 n4 (f a) W):=by
 rintro a W W' row ⟨hb,⟨y,hy⟩,hf,hz⟩ hg hr
 have cellsKept:∀(k:Nat) cur t fr,W.heap[k]? =some (Obj.cells cur t fr)->W'.heap[k]? =W.heap[k]? :=fun k cur t fr h=>by
  refine hg.block k (aog.1 h).1 (fun e=>?_)
  obtain⟨_,o,ho,hc⟩:=hr k e.symm;exact adY ho hc h rfl
 exact⟨hb.grown hg hb.size (fun k e=>by have:=(hr k e).1;omega),⟨y,(cellsKept _ _ _ _ hy).trans hy⟩,(cellsKept _ _ _ _ hf).trans hf,aor hz hg.size⟩
theorem BdI.keep{s t:ByteArray}{W2:World}{n4:Nat}{pre:List Stp}{W W':World}(h:BdI s t W2 n4 pre W)(hb:Below W.heap.size W W'):BdI s t W2 n4 pre W':=by
 obtain⟨y,hy⟩:=h.best;exact⟨h.bel.trans (hb.mono h.bel.size),⟨y,(hb.block _ (aog.1 hy).1).trans hy⟩,(hb.block _ (aog.1 h.first).1).trans h.first,aor h.size hb.size⟩
def VarS(B:Nat)(x:Stp)(p:Nat)(W:World):Prop:=B<=p/\W.heap[p]? =some (.cells #[.int .i64 x.edit,.int .i64 x.i,.int .i64 x.k,.int .i64 x.cost] 291 (0,0))
theorem VarS.own{B:Nat}(x:Stp)(p:Nat)(n0:Nat):OwnFrom n0 (fun(_:Unit) W=>VarS B x p W):=fun _ X Y row hs hg hr=>by
 refine⟨hs.1,(hg.block _ (aog.1 hs.2).1 (fun e=>?_)).trans hs.2⟩;obtain⟨_,o,ho,hc⟩:=hr p e.symm;exact adY ho hc hs.2 rfl
def aaL(n0 Bo bb bf p:Nat)(u:Nat->Value):Act:=
 {tmps:=#[(u 0),.pointer (some ⟨n0,0,none⟩),(u 2),.pointer (some ⟨Bo,0,none⟩),(u 4),(u 5),.pointer (some ⟨bb,0,none⟩),.pointer (some ⟨bf,0,none⟩),.pointer (some ⟨p,0,none⟩),(u 9),(u 10),(u 11),(u 12),(u 13),(u 14),(u 15),(u 16),(u 17),(u 18),(u 19),(u 20),(u 21),(u 22),(u 23),(u 24),(u 25),(u 26),(u 27),(u 28),(u 29),(u 30),(u 31),(u 32),(u 33),(u 34),(u 35),(u 36),(u 37),(u 38),(u 39),(u 40),(u 41),(u 42),(u 43),(u 44),(u 45),(u 46),(u 47),(u 48),(u 49),(u 50),(u 51),(u 52),(u 53),(u 54),(u 55),(u 56),(u 57),(u 58),(u 59),(u 60),(u 61),(u 62),(u 63),(u 64),(u 65),(u 66),(u 67),(u 68),(u 69),(u 70),(u 71),(u 72),(u 73),(u 74),(u 75),(u 76),(u 77),(u 78),(u 79),(u 80),(u 81),(u 82),(u 83),(u 84),(u 85),(u 86),(u 87)],defers:=[]}
theorem ajs{a':Act}{n0 Bo bb bf p:Nat}(h:a'=aaL n0 Bo bb bf p (fun k=>a'.tmps.getD k undef)):∃u,a'=aaL n0 Bo bb bf p u:=⟨_,h⟩
def KNg(g:Nat)(w W:World):Prop:=∀k,k<w.heap.size->k≠g->W.heap[k]? =w.heap[k]?
theorem KNg.cell{g:Nat}{w W:World}(h:KNg g w W){b o:Nat}{v:Value}(hb:b≠g)(hc:w.cell? ⟨b,o,none⟩=some v):W.cell? ⟨b,o,none⟩=some v:=
 (World.cell?_of_block (h b (World.block_lt_of_cell? _ _ hc) hb)).trans hc
def KC(w W:World):Prop:=Below w.heap.size w W
structure TurnW(W' W5:World)(bb bf:Nat)(W9:World):Prop where
 os:W9.os=W5.os
 tape:W9.tape=W5.tape
 output:W9.output=W5.output
 size:W9.heap.size=W5.heap.size
 bel:Below W'.heap.size W' W5
 block:∀k,k<W'.heap.size->k≠bb->k≠bf->W9.heap[k]? =W5.heap[k]?
theorem BdI.turn{s t:ByteArray}{W2:World}{n4:Nat}{pre pre':List Stp}{W' W5 W9:World}(h:BdI s t W2 n4 pre W')(ht:TurnW W' W5 W2.heap.size (W2.heap.size+1) W9)(hn:W2.heap.size+2<=n4)(hpre:pre'.isEmpty=false)
  (hb:∃y:Int,W9.heap[W2.heap.size]? =some (.cells #[.int .i64 ((a1A s.data.toList t.data.toList pre').getD 0:Nat),.int .i64 y] 257 (0,0)))
  (hf:W9.heap[W2.heap.size+1]? =some (.cells #[.bool false] 4 (0,0))):KeepsFrom n4 W' W9/\Kq W' W9/\BdI s t W2 n4 pre' W9:=by
 have hk:∀k,k<W'.heap.size->k≠W2.heap.size->k≠W2.heap.size+1->W9.heap[k]? =W'.heap[k]? :=fun k h1 h2 h3=>(ht.block k h1 h2 h3).trans (ht.bel.block k h1)
 have hsz:W'.heap.size<=W9.heap.size:=by rw[ht.size];exact ht.bel.size
 refine⟨⟨hsz,fun i o hi ho _=>?_⟩,fun b cur e fr he hbk=>?_,⟨?_,hb,by rw[hpre];exact hf,aor h.size hsz⟩⟩
 ·exact(hk i (aog.1 ho).1 om om).trans ho
 ·refine(hk b (aog.1 hbk).1 (fun e2=>?_) (fun e2=>?_)).trans hbk
  ·subst e2;obtain⟨y,hy⟩:=h.best;rw[hy]at hbk;simp only[Option.some.injEq,Obj.cells.injEq]at hbk;obtain⟨_,rfl,_⟩:=hbk;rcases he with he|he<;>exact absurd he ox
  subst e2;have hy:=h.first;rw[hy]at hbk;simp only[Option.some.injEq,Obj.cells.injEq]at hbk;obtain⟨_,rfl,_⟩:=hbk;rcases he with he|he<;>exact absurd he ox
 exact⟨ht.os.trans (ht.bel.os.trans h.bel.os),ht.tape.trans (ht.bel.tape.trans h.bel.tape),ht.output.trans (ht.bel.output.trans h.bel.output),aor h.bel.size hsz,fun k h1=>(hk k (aox h1 h.bel.size) om om).trans (h.bel.block k h1)⟩
theorem adZ{s t:List UInt8}{l:List Stp}(h:l≠[]):∃b,a1A s t l=some b:=by
 rcases List.eq_nil_or_concat l with h1|⟨r,x,rfl⟩
 ·exact absurd h1 h
 rw[List.concat_eq_append,a4n];exact⟨_,rfl⟩
section
variable{W' W5:World}{pr bb bf:Nat}{a b0 b1 f u v:Value}{T F:TypeId}{fr:Nat×Nat}
theorem acl(hp:pr=W'.heap.size)(_n1:¬bb=pr)(_n2:¬bf=pr)(h:Below W'.heap.size W' W5):TurnW W' W5 bb bf ((((W5.setCell ⟨pr,0,none⟩ a).setCell ⟨bb,0,none⟩ b0).setCell ⟨bb,1,none⟩ b1).setCell ⟨bf,0,none⟩ f):=
 ⟨rfl,rfl,rfl,by simp only[aos],h,fun k h1 h2 h3=>(a01 h3).trans ((a01 h2).trans ((a01 h2).trans (a01 om)))⟩
theorem agY(hp:pr=W'.heap.size)(_n1:¬bb=pr)(_n2:¬bf=pr)(h:Below W'.heap.size W' W5):TurnW W' W5 bb bf (((W5.setCell ⟨pr,0,none⟩ a).setCell ⟨bb,1,none⟩ b1).setCell ⟨bf,0,none⟩ f):=
 ⟨rfl,rfl,rfl,by simp only[aos],h,fun k h1 h2 h3=>(a01 h3).trans ((a01 h2).trans (a01 om))⟩
theorem alh(hp:pr=W'.heap.size)(_n1:¬bb=pr)(_n2:¬bf=pr)(h:Below W'.heap.size W' W5):TurnW W' W5 bb bf ((W5.setCell ⟨pr,0,none⟩ a).setCell ⟨bf,0,none⟩ f):=
 ⟨rfl,rfl,rfl,by simp only[aos],h,fun k h1 h2 h3=>(a01 h3).trans (a01 om)⟩
theorem acm(n1:¬bb=pr)(n5:¬bb=bf)(h:W5.heap[bb]? =some (.cells #[u,v] T fr)):((((W5.setCell ⟨pr,0,none⟩ a).setCell ⟨bb,0,none⟩ b0).setCell ⟨bb,1,none⟩ b1).setCell ⟨bf,0,none⟩ f).heap[bb]? =some (.cells #[b0,b1] T fr):=
 (a01 n5).trans (a0p (a0p ((a01 n1).trans h)))
theorem agZ(n1:¬bb=pr)(n5:¬bb=bf)(h:W5.heap[bb]? =some (.cells #[u,v] T fr)):(((W5.setCell ⟨pr,0,none⟩ a).setCell ⟨bb,1,none⟩ b1).setCell ⟨bf,0,none⟩ f).heap[bb]? =some (.cells #[u,b1] T fr):=
 (a01 n5).trans (a0p ((a01 n1).trans h))
theorem ali(n1:¬bb=pr)(n5:¬bb=bf)(h:W5.heap[bb]? =some (.cells #[u,v] T fr)):((W5.setCell ⟨pr,0,none⟩ a).setCell ⟨bf,0,none⟩ f).heap[bb]? =some (.cells #[u,v] T fr):=
 (a01 n5).trans ((a01 n1).trans h)
theorem aaM(n2:¬bf=pr)(n6:¬bf=bb)(h:W5.heap[bf]? =some (.cells #[u] F fr)):((((W5.setCell ⟨pr,0,none⟩ a).setCell ⟨bb,0,none⟩ b0).setCell ⟨bb,1,none⟩ b1).setCell ⟨bf,0,none⟩ f).heap[bf]? =some (.cells #[f] F fr):=
 a0p ((a01 n6).trans ((a01 n6).trans ((a01 n2).trans h)))
theorem afo(n2:¬bf=pr)(n6:¬bf=bb)(h:W5.heap[bf]? =some (.cells #[u] F fr)):(((W5.setCell ⟨pr,0,none⟩ a).setCell ⟨bb,1,none⟩ b1).setCell ⟨bf,0,none⟩ f).heap[bf]? =some (.cells #[f] F fr):=
 a0p ((a01 n6).trans ((a01 n2).trans h))
theorem ajt(n2:¬bf=pr)(_n6:¬bf=bb)(h:W5.heap[bf]? =some (.cells #[u] F fr)):((W5.setCell ⟨pr,0,none⟩ a).setCell ⟨bf,0,none⟩ f).heap[bf]? =some (.cells #[f] F fr):=
 a0p ((a01 n2).trans h)
end
theorem RsW.put{s t:ByteArray}{w:World}{n0 O Bo:Nat}{G:Nat->Nat}{lo kk:Nat}{ms ms':List Nat}{W2 W:World}{y:Int}(h:RsW s t w n0 O Bo G lo (kk+1) ms W2)(hb:Below W2.heap.size W2 W)(hm:MarksAt n0 ms' W)(hlo:lo<=s.size)(hkk:kk<=t.size):
  RsW s t w n0 O Bo G lo kk ms' ((W.setCell ⟨G lo,kk * 2,none⟩ (.int .i64 (cst s.data.toList t.data.toList lo kk:Nat))).setCell ⟨G lo,kk * 2+1,none⟩ (.int .i64 y)).drew:=by
 have hR:=h.keep hb;obtain⟨A,hA,hAs,_⟩:=hR.tab.row lo (aof _) hlo
 have hne:∀k B T fr,W.heap[k]? =some (Obj.cells B T fr)->T≠257->k≠G lo:=fun k B T fr h1 h2 e=>by
  subst e;rw[hA]at h1;simp only[Option.some.injEq,Obj.cells.injEq]at h1;exact h2 h1.2.1.symm
 have hk:∀k,k≠G lo->((W.setCell ⟨G lo,kk * 2,none⟩ (.int .i64 (cst s.data.toList t.data.toList lo kk:Nat))).setCell ⟨G lo,kk * 2+1,none⟩ (.int .i64 y)).drew.heap[k]? =W.heap[k]? :=fun k h1=>(a01 h1).trans (a01 h1)
 refine⟨(hk _ (hne _ _ _ _ hR.p ox)).trans hR.p,(hk _ (hne _ _ _ _ hR.o ox)).trans hR.o,hR.tab.put hlo hkk (fun B hB=>⟨_,a0p (a0p hB),by simp,fun j hj=>?_,fun e he=>?_⟩) (fun k _ h1=>hk k h1),hm.kept (fun D hD=>hk D (fun e=>?_)),?_,hR.hb,hR.ne⟩
 ·rw[apb om,apb om]
 ·have hBs:B.size=(t.size+1) * 2:=by
   rw[hA]at hB;simp only[Option.some.injEq,Obj.cells.injEq]at hB;rw[<-hB.1];exact hAs
  rcases (show e=0\/e=1 by omega)with rfl|rfl
  ·refine⟨_,?_,by unfold okR;rw[if_pos rfl]⟩;simp only[apM];rw[apb om,app om]
  refine⟨_,?_,by unfold okR;rw[if_neg ox];exact⟨y,rfl⟩⟩;rw[app km]
 ·exact hm.not_cells hA (e▸hD)
 have h9:=(hR.tab.sep lo (aof _) hlo).2
 exact((hR.bel.setCell (p:=⟨G lo,kk * 2,none⟩) h9 _).setCell (p:=⟨G lo,kk * 2+1,none⟩) h9 _).drew
def acn(s t:ByteArray)(w:World)(e:Ending)(w':World):Prop:=∃O G,e= .returned (.slice (some ⟨O,0,none⟩) (s.size+1) (s.size+1))/\TabR s t w.heap.size O G 0 0 w'/\Below w.heap.size w w'
theorem alj (s t:ByteArray) (hs:s.size<=20) (ht:t.size<=20) (w:World):
  CallsIn Fence.wide 4 prog 199 #[.agg #[.string s,.string t,.int .i64 1,.int .i64 1]] w (acn s t w):=by
 have hmkO:=fun W=>ajr (s.size+1) om W;rw[show ((s.size+1:Nat):Int)=(s.size:Int)+1 from rfl]at hmkO;have hw1:IntKind.i64.wrap ((s.size:Int)+1)=(s.size:Int)+1:=IntWalk.i64_in _ om;refine callsIn_of_wp_marks func199 rfl trivial ?_ rfl;simp only[ntmps199,ape,aom,aow,Nat.reduceAdd,Nat.reduceSub,ap3,ap4,apf,ap7,aoM,aoA];gi_wp2;obtain⟨n0,hn0⟩:∃n0,n0=w.heap.size:=⟨_,rfl⟩
 obtain⟨W0,hW0⟩:∃W0,W0=((w.alloc (.cells #[.string s,.string t,.int .i64 1,.int .i64 1] 253)).alloc (.cells (a69 (s.size+1)) 258)).alloc (.cells #[.slice (some ⟨w.heap.size+1,0,none⟩) (s.size+1) (s.size+1)] 259):=⟨_,rfl⟩
 have hR0:RsW s t w n0 (n0+1) (n0+2) (fun _=>0) (s.size+1) 0 [] W0:=by
  have h1:=World.alloc_heap_new w (.cells #[.string s,.string t,.int .i64 1,.int .i64 1] 253);have h2:=World.alloc_heap_new (w.alloc (.cells #[.string s,.string t,.int .i64 1,.int .i64 1] 253)) (.cells (a69 (s.size+1)) 258);have h3:=World.alloc_heap_new ((w.alloc (.cells #[.string s,.string t,.int .i64 1,.int .i64 1] 253)).alloc (.cells (a69 (s.size+1)) 258)) (.cells #[.slice (some ⟨w.heap.size+1,0,none⟩) (s.size+1) (s.size+1)] 259);rw[aoq]at h2;rw[aoq,aoq]at h3;rw[hn0,hW0];have h4:=(aop ((w.alloc (.cells #[.string s,.string t,.int .i64 1,.int .i64 1] 253)).alloc (.cells (a69 (s.size+1)) 258)) (.cells #[.slice (some ⟨w.heap.size+1,0,none⟩) (s.size+1) (s.size+1)] 259) (w.heap.size+1) oz).trans h2
  exact⟨(aop _ _ _ km).trans ((aop _ _ _ oz).trans h1),h3,Tab.start h4 (agX _) om _ _,MarksAt.nil _ _,(((aoi _ w).alloc (aof _) _).alloc oz _).alloc km _,om,om⟩
 rw[<-hW0,<-hn0];have HR0:=hid hR0;have HN0:=hid hn0;clear hW0 hR0 hmkO hw1 hn0;obtain⟨O,hO⟩:∃O,O=n0+1:=⟨_,rfl⟩
 obtain⟨Bo,hBo⟩:∃Bo,Bo=n0+2:=⟨_,rfl⟩
 rw[<-hBo];rw[<-hO,<-hBo]at HR0;clear hO hBo
 refine wpIn_loop (anI s t w n0 O Bo)
  (fun a' W=>(intOf (a'.tmps.getD 4 undef)+1).toNat) ?start ?round
 case start=>exact⟨s.size+1,_,[],_,⟨aof _,om,HR0.out⟩,a9F rfl⟩
 case round=>
  rintro _ W ⟨j,i,ms,G,⟨hj,hi,hR⟩,u,rfl⟩;rw[amR];unfold a7i;rcases apI j with h0|h0
  ·subst h0;have hneg:¬(0:Int)<=i:=om;have c0:=heap_cell (j:=0) hR.o rfl;have HR:=hid hR;clear hR hi;gi_wp2;refine a8n ms _ HR.out.marks (fun W7 h1 _ h3=>⟨_,results_tmp rfl _ _ _,?_⟩);have hk:∀k A T fr,W.heap[k]? =some (Obj.cells A T fr)->W7.heap[k]? =W.heap[k]? :=fun k A T fr h=>h1 k (HR.out.marks.not_cells h);refine⟨O,G,rfl,?_,?_⟩
   ·rw[<-HN0.out];obtain⟨A,h5,_⟩:=HR.out.tab.rows
    exact HR.out.tab.keep (hk _ _ _ _ h5) (fun i2 h6 h7=>by
     obtain⟨B,h8,_⟩:=HR.out.tab.row i2 h6 h7;exact hk _ _ _ _ h8)
   rw[<-HN0.out];exact HR.out.bel.trans h3
  obtain⟨j0,rfl⟩:∃j0,j=j0+1:=⟨j-1,om⟩
  obtain rfl:i=(j0:Int):=om;have hpos:(0:Int)<=(j0:Int):=om;have hjs:j0<s.size+1:=om;have hji:(j0:Int)<(s.size:Int)+1:=om;have r0:∀W',KS n0 Bo W W'->W'.cell? ⟨Bo,0,none⟩=some (.slice (some ⟨O,0,none⟩) (s.size+1) (s.size+1)):=fun W' h=>heap_cell ((h _ (.inr rfl)).trans hR.o) rfl;have r1:∀W',KS n0 Bo W W'->W'.cell? ⟨n0,1,none⟩=some (.string t):=fun W' h=>heap_cell ((h _ (.inl rfl)).trans hR.p) rfl;have hmkR:=fun W=>alg (t.size+1) om W;rw[show ((t.size+1:Nat):Int)=(t.size:Int)+1 from rfl]at hmkR;have hw1:IntKind.i64.wrap ((t.size:Int)+1)=(t.size:Int)+1:=IntWalk.i64_in _ om;have hHeld:KS n0 Bo W W.drew:=fun _ _=>rfl;have hal:Below W.heap.size W (W.alloc (.cells (a8o (t.size+1)) 257)):=(aoi _ _).alloc (aof _) _
  obtain⟨v0,hv0⟩:=(hR.tab.below hal).holdO (i:=j0) om
  have hf0:=(hR.tab.below hal).frozenO j0
  have HLT:Hid (n0<W.heap.size/\Bo<W.heap.size/\O<W.heap.size):=hid ⟨(aog.1 hR.p).1,(aog.1 hR.o).1,hR.tab.lt⟩;have HR:=hid hR;have HJ:=hid hj;clear hR hi h0 hj hal;gi_wp2;refine wpIn_wide.2 ?_;refine Code.wp_mono (Q:=fun e a' W'=>e= .normal/\(∃u,a'=a7i n0 Bo (j0:Int) ms u)/\RsW s t w n0 O Bo (a2H G j0 W.heap.size) j0 (t.size+1) ms W') ?next1 ?reg1
  case reg1=>
   refine wp_region_held_drew (S:=KS n0 Bo W) ot hHeld (fun hHeld=>?_);refine tk [0,1,2,3,4,5] ?_;repeat (refine tkC hHeld (h:=?_);apply exq;(· intro W3 hS3;go_simp;try rfl);try simp only[gS])
   with_reducible refine tkE ?_
   refine rdy 6 (h:=fun K hK=>?_);go_simp;refine hK.out _ _ ?keep (fun hHeld=>?_);clear hK K;try simp only[gS]
   case keep=>
    rintro k (rfl|rfl)
    ·exact aop _ _ _ HLT.out.1
    exact aop _ _ _ HLT.out.2.1
   refine tk [7] ?_;repeat (refine tkC hHeld (h:=?_);apply exq;(· intro W3 hS3;go_simp;try rfl);try simp only[gS])
   with_reducible refine tkE ?_
   refine rdy 8 (h:=fun K hK=>?_);go_simp;refine hK.out _ _ ?keep (fun hHeld=>?_);clear hK K;try simp only[gS]
   case keep=>
    rintro k (rfl|rfl)
    ·exact(a01 (Ne.symm HR.out.ne.1)).trans (aop _ _ _ HLT.out.1)
    exact(a01 (Ne.symm HR.out.ne.2.1)).trans (aop _ _ _ HLT.out.2.1)
   exact wpAnyH_done ot ⟨rfl,a9F rfl,HR.out.more (by have:=HJ.out;omega)⟩ _
  case next1=>
   clear r0 r1 hmkR hHeld hf0 hv0;rintro e a' W1 ⟨rfl,⟨u1,rfl⟩,hR1⟩;unfold a7i;generalize a2H G j0 W.heap.size=G1 at *;have c1:=heap_cell (j:=1) hR1.p rfl;have HR1:=hid hR1;clear hR1;gi_wp2;clear c1
   refine wpIn_loop (anJ s t w n0 O Bo G1 j0)
    (fun a' W=>(intOf (a'.tmps.getD 5 undef)+1).toNat) ?start ?round
   case start=>exact⟨t.size+1,_,ms,⟨aof _,om,HR1.out⟩,a9G rfl⟩
   case round=>
    rintro _ W2 ⟨q,k,ms2,⟨hq,hk,hR2⟩,u2,rfl⟩;rw[amS];unfold a7j;rcases apI q with h0|h0
    ·subst h0;have hneg:¬(0:Int)<=k:=om;have HR2:=hid hR2;clear hR2 hk;have hw2:IntKind.i64.wrap ((j0:Int)-1)=(j0:Int)-1:=IntWalk.i64_in _ om;gi_wp2;refine⟨⟨j0,_,ms2,G1,⟨om,rfl,HR2.out⟩,a9F rfl⟩,?_⟩;simp only[intOf];omega
    obtain⟨k0,rfl⟩:∃k0,q=k0+1:=⟨q-1,om⟩
    obtain rfl:k=(k0:Int):=om;have hpos2:(0:Int)<=(k0:Int):=om;have HR2:=hid hR2;have HQ:=hid hq;clear hR2 hk h0 hq;obtain⟨bb,hbb⟩:∃bb,bb=W2.heap.size:=⟨_,rfl⟩
    obtain⟨W3,hW3⟩:∃W3,W3=(W2.alloc (.cells #[.int .i64 0,.int .i64 1] 257)).alloc (.cells #[.bool true] 4):=⟨_,rfl⟩
    have hb3:Below W2.heap.size W2 W3:=by rw[hW3];exact((aoi _ _).alloc (aof _) _).alloc oz _
    have hz3:W3.heap.size=W2.heap.size+2:=by rw[hW3];simp
    have hn3:W3.heap[W2.heap.size]? =some (.cells #[.int .i64 0,.int .i64 1] 257 (0,0))/\W3.heap[W2.heap.size+1]? =some (.cells #[.bool true] 4 (0,0)):=by
     have h2:=World.alloc_heap_new (W2.alloc (.cells #[.int .i64 0,.int .i64 1] 257)) (.cells #[.bool true] 4);rw[aoq]at h2;rw[hW3];exact⟨(aop _ _ _ oz).trans (World.alloc_heap_new W2 _),h2⟩
    have hpp:=(HR2.out.keep hb3).p
    have d0:=heap_cell (j:=0) hpp rfl;have d1:=heap_cell (j:=1) hpp rfl;have d2:=heap_cell (j:=2) hpp rfl;have d3:=heap_cell (j:=3) hpp rfl;rw[hW3]at d0 d1 d2 d3;have HW3:=hid hW3;have HB3:=hid hb3;have HZ3:=hid hz3;have HN3:=hid hn3;clear hpp hW3 hb3 hz3 hn3;gi_wp2;refine⟨trivial,(alf s t j0 k0 _).mono ?_⟩;rintro e w' ⟨rfl,rfl⟩;rw[<-HW3.out];clear d0 d1 d2 d3;obtain⟨W4,hW4⟩:∃W4,W4=a5a s t j0 k0 W3:=⟨_,rfl⟩
    rw[<-hW4];have hb4:Below W3.heap.size W3 W4:=by rw[hW4];exact adW s t j0 k0 W3
    have hz4:W4.heap.size=W2.heap.size+5:=by rw[hW4,afk,HZ3.out]
    have hst4:StAt s t j0 k0 (W3.heap.size+1) W3.heap.size (W3.heap.size+2) W4:=by rw[hW4];exact ajp s t j0 k0 W3
    have hI0:BdI s t W2 W4.heap.size [] W4:=⟨HB3.out.trans (hb4.mono HB3.out.size),⟨1,(hb4.block _ (by rw[HZ3.out];omega)).trans HN3.out.1⟩,(hb4.block _ (by rw[HZ3.out];omega)).trans HN3.out.2,aof _⟩
    have HB4:=hid hb4;have HZ4:=hid hz4;have HI0:=hid hI0;have HST4:=hid hst4;clear hW4 hb4 hz4 hI0 hst4;gi_wp2;have h14:1<=4:=om
    refine wpIn_rangeFunc_ownH rfl h14 (gf:=253) (lb:=#[.pointer (some ⟨W3.heap.size+1,0,none⟩),.pointer (some ⟨W3.heap.size,0,none⟩),.pointer (some ⟨W3.heap.size+2,0,none⟩)]) rfl trivial (enters_of func253 ot rfl)
     (afj (W3.heap.size+1) W3.heap.size (W3.heap.size+2) s t j0 k0 (by have:=HJ.out;omega) (by have:=HQ.out;omega) hs ht W4 HST4.out) Kq.trans (fun W l o o' hl hh hcc hw=>Kq.put W l o o' hh hcc) (aoi _ _) (fun _=>rfl)
     (fun pre W'=>BdI s t W2 W4.heap.size (pre.map Subtype.val) W')
     (fun _ _ _=>False)
     (BdI.own (fun pre:List (a6D (a0t s.data.toList t.data.toList j0 k0))=>pre.map Subtype.val) (by rw[HZ4.out];omega))
     (fun _ _ _ _ _ hs _ _=>hs)
     HI0.out
     (fun d a' W'=>∃p,VarS W4.heap.size d.1 p W'/\∃u,a'=aaL n0 Bo W2.heap.size (W2.heap.size+1) p u)
     (fun x a' s W W' row hs hg hr=>by obtain⟨p,hp,e⟩:=hs;exact⟨p,VarS.own x.1 p _ () W W' row hp hg hr,e⟩) ?assign ?body ?done ?stop
    case assign=>
     rintro rl pre ⟨x,hx⟩ W' K hI hK;simp only[a4o];have HI7:=hid (hI.keep ((aoi _ W').alloc (aof _) (.cells #[.int .i64 x.edit,.int .i64 x.i,.int .i64 x.k,.int .i64 x.cost] 291)));have hz7:=hI.size;clear hI;gi_wp2;exact hK _ _ ((KeepsOthers.alloc W' _).from _) (Kq.below ((aoi _ W').alloc (aof _) _)) HI7.out ⟨W'.heap.size,⟨hz7,World.alloc_heap_new W' _⟩,ajs rfl⟩
    case body=>
     rintro rl pre ⟨⟨xe,xi,xk,xc⟩,hx⟩ a' W' hrl hlo hI ⟨p,⟨hp0,hp⟩,u3,rfl⟩ hlt;simp only at hp;have hrw:=HR2.out.keep hI.bel;obtain⟨hm1,hm2,hm3,hm4⟩:=aaK (by rw[<-a05];have:=HJ.out;omega) (by rw[<-a05];have:=HQ.out;omega) hx;rw[<-a05]at hm1 hm2;simp only at hm1 hm2 hm3 hm4;have q0:=hrw.tab.look (i:=xi) om hm1;obtain⟨v1,q1,hv1⟩:=hrw.tab.entry (i:=xi) (k:=xk) (e:=0) om hm1 hm2 om om;obtain⟨v2,q2,hv2⟩:=hrw.tab.entry (i:=xi) (k:=xk) (e:=1) om hm1 hm2 om om;unfold okR at hv1 hv2;rw[if_pos rfl]at hv1;rw[if_neg ox]at hv2;subst hv1;obtain⟨y1,rfl⟩:=hv2;have hcst:=ajo s.data.toList t.data.toList xi xk;rw[<-a05,<-a05]at hcst
     have HC1:Hid (a1A s.data.toList t.data.toList ((pre++[(⟨⟨xe,xi,xk,xc⟩,hx⟩:a6D (a0t s.data.toList t.data.toList j0 k0))]).map Subtype.val)=a1E (a1A s.data.toList t.data.toList (pre.map Subtype.val)) (cst s.data.toList t.data.toList xi xk+xc)):=hid (by
      rw[aoE,aoJ,List.map_nil,a4n])
     generalize cst s.data.toList t.data.toList xi xk=c1 at *;have qo:=heap_cell (j:=0) hrw.o rfl;have x1:=heap_cell (j:=1) hp rfl;have x2:=heap_cell (j:=2) hp rfl;have x3:=heap_cell (j:=3) hp rfl;have z1:(0:Int)<=(xi:Int):=om;have z2:(xi:Int)<(s.size:Int)+1:=om;have z3:(0:Int)<=(xk:Int):=om;have z4:(xk:Int)<(t.size:Int)+1:=om;have HI:=hid hI;have HRW:=hid hrw;have HP:=hid hp;have HM:=hid (And.intro hm3 hm4);generalize hg1:G1 xi=g1 at *;have r0:∀W3,KC W' W3->W3.cell? ⟨Bo,0,none⟩=some (.slice (some ⟨O,0,none⟩) (s.size+1) (s.size+1)):=fun W3 h=>keep_cell h qo;have r1:∀W3,KC W' W3->W3.cell? ⟨p,1,none⟩=some (.int .i64 xi):=fun W3 h=>keep_cell h x1;have r2:∀W3,KC W' W3->W3.cell? ⟨p,2,none⟩=some (.int .i64 xk):=fun W3 h=>keep_cell h x2;have r3:∀W3,KC W' W3->W3.cell? ⟨O,xi,none⟩=some (.slice (some ⟨g1,0,none⟩) (t.size+1) (t.size+1)):=fun W3 h=>keep_cell h q0;have r4:∀W3,KC W' W3->W3.cell? ⟨g1,xk * 2,none⟩=some (.int .i64 (c1:Nat)):=fun W3 h=>keep_cell h q1;have r5:∀W3,KC W' W3->W3.cell? ⟨g1,xk * 2+1,none⟩=some (.int .i64 y1):=fun W3 h=>keep_cell h q2;have hHeld:KC W' W'.drew:=(aoi _ _).drew
     clear hI hrw hp hm3 hm4 qo x1 x2 q0 q1 q2 hg1;unfold aaL;gi_wp2;refine ad5 (fun W3=>KC W' W3) ot ot (fun _ _ h=>h) ?_;refine tk [0,1,2,3,4,5,6,7,8] ?_;repeat (refine tkC hHeld (h:=?_);apply exq;(· intro W3 hS3;go_simp;try rfl);try simp only[gS])
     with_reducible refine tkE ?_
     refine rdy 9 (h:=fun K hK=>?_);go_simp;refine hK.out _ _ ?keep (fun hHeld=>?_);clear hK K;try simp only[gS]
     case keep=>exact((aoi _ W').alloc (aof _) _).drew
     refine rdy 10 (h:=fun K hK=>?_);go_simp;refine hK.out _ _ ?keep (fun hHeld=>?_);clear hK K;try simp only[gS]
     case keep=>exact((aoi _ W').alloc (aof _) _).drew
     refine wpAnyH_done ot ?_ _;simp only[Exit.then];clear r0 r1 r2 r3 r4 r5 hHeld;obtain⟨W5,hW5⟩:∃W5,W5=(W'.alloc (.cells #[.int .i64 (c1:Nat),.int .i64 y1] 257)).drew:=⟨_,rfl⟩
     rw[<-hW5];have hb5:Below W'.heap.size W' W5:=by rw[hW5];exact((aoi _ W').alloc (aof _) _).drew
     have hn5:W5.heap[W'.heap.size]? =some (.cells #[.int .i64 (c1:Nat),.int .i64 y1] 257 (0,0)):=by rw[hW5];exact World.alloc_heap_new W' _
     clear hW5;have hI5:=HI.out.keep hb5;obtain⟨y,hy⟩:=hI5.best;have hf5:=hI5.first;have hp5:=(hb5.block _ (aog.1 HP.out).1).trans HP.out
     have hlt5:W2.heap.size+5<=W'.heap.size:=by have:=HI.out.size;rw[HZ4.out]at this;exact this
     obtain⟨pr,hpr⟩:∃pr,pr=W'.heap.size:=⟨_,rfl⟩
     have HPR:=hid hpr;rw[<-hpr]at hn5 hlt5;rw[<-hpr];clear hpr;obtain⟨bb,hbb⟩:∃bb,bb=W2.heap.size:=⟨_,rfl⟩
     have HBB:=hid hbb;rw[<-hbb]at hy hf5 hlt5;rw[<-hbb];clear hbb;obtain⟨bf,hbf⟩:∃bf,bf=bb+1:=⟨_,rfl⟩
     have HBF:=hid hbf;have n1:¬bb=pr:=om;have n2:¬bf=pr:=om;have n3:¬pr=bb:=om;have n4:¬pr=bf:=om;have n5:¬bb=bf:=om;have n6:¬bf=bb:=om
     have n7:¬p=pr:=fun e=>by
      have:=(aog.1 HP.out).1
      have:=HPR.out;omega
     rw[<-hbf]at hf5;rw[<-hbf];clear hbf hlt5;have HN5:=hid hn5;have HY5:=hid hy;have HF5:=hid hf5;have e0:=heap_cell (j:=0) hn5 rfl;have e1:=heap_cell (j:=1) hn5 rfl;have e2:=heap_cell (j:=0) hy rfl;have e3:=heap_cell (j:=1) hy rfl;have e4:=heap_cell (j:=0) hf5 rfl;have e5:=heap_cell (j:=3) hp5 rfl;have f0:∀j,W5.frozen? ⟨pr,j,none⟩=false:=fun j=>by simp[World.frozen?,hn5]
     have f1:∀j,W5.frozen? ⟨bb,j,none⟩=false:=fun j=>by simp[World.frozen?,hy]
     have f2:∀j,W5.frozen? ⟨bf,j,none⟩=false:=fun j=>by simp[World.frozen?,hf5]
     have HB5:=hid hb5;clear hn5 hy hf5 hp5 hI5 hb5;have hw1:IntKind.i64.wrap ((c1:Int)+(xc:Int))=(c1:Int)+(xc:Int):=IntWalk.i64_in _ (by have:=HM.out.2;omega)
     have HTN:Hid (∀W9,TurnW W' W5 bb bf W9->∀b2 y2,a1E (a1A s.data.toList t.data.toList (pre.map Subtype.val)) (c1+xc)=some b2->W9.heap[bb]? =some (.cells #[.int .i64 (b2:Nat),.int .i64 y2] 257 (0,0))->W9.heap[bf]? =some (.cells #[.bool false] 4 (0,0))->
       ownPostG W4.heap.size Kq (fun pre W'=>BdI s t W2 W4.heap.size (pre.map Subtype.val) W') (fun _ _ _=>False) (pre++[(⟨⟨xe,xi,xk,xc⟩,hx⟩:a6D (a0t s.data.toList t.data.toList j0 k0))]) W' .normal {tmps:=#[],defers:=[]} W9):=hid (fun W9 ht b2 y2 h1 h2 h3=>by
      rw[HBF.out,HBB.out]at ht h3;rw[HBB.out]at h2;refine BdI.turn HI.out ht (by rw[HZ4.out];omega) ?_ ⟨y2,?_⟩ h3
      ·simp
      rw[HC1.out,h1];exact h2)
     have HBN:=hid (fun(h:(pre.map Subtype.val).isEmpty=false)=>adZ (s:=s.data.toList) (t:=t.data.toList) (l:=pre.map Subtype.val) (by intro e;rw[e]at h;cases h));have HBE:=hid (fun(h:(pre.map Subtype.val).isEmpty=true)=>show a1A s.data.toList t.data.toList (pre.map Subtype.val)=none by rw[List.isEmpty_iff.1 h];rfl);generalize a1A s.data.toList t.data.toList (pre.map Subtype.val)=bl at *;cases hem:(pre.map Subtype.val).isEmpty with
     |true=>
      rw[hem]at e4;have hbl:=HBE.out hem;rw[hbl]at e2 HTN HY5;clear hem hbl HBN HBE;gi_wp2;exact HTN.out _ (acl HPR.out n1 n2 HB5.out) (c1+xc) y1 rfl (acm n1 n5 HY5.out) (aaM n2 n6 HF5.out)
     | false=>
      rw[hem]at e4;obtain⟨b,hbl⟩:=HBN.out hem;rw[hbl]at e2 HTN HY5;simp only[aoW]at e2 HY5;clear hem hbl HBN HBE;rcases Nat.lt_trichotomy (c1+xc) b with hlt|heq|hgt
      ·have t1:(c1:Int)+(xc:Int)<(b:Int):=om;have HBF2:Hid (a1E (some b) (c1+xc)=some (c1+xc)):=hid (by simp[a1E,hlt]);clear hlt;gi_wp2;exact HTN.out _ (acl HPR.out n1 n2 HB5.out) (c1+xc) y1 HBF2.out (acm n1 n5 HY5.out) (aaM n2 n6 HF5.out)
      ·have t1:¬(c1:Int)+(xc:Int)<(b:Int):=om;have t2:((c1:Int)+(xc:Int)==(b:Int))=true:=by rw[beq_iff_eq];omega
       have HBF2:Hid (a1E (some b) (c1+xc)=some b):=hid (by
        unfold a1E;simp only;rw[if_neg om])
       clear heq;gi_wp2;exact HTN.out _ (agY HPR.out n1 n2 HB5.out) b _ HBF2.out (agZ n1 n5 HY5.out) (afo n2 n6 HF5.out)
      have t1:¬(c1:Int)+(xc:Int)<(b:Int):=om;have t2:((c1:Int)+(xc:Int)==(b:Int))=false:=by rw[beq_eq_false_iff_ne];omega
      have HBF2:Hid (a1E (some b) (c1+xc)=some b):=hid (by
       unfold a1E;simp only;rw[if_neg om])
      clear hgt;gi_wp2;exact HTN.out _ (alh HPR.out n1 n2 HB5.out) b y HBF2.out (ali n1 n5 HY5.out) (ajt n2 n6 HF5.out)
    case done=>
     rintro D ys W' hD hys hI hW'
     have hbest:(a1A s.data.toList t.data.toList (ys.map Subtype.val)).getD 0=cst s.data.toList t.data.toList j0 k0:=by
      rw[hys];exact afZ (by rw[<-a05];have:=HJ.out;omega) (by rw[<-a05];have:=HQ.out;omega)
     have hrw:=HR2.out.keep hI.bel
     have HMK:Hid (MarksAt n0 (D::ms2) W'):=hid (hrw.marks.cons (by have h1:=(aog.1 HR2.out.p).1;rw[HZ4.out]at hD;omega) hW' (fun hm=>by
      have h1:=(aog.1 (HR2.out.marks.2 D hm).2).1
      rw[HZ4.out]at hD;omega))
     obtain⟨y,hy⟩:=hI.best;rw[hbest]at hy;have HDN:=hid (fun y2=>RsW.put (y:=y2) HR2.out hI.bel HMK.out (by have:=HJ.out;omega) (by have:=HQ.out;omega));have q0:=hrw.tab.look (i:=j0) (aof _) (by have:=HJ.out;omega);obtain⟨v1,q1⟩:=hrw.tab.holdG (i:=j0) (j:=k0 * 2) (aof _) (by have:=HJ.out;omega) (by have:=HQ.out;omega);obtain⟨v2,q2⟩:=hrw.tab.holdG (i:=j0) (j:=k0 * 2+1) (aof _) (by have:=HJ.out;omega) (by have:=HQ.out;omega);have hfz:=hrw.tab.frozenG (i:=j0) (aof _) (by have:=HJ.out;omega);have nO:O≠G1 j0:=Ne.symm (hrw.tab.sep j0 (aof _) (by have:=HJ.out;omega)).1
     have nbb:W2.heap.size≠G1 j0:=Ne.symm (Nat.ne_of_lt (HR2.out.tab.ltG (i:=j0) (aof _) (by have:=HJ.out;omega)))
     have nBo:Bo≠G1 j0:=fun e=>by
      obtain⟨A,hA,_⟩:=hrw.tab.row j0 (aof _) (by have:=HJ.out;omega);have h9:=hrw.o;rw[e,hA]at h9;simp only[Option.some.injEq,Obj.cells.injEq]at h9;exact absurd h9.2.1 ox
     generalize G1 j0=g1 at *;generalize cst s.data.toList t.data.toList j0 k0=c1 at *;have qo:=heap_cell (j:=0) hrw.o rfl;have y0:=heap_cell (j:=0) hy rfl;have y1:=heap_cell (j:=1) hy rfl;have z1:(j0:Int)<(s.size:Int)+1:=om;have z2:(k0:Int)<(t.size:Int)+1:=by have:=HQ.out;omega
     have hHeld:KNg g1 W' W'.drew:=fun _ _ _=>rfl;have r0:∀W3,KNg g1 W' W3->W3.cell? ⟨Bo,0,none⟩=some (.slice (some ⟨O,0,none⟩) (s.size+1) (s.size+1)):=fun W3 h=>h.cell nBo qo;have r1:∀W3,KNg g1 W' W3->W3.cell? ⟨O,j0,none⟩=some (.slice (some ⟨g1,0,none⟩) (t.size+1) (t.size+1)):=fun W3 h=>h.cell nO q0;have r2:∀W3,KNg g1 W' W3->W3.cell? ⟨W2.heap.size,0,none⟩=some (.int .i64 (c1:Nat)):=fun W3 h=>h.cell nbb y0;have r3:∀W3,KNg g1 W' W3->W3.cell? ⟨W2.heap.size,1,none⟩=some (.int .i64 y):=fun W3 h=>h.cell nbb y1;clear nO nbb nBo hI hys hbest hrw hy qo y0 y1 q0 hW' hD;gi_wp2;refine wpIn_wide.2 ?_;refine Code.wp_mono (Q:=fun e a' W=>e= .normal/\(∃u,a'=a7j n0 Bo (j0:Int) (k0:Int) (D::ms2) u)/\RsW s t w n0 O Bo G1 j0 k0 (D::ms2) W) ?next2 ?reg2
     case reg2=>
      refine wp_region_held_drew (S:=KNg g1 W') ot hHeld (fun hHeld=>?_);refine tk [0,1,2,3,4,5,6] ?_;repeat (refine tkC hHeld (h:=?_);apply exq;(· intro W3 hS3;go_simp;try rfl);try simp only[gS])
      with_reducible refine tkE ?_
      refine rdy 7 (h:=fun K hK=>?_);go_simp;refine hK.out _ _ ?keep (fun hHeld=>?_);clear hK K;try simp only[gS]
      case keep=>exact fun k h1 h2=>(a01 h2).trans (a01 h2)
      exact wpAnyH_done ot ⟨rfl,a9G rfl,HDN.out _⟩ _
     case next2=>
      clear r0 r1 r2 r3 hHeld hfz q1 q2;rintro e a' W6 ⟨rfl,⟨u4,rfl⟩,hR6⟩;unfold a7j;have HR6:=hid hR6;clear hR6;have hw3:IntKind.i64.wrap ((k0:Int)-1)=(k0:Int)-1:=IntWalk.i64_in _ om;gi_wp2;refine⟨⟨k0,_,D::ms2,⟨by have:=HQ.out;omega,rfl,HR6.out⟩,a9G rfl⟩,?_⟩;show (((k0:Int)-1)+1).toNat<((k0:Int)+1).toNat
      omega
    case stop=>
     rintro D c pre W _ _ h _;exact h.elim
theorem aju(s t:ByteArray)(hs:s.size<=20)(ht:t.size<=20)(w:World):
  Calls prog 199 #[.agg #[.string s,.string t,.int .i64 1,.int .i64 1]] w (acn s t w):=(callsIn_wide (n:=4)).1 (alj s t hs ht w)
end Go.Proofs.YtdfkaijeppdhaaaGreatDoor
